/- Models, plain laws and contracts of functions of the given program; conditions as stated in each theorem. By an AI agent. -/
import Derived.Test.YtkhjcnjicjgfiaaGreatDoorW11
import Derived.Test.YtkhjcnjicjgfiaaGreatDoorW3
import Derived.Test.YtkhjcnjicjgfiaaGreatDoorW5
import Derived.Test.YtkhjcnjicjgfiaaGreatDoorW7
import Derived.Test.YtkhjcnjicjgfiaaGreatDoorW12
set_option linter.unusedSimpArgs false
set_option linter.unusedVariables false
namespace Go.Proofs.Heir
open Go Go.Am Go.RowKit Go.Lib
set_option maxRecDepth 100000
set_option maxHeartbeats 8000000
def oI1 (s : ByteArray) : List MS := [.live 5 [.agg [.own 1 0 2, .lit (.int .i64 (400)), .lit (.int .i64 (0)), .lit (.string s), .lit (.bool false)]] false, .live 10 [.agg [.lit (.int .i64 (0)), .lit (.string ⟨⟨[]⟩⟩), .lit (.string ⟨⟨[]⟩⟩), .lit (.string ⟨⟨[]⟩⟩), .lit (.slice none 0 0), .lit (.int .i64 (-1)), .lit (.slice none 0 0), .lit (.int .i64 (-1)), .lit (.int .i64 (-1)), .lit (.int .i64 (0))], .agg [.lit (.int .i64 (1)), .lit (.string ⟨⟨[100, 105, 118]⟩⟩), .lit (.string ⟨⟨[]⟩⟩), .lit (.string ⟨⟨[]⟩⟩), .lit (.slice none 0 0), .lit (.int .i64 (-1)), .lit (.slice none 0 0), .lit (.int .i64 (-1)), .lit (.int .i64 (-1)), .lit (.int .i64 (0))]] false]
def om1 : Ans := ⟨219, oI1 ⟨⟨[34, 102, 34, 62, 60, 112, 62, 60, 105, 110, 112, 117, 116, 62, 60, 47, 105, 110, 112, 117, 116, 62, 60, 47, 112, 62, 60, 47, 102, 111, 114, 109, 62, 60, 105, 110, 112, 117, 116, 32, 102, 111, 114, 109, 61, 34, 102, 34, 62, 60, 47, 105, 110, 112, 117, 116, 62, 60, 47, 100, 105, 118, 62]⟩⟩, [.ptr 0 0 0, .lit (.string ⟨⟨[34]⟩⟩)], oI1 ⟨⟨[102, 34, 62, 60, 112, 62, 60, 105, 110, 112, 117, 116, 62, 60, 47, 105, 110, 112, 117, 116, 62, 60, 47, 112, 62, 60, 47, 102, 111, 114, 109, 62, 60, 105, 110, 112, 117, 116, 32, 102, 111, 114, 109, 61, 34, 102, 34, 62, 60, 47, 105, 110, 112, 117, 116, 62, 60, 47, 100, 105, 118, 62]⟩⟩, .tup []⟩
theorem om1_run : runF envA 1000 60 om1.g om1.ins om1.args = some (om1.outs, om1.res) := by kernel_rfl
def oq1 : Ans := ⟨205, oI1 ⟨⟨[34, 102, 34, 62, 60, 112, 62, 60, 105, 110, 112, 117, 116, 62, 60, 47, 105, 110, 112, 117, 116, 62, 60, 47, 112, 62, 60, 47, 102, 111, 114, 109, 62, 60, 105, 110, 112, 117, 116, 32, 102, 111, 114, 109, 61, 34, 102, 34, 62, 60, 47, 105, 110, 112, 117, 116, 62, 60, 47, 100, 105, 118, 62]⟩⟩, [.ptr 0 0 0], oI1 ⟨⟨[62, 60, 112, 62, 60, 105, 110, 112, 117, 116, 62, 60, 47, 105, 110, 112, 117, 116, 62, 60, 47, 112, 62, 60, 47, 102, 111, 114, 109, 62, 60, 105, 110, 112, 117, 116, 32, 102, 111, 114, 109, 61, 34, 102, 34, 62, 60, 47, 105, 110, 112, 117, 116, 62, 60, 47, 100, 105, 118, 62]⟩⟩, .lit (.string ⟨⟨[102]⟩⟩)⟩
theorem oq1_ok : oq1.OK Tryz.prog := ⟨f205_ok (.own 1 0 2) (.lit (.int .i64 (400))) (.lit (.int .i64 (0))) _ [102] [62, 60, 112, 62, 60, 105, 110, 112, 117, 116, 62, 60, 47, 105, 110, 112, 117, 116, 62, 60, 47, 112, 62, 60, 47, 102, 111, 114, 109, 62, 60, 105, 110, 112, 117, 116, 32, 102, 111, 114, 109, 61, 34, 102, 34, 62, 60, 47, 105, 110, 112, 117, 116, 62, 60, 47, 100, 105, 118, 62] _ (by decide) (by decide) (Ans.of envA_good om1_run).1, c205⟩
def oI2 (s : ByteArray) : List MS := [.live 5 [.agg [.own 1 0 5, .lit (.int .i64 (400)), .lit (.int .i64 (0)), .lit (.string s), .lit (.bool false)]] false, .live 10 [.agg [.lit (.int .i64 (0)), .lit (.string ⟨⟨[]⟩⟩), .lit (.string ⟨⟨[]⟩⟩), .lit (.string ⟨⟨[]⟩⟩), .lit (.slice none 0 0), .lit (.int .i64 (-1)), .lit (.slice none 0 0), .lit (.int .i64 (-1)), .lit (.int .i64 (-1)), .lit (.int .i64 (0))], .agg [.lit (.int .i64 (1)), .lit (.string ⟨⟨[100, 105, 118]⟩⟩), .lit (.string ⟨⟨[]⟩⟩), .lit (.string ⟨⟨[]⟩⟩), .lit (.slice none 0 0), .lit (.int .i64 (-1)), .own 2 0 1, .lit (.int .i64 (-1)), .lit (.int .i64 (-1)), .lit (.int .i64 (0))], .agg [.lit (.int .i64 (1)), .lit (.string ⟨⟨[102, 111, 114, 109]⟩⟩), .lit (.string ⟨⟨[]⟩⟩), .lit (.string ⟨⟨[]⟩⟩), .own 3 0 1, .lit (.int .i64 (1)), .own 4 0 1, .lit (.int .i64 (-1)), .lit (.int .i64 (-1)), .lit (.int .i64 (0))], .agg [.lit (.int .i64 (1)), .lit (.string ⟨⟨[112]⟩⟩), .lit (.string ⟨⟨[]⟩⟩), .lit (.string ⟨⟨[]⟩⟩), .lit (.slice none 0 0), .lit (.int .i64 (2)), .own 5 0 1, .lit (.int .i64 (-1)), .lit (.int .i64 (-1)), .lit (.int .i64 (0))], .agg [.lit (.int .i64 (1)), .lit (.string ⟨⟨[105, 110, 112, 117, 116]⟩⟩), .lit (.string ⟨⟨[]⟩⟩), .lit (.string ⟨⟨[]⟩⟩), .lit (.slice none 0 0), .lit (.int .i64 (3)), .lit (.slice none 0 0), .lit (.int .i64 (-1)), .lit (.int .i64 (-1)), .lit (.int .i64 (0))]] false, .live 1 [.lit (.int .i64 (2))] false, .live 2 [.agg [.lit (.string ⟨⟨[105, 100]⟩⟩), .lit (.string ⟨⟨[102]⟩⟩)]] false, .live 1 [.lit (.int .i64 (3))] false, .live 1 [.lit (.int .i64 (4))] false]
def om2 : Ans := ⟨219, oI2 ⟨⟨[34, 102, 34, 62, 60, 47, 105, 110, 112, 117, 116, 62, 60, 47, 100, 105, 118, 62]⟩⟩, [.ptr 0 0 0, .lit (.string ⟨⟨[34]⟩⟩)], oI2 ⟨⟨[102, 34, 62, 60, 47, 105, 110, 112, 117, 116, 62, 60, 47, 100, 105, 118, 62]⟩⟩, .tup []⟩
theorem om2_run : runF envA 1000 60 om2.g om2.ins om2.args = some (om2.outs, om2.res) := by kernel_rfl
def oq2 : Ans := ⟨205, oI2 ⟨⟨[34, 102, 34, 62, 60, 47, 105, 110, 112, 117, 116, 62, 60, 47, 100, 105, 118, 62]⟩⟩, [.ptr 0 0 0], oI2 ⟨⟨[62, 60, 47, 105, 110, 112, 117, 116, 62, 60, 47, 100, 105, 118, 62]⟩⟩, .lit (.string ⟨⟨[102]⟩⟩)⟩
theorem oq2_ok : oq2.OK Tryz.prog := ⟨f205_ok (.own 1 0 5) (.lit (.int .i64 (400))) (.lit (.int .i64 (0))) _ [102] [62, 60, 47, 105, 110, 112, 117, 116, 62, 60, 47, 100, 105, 118, 62] _ (by decide) (by decide) (Ans.of envA_good om2_run).1, c205⟩
theorem oq_ok : ∀ r ∈ [oq1, oq2], r.OK Tryz.prog := Ans.cons oq1_ok (Ans.cons oq2_ok (fun _ h => by cases h))
def oR : Ans := ⟨54, [], [.lit (.string ⟨⟨[60, 100, 105, 118, 62, 60, 102, 111, 114, 109, 32, 105, 100, 61, 34, 102, 34, 62, 60, 112, 62, 60, 105, 110, 112, 117, 116, 62, 60, 47, 105, 110, 112, 117, 116, 62, 60, 47, 112, 62, 60, 47, 102, 111, 114, 109, 62, 60, 105, 110, 112, 117, 116, 32, 102, 111, 114, 109, 61, 34, 102, 34, 62, 60, 47, 105, 110, 112, 117, 116, 62, 60, 47, 100, 105, 118, 62]⟩⟩), .lit (.int .i64 (9))], [.live 10 [.agg [.lit (.int .i64 (0)), .lit (.string ⟨⟨[]⟩⟩), .lit (.string ⟨⟨[]⟩⟩), .lit (.string ⟨⟨[]⟩⟩), .lit (.slice none 0 0), .lit (.int .i64 (-1)), .lit (.slice none 0 0), .lit (.int .i64 (-1)), .lit (.int .i64 (-1)), .lit (.int .i64 (0))], .agg [.lit (.int .i64 (1)), .lit (.string ⟨⟨[100, 105, 118]⟩⟩), .lit (.string ⟨⟨[]⟩⟩), .lit (.string ⟨⟨[]⟩⟩), .lit (.slice none 0 0), .lit (.int .i64 (-1)), .own 1 0 2, .lit (.int .i64 (-1)), .lit (.int .i64 (-1)), .lit (.int .i64 (0))], .agg [.lit (.int .i64 (1)), .lit (.string ⟨⟨[102, 111, 114, 109]⟩⟩), .lit (.string ⟨⟨[]⟩⟩), .lit (.string ⟨⟨[]⟩⟩), .own 2 0 1, .lit (.int .i64 (1)), .own 3 0 1, .lit (.int .i64 (-1)), .lit (.int .i64 (-1)), .lit (.int .i64 (0))], .agg [.lit (.int .i64 (1)), .lit (.string ⟨⟨[112]⟩⟩), .lit (.string ⟨⟨[]⟩⟩), .lit (.string ⟨⟨[]⟩⟩), .lit (.slice none 0 0), .lit (.int .i64 (2)), .own 4 0 1, .lit (.int .i64 (-1)), .lit (.int .i64 (-1)), .lit (.int .i64 (0))], .agg [.lit (.int .i64 (1)), .lit (.string ⟨⟨[105, 110, 112, 117, 116]⟩⟩), .lit (.string ⟨⟨[]⟩⟩), .lit (.string ⟨⟨[]⟩⟩), .lit (.slice none 0 0), .lit (.int .i64 (3)), .lit (.slice none 0 0), .lit (.int .i64 (-1)), .lit (.int .i64 (-1)), .lit (.int .i64 (0))], .agg [.lit (.int .i64 (1)), .lit (.string ⟨⟨[105, 110, 112, 117, 116]⟩⟩), .lit (.string ⟨⟨[]⟩⟩), .lit (.string ⟨⟨[]⟩⟩), .own 5 0 1, .lit (.int .i64 (1)), .lit (.slice none 0 0), .lit (.int .i64 (-1)), .lit (.int .i64 (-1)), .lit (.int .i64 (0))]] false, .live 1 [.lit (.int .i64 (2)), .lit (.int .i64 (5))] false, .live 2 [.agg [.lit (.string ⟨⟨[105, 100]⟩⟩), .lit (.string ⟨⟨[102]⟩⟩)]] false, .live 1 [.lit (.int .i64 (3))] false, .live 1 [.lit (.int .i64 (4))] false, .live 2 [.agg [.lit (.string ⟨⟨[102, 111, 114, 109]⟩⟩), .lit (.string ⟨⟨[102]⟩⟩)]] false], .tup [.agg [.own 0 0 6, .lit (.int .i64 (9))], .lit (.int .i64 (1)), .lit (.int .i64 (0))]⟩
theorem oR_run : runF (envA.more [oq1, oq2]) 1000 60 oR.g oR.ins oR.args = some (oR.outs, oR.res) := by kernel_rfl
theorem oR_ok : oR.OK Tryz.prog := Ans.of (EEnv.more_good envA_good oq_ok) oR_run
def oT : ByteArray := ⟨⟨[60, 100, 105, 118, 62, 60, 102, 111, 114, 109, 32, 105, 100, 61, 34, 102, 34, 62, 60, 112, 62, 60, 105, 110, 112, 117, 116, 62, 60, 47, 105, 110, 112, 117, 116, 62, 60, 47, 112, 62, 60, 47, 102, 111, 114, 109, 62, 60, 105, 110, 112, 117, 116, 32, 102, 111, 114, 109, 61, 34, 102, 34, 62, 60, 47, 105, 110, 112, 117, 116, 62, 60, 47, 100, 105, 118, 62]⟩⟩
@[reducible] def wDiv : ByteArray := ⟨#[100, 105, 118]⟩
@[reducible] def wForm : ByteArray := ⟨#[102, 111, 114, 109]⟩
@[reducible] def wPe : ByteArray := ⟨#[112]⟩
@[reducible] def wInp : ByteArray := ⟨#[105, 110, 112, 117, 116]⟩
@[reducible] def wId : ByteArray := ⟨#[105, 100]⟩
@[reducible] def wEf : ByteArray := ⟨#[102]⟩
def oF : ForM := ⟨[⟨0, ⟨#[]⟩, ⟨#[]⟩, ⟨#[]⟩, [], -1, [], -1, -1, 0⟩, ⟨1, wDiv, ⟨#[]⟩, ⟨#[]⟩, [], -1, [2, 5], -1, -1, 0⟩, ⟨1, wForm, ⟨#[]⟩, ⟨#[]⟩, [⟨wId, wEf⟩], 1, [3], -1, -1, 0⟩, ⟨1, wPe, ⟨#[]⟩, ⟨#[]⟩, [], 2, [4], -1, -1, 0⟩, ⟨1, wInp, ⟨#[]⟩, ⟨#[]⟩, [], 3, [], -1, -1, 0⟩, ⟨1, wInp, ⟨#[]⟩, ⟨#[]⟩, [⟨wForm, wEf⟩], 1, [], -1, -1, 0⟩], 9⟩
theorem ofresh_ok : FnOK Tryz.prog 54 [] [eStr oT, eInt 9] [] (.tup [eFor oF, eInt 1, eInt 0]) := by
  have h := oR_ok.1
  refine FnOK.frozen (objsR 0 oR.outs) ?_ (by kernel_rfl) h ?_
  · funext t
    match t with
    | 0 => rfl
    | 1 => rfl
    | 2 => rfl
    | 3 => rfl
    | 4 => rfl
    | 5 => rfl
    | n + 6 => rfl
  · have nil2 : ∀ wd, NilK (.sl wd []) := fun wd => .inr (.inr ⟨wd, rfl⟩)
    refine ⟨⟨⟨10, _, _, _, rfl, rfl, rfl, by decide, rfl, RowsM.of ⟨?_, ?_, ?_, ?_, ?_, ?_, trivial⟩⟩, rfl, trivial⟩, rfl, rfl, trivial⟩
    · exact ⟨rfl, rfl, rfl, rfl, nil2 _, rfl, nil2 _, rfl, rfl, rfl, trivial⟩
    · exact ⟨rfl, rfl, rfl, rfl, nil2 _, rfl, ⟨1, _, _, _, rfl, rfl, rfl, by decide, rfl, RowsM.of ⟨rfl, rfl, trivial⟩⟩, rfl, rfl, rfl, trivial⟩
    · exact ⟨rfl, rfl, rfl, rfl, ⟨2, _, _, _, rfl, rfl, rfl, by decide, rfl, RowsM.of ⟨⟨rfl, rfl, trivial⟩, trivial⟩⟩, rfl, ⟨1, _, _, _, rfl, rfl, rfl, by decide, rfl, RowsM.of ⟨rfl, trivial⟩⟩, rfl, rfl, rfl, trivial⟩
    · exact ⟨rfl, rfl, rfl, rfl, nil2 _, rfl, ⟨1, _, _, _, rfl, rfl, rfl, by decide, rfl, RowsM.of ⟨rfl, trivial⟩⟩, rfl, rfl, rfl, trivial⟩
    · exact ⟨rfl, rfl, rfl, rfl, nil2 _, rfl, nil2 _, rfl, rfl, rfl, trivial⟩
    · exact ⟨rfl, rfl, rfl, rfl, ⟨2, _, _, _, rfl, rfl, rfl, by decide, rfl, RowsM.of ⟨⟨rfl, rfl, trivial⟩, trivial⟩⟩, rfl, nil2 _, rfl, rfl, rfl, trivial⟩
end Go.Proofs.Heir
namespace Go.Proofs.Heir
open Go Go.Am Go.RowKit Go.Lib
set_option maxRecDepth 100000
set_option maxHeartbeats 16000000 in
/-- shade.All -/
theorem f82_own (f : ForM) (hs : SmallN f.nodes) (n : Int) (e0 : (rightF f && thereN f.nodes n) = true) : FnOK Tryz.prog 82 [] [eFor f, eInt n] [rInts (allU f n)] (.own 0 0 (allU f n).length) := by
  have h86 := f147_ok f hs [n] (by simp)
  have e1 : (rightF f && !decide (0 ≤ idxI (fun n => !thereN f.nodes n) [n])) = (rightF f && thereN f.nodes n) := by
    congr 1
    unfold idxI
    cases h : thereN f.nodes n <;> simp [List.findIdx?_cons, h]
  rw [e1] at h86
  obtain ⟨l, m⟩ := f
  unfold allU
  simp only at h86 e0 ⊢
  rw [if_pos e0]
  have hlm : (l.map oNode).length = l.length := List.length_map ..
  refine FnOK.startC (rvs := [.tmp 4]) G G_good Tryz.func82 rfl Tryz.ntmps82 rfl rfl ?_; delta List.toArray; ((with_reducible conv => whnf); (with_reducible conv => congr <;> reduce); repeat ((first | (with_reducible refine HaltK.mk ?_) | (with_reducible refine StopK.mk ?_)); (with_reducible conv => whnf); (with_reducible conv => congr <;> reduce)))
  rw [e0] at h86
  refine CallK.lit [141] h86 c147 ⟨⟨rfl, rfl, trivial⟩, frz_ints (l := [n]) rfl rfl rfl rfl, trivial⟩ rfl rfl ?_; ((with_reducible conv => whnf); (with_reducible conv => congr <;> reduce); repeat ((first | (with_reducible refine HaltK.mk ?_) | (with_reducible refine StopK.mk ?_)); (with_reducible conv => whnf); (with_reducible conv => congr <;> reduce)))
  obtain ⟨hr, hn⟩ : rightF ⟨l, m⟩ = true ∧ thereN l n = true := by simpa using e0
  have T := U.tree_of hr
  have hol := U.ord_len T l.length hn
  simp only at T hol
  repeat' (first
    | (first
    | ((with_reducible show IfK _ _ _ _); first | refine IfK.ff ?_ | refine IfK.tt ?_ | refine IfK.no (by first | rfl | assumption | exact nf (by assumption) | exact nt (by assumption) | ((try simp only [castN]); first | (simp []; done) | (simp []; omega))) ?_ | refine IfK.yes (by first | rfl | assumption | exact nf (by assumption) | exact nt (by assumption) | ((try simp only [castN]); first | (simp []; done) | (simp []; omega))) ?_)
    | ((with_reducible show NeedK _ _ _ _); refine NeedK.mk (by (try simp only [castN]); omega) ?_)
    | ((with_reducible show DrawK _ _ _ _); refine DrawK.mk (by kernel_rfl) (by kernel_rfl) (by kernel_rfl) ?_)) <;> ((with_reducible conv => whnf); (with_reducible conv => congr <;> reduce); repeat ((first | (with_reducible refine HaltK.mk ?_) | (with_reducible refine StopK.mk ?_)); (with_reducible conv => whnf); (with_reducible conv => congr <;> reduce)))
    | ((with_reducible show (_ ∧ _) ∧ _ ∧ _); refine ⟨⟨rfl, rfl⟩, ?_, ?_⟩ <;> (with_reducible conv => whnf) <;> repeat' (first | (with_reducible exact trivial) | (with_reducible refine And.intro ?_ ?_ <;> with_reducible conv => whnf))))
  refine LoopK.ghost 5 51 1 rfl rfl ?_
  refine LoopK.use G G_good (fun (i : List Int × List Int × List Int) => [(2, .ptr 20 0 0), (5, .own 51 0 i.1.length), (6, .ptr 60 0 0)])
    (fun i => [(20, .live 2 [eFor ⟨l, m⟩] false), (51, rInts i.1), (60, .live 1 [.own 181 0 i.2.1.length] false), (181, rInts (i.2.1 ++ i.2.2))])
    (fun i => U.ordN l l.length n = i.1 ++ U.rest l i.2.1 ∧ ∀ c ∈ i.2.1, thereN l c = true) (fun i => l.length - i.1.length) ([], [n], []) ⟨by simp [U.rest], fun c hc => by rw [List.mem_singleton] at hc; subst hc; exact hn⟩
    (by refine ⟨⟨rfl, rfl⟩, ⟨⟨rfl, rfl⟩, ⟨rfl, rfl⟩, ⟨rfl, rfl⟩, trivial⟩, ⟨⟨rfl, rfl, trivial⟩, trivial⟩, ⟨.refl rfl, noRef_ints _⟩, ⟨⟨rfl, rfl⟩, trivial⟩, ⟨.refl rfl, noRef_ints _⟩, trivial⟩) ?_
  rintro ⟨out, st, sp⟩ ⟨ho, hst⟩
  simp only at ho hst
  ((with_reducible conv => whnf); (with_reducible conv => congr <;> reduce); repeat ((first | (with_reducible refine HaltK.mk ?_) | (with_reducible refine StopK.mk ?_)); (with_reducible conv => whnf); (with_reducible conv => congr <;> reduce)))
  have hoL := congrArg List.length ho
  rw [List.length_append] at hoL
  have hol' : out.length = (out.map oInt).length := (List.length_map ..).symm
  have hrl := U.rest_len T hst
  have hl60 := hs.len
  simp only at hl60
  obtain h | ⟨st', t, h⟩ := List.eq_nil_or_concat st <;> (try rw [List.concat_eq_append] at h) <;> subst h
  · repeat' (first
    | (first
    | ((with_reducible show IfK _ _ _ _); first | refine IfK.ff ?_ | refine IfK.tt ?_ | refine IfK.no (by first | rfl | assumption | exact nf (by assumption) | exact nt (by assumption) | ((try simp only [castN]); first | (simp []; done) | (simp []; omega))) ?_ | refine IfK.yes (by first | rfl | assumption | exact nf (by assumption) | exact nt (by assumption) | ((try simp only [castN]); first | (simp []; done) | (simp []; omega))) ?_)
    | ((with_reducible show NeedK _ _ _ _); refine NeedK.mk (by (try simp only [castN]); omega) ?_)
    | ((with_reducible show DrawK _ _ _ _); refine DrawK.mk (by kernel_rfl) (by kernel_rfl) (by kernel_rfl) ?_)) <;> ((with_reducible conv => whnf); (with_reducible conv => congr <;> reduce); repeat ((first | (with_reducible refine HaltK.mk ?_) | (with_reducible refine StopK.mk ?_)); (with_reducible conv => whnf); (with_reducible conv => congr <;> reduce)))
    | ((with_reducible show (_ ∧ _) ∧ _ ∧ _); refine ⟨⟨rfl, rfl⟩, ?_, ?_⟩ <;> (with_reducible conv => whnf) <;> repeat' (first | (with_reducible exact trivial) | (with_reducible refine And.intro ?_ ?_ <;> with_reducible conv => whnf))))
    all_goals have ho' : U.ordN l l.length n = out := by rw [ho]; simp [U.rest]
    all_goals clear ho hoL
    all_goals subst ho'
    all_goals first
      | rfl
      | exact MFL_refl (noRef_ints _)
  · have ht := hst t (by simp)
    have hlen : (st' ++ [t]).length = st'.length + 1 := by simp
    obtain ⟨k, x, rfl, hx, hnx⟩ := there_iff.1 ht
    rw [hlen]
    rw [hlen] at hrl
    repeat' (first
    | (first
    | ((with_reducible show IfK _ _ _ _); first | refine IfK.ff ?_ | refine IfK.tt ?_ | refine IfK.no (by first | rfl | assumption | exact nf (by assumption) | exact nt (by assumption) | ((try simp only [castN]); first | (simp []; done) | (simp []; omega))) ?_ | refine IfK.yes (by first | rfl | assumption | exact nf (by assumption) | exact nt (by assumption) | ((try simp only [castN]); first | (simp []; done) | (simp []; omega))) ?_)
    | ((with_reducible show NeedK _ _ _ _); refine NeedK.mk (by (try simp only [castN]); omega) ?_)
    | ((with_reducible show DrawK _ _ _ _); refine DrawK.mk (by kernel_rfl) (by kernel_rfl) (by kernel_rfl) ?_)) <;> ((with_reducible conv => whnf); (with_reducible conv => congr <;> reduce); repeat ((first | (with_reducible refine HaltK.mk ?_) | (with_reducible refine StopK.mk ?_)); (with_reducible conv => whnf); (with_reducible conv => congr <;> reduce)))
    | ((with_reducible show (_ ∧ _) ∧ _ ∧ _); refine ⟨⟨rfl, rfl⟩, ?_, ?_⟩ <;> (with_reducible conv => whnf) <;> repeat' (first | (with_reducible exact trivial) | (with_reducible refine And.intro ?_ ?_ <;> with_reducible conv => whnf))))
    refine LtK.mk st'.length (by (try simp only [castN]); omega) (by omega) ?_; ((with_reducible conv => whnf); (with_reducible conv => congr <;> reduce); repeat ((first | (with_reducible refine HaltK.mk ?_) | (with_reducible refine StopK.mk ?_)); (with_reducible conv => whnf); (with_reducible conv => congr <;> reduce)))
    refine ElemK.mk (eInt (k : Int)) (by rw [Nat.zero_add, List.getElem?_map, List.append_assoc, List.getElem?_append_right (Nat.le_refl _), Nat.sub_self]; rfl) ?_; ((with_reducible conv => whnf); (with_reducible conv => congr <;> reduce); repeat ((first | (with_reducible refine HaltK.mk ?_) | (with_reducible refine StopK.mk ?_)); (with_reducible conv => whnf); (with_reducible conv => congr <;> reduce)))
    repeat' (first
    | (first
    | ((with_reducible show IfK _ _ _ _); first | refine IfK.ff ?_ | refine IfK.tt ?_ | refine IfK.no (by first | rfl | assumption | exact nf (by assumption) | exact nt (by assumption) | ((try simp only [castN]); first | (simp []; done) | (simp []; omega))) ?_ | refine IfK.yes (by first | rfl | assumption | exact nf (by assumption) | exact nt (by assumption) | ((try simp only [castN]); first | (simp []; done) | (simp []; omega))) ?_)
    | ((with_reducible show NeedK _ _ _ _); refine NeedK.mk (by (try simp only [castN]); omega) ?_)
    | ((with_reducible show DrawK _ _ _ _); refine DrawK.mk (by kernel_rfl) (by kernel_rfl) (by kernel_rfl) ?_)) <;> ((with_reducible conv => whnf); (with_reducible conv => congr <;> reduce); repeat ((first | (with_reducible refine HaltK.mk ?_) | (with_reducible refine StopK.mk ?_)); (with_reducible conv => whnf); (with_reducible conv => congr <;> reduce)))
    | ((with_reducible show (_ ∧ _) ∧ _ ∧ _); refine ⟨⟨rfl, rfl⟩, ?_, ?_⟩ <;> (with_reducible conv => whnf) <;> repeat' (first | (with_reducible exact trivial) | (with_reducible refine And.intro ?_ ?_ <;> with_reducible conv => whnf))))
    refine CutK.mk 0 st'.length rfl (by (try simp only [castN]); omega) (by omega) ?_; ((with_reducible conv => whnf); (with_reducible conv => congr <;> reduce); repeat ((first | (with_reducible refine HaltK.mk ?_) | (with_reducible refine StopK.mk ?_)); (with_reducible conv => whnf); (with_reducible conv => congr <;> reduce)))
    repeat' (first
    | (first
    | ((with_reducible show IfK _ _ _ _); first | refine IfK.ff ?_ | refine IfK.tt ?_ | refine IfK.no (by first | rfl | assumption | exact nf (by assumption) | exact nt (by assumption) | ((try simp only [castN]); first | (simp []; done) | (simp []; omega))) ?_ | refine IfK.yes (by first | rfl | assumption | exact nf (by assumption) | exact nt (by assumption) | ((try simp only [castN]); first | (simp []; done) | (simp []; omega))) ?_)
    | ((with_reducible show NeedK _ _ _ _); refine NeedK.mk (by (try simp only [castN]); omega) ?_)
    | ((with_reducible show DrawK _ _ _ _); refine DrawK.mk (by kernel_rfl) (by kernel_rfl) (by kernel_rfl) ?_)) <;> ((with_reducible conv => whnf); (with_reducible conv => congr <;> reduce); repeat ((first | (with_reducible refine HaltK.mk ?_) | (with_reducible refine StopK.mk ?_)); (with_reducible conv => whnf); (with_reducible conv => congr <;> reduce)))
    | ((with_reducible show (_ ∧ _) ∧ _ ∧ _); refine ⟨⟨rfl, rfl⟩, ?_, ?_⟩ <;> (with_reducible conv => whnf) <;> repeat' (first | (with_reducible exact trivial) | (with_reducible refine And.intro ?_ ?_ <;> with_reducible conv => whnf))))
    refine AppK.mk (out.map oInt) [eInt (k : Int)] ⟨rfl, hol', rfl⟩ ⟨rfl, rfl, rfl⟩ rfl (by simp; omega) (by simp; omega) ?_; ((with_reducible conv => whnf); (with_reducible conv => congr <;> reduce); repeat ((first | (with_reducible refine HaltK.mk ?_) | (with_reducible refine StopK.mk ?_)); (with_reducible conv => whnf); (with_reducible conv => congr <;> reduce)))
    repeat' (first
    | (first
    | ((with_reducible show IfK _ _ _ _); first | refine IfK.ff ?_ | refine IfK.tt ?_ | refine IfK.no (by first | rfl | assumption | exact nf (by assumption) | exact nt (by assumption) | ((try simp only [castN]); first | (simp []; done) | (simp []; omega))) ?_ | refine IfK.yes (by first | rfl | assumption | exact nf (by assumption) | exact nt (by assumption) | ((try simp only [castN]); first | (simp []; done) | (simp []; omega))) ?_)
    | ((with_reducible show NeedK _ _ _ _); refine NeedK.mk (by (try simp only [castN]); omega) ?_)
    | ((with_reducible show DrawK _ _ _ _); refine DrawK.mk (by kernel_rfl) (by kernel_rfl) (by kernel_rfl) ?_)) <;> ((with_reducible conv => whnf); (with_reducible conv => congr <;> reduce); repeat ((first | (with_reducible refine HaltK.mk ?_) | (with_reducible refine StopK.mk ?_)); (with_reducible conv => whnf); (with_reducible conv => congr <;> reduce)))
    | ((with_reducible show (_ ∧ _) ∧ _ ∧ _); refine ⟨⟨rfl, rfl⟩, ?_, ?_⟩ <;> (with_reducible conv => whnf) <;> repeat' (first | (with_reducible exact trivial) | (with_reducible refine And.intro ?_ ?_ <;> with_reducible conv => whnf))))
    obtain ⟨a1, a2, a3, a4, a5, a6, a7, a8, a9, a10⟩ := x
    refine IdxK.mk k (eNode ⟨a1, a2, a3, a4, a5, a6, a7, a8, a9, a10⟩) rfl (node_get hx) ?_; ((with_reducible conv => whnf); (with_reducible conv => congr <;> reduce); repeat ((first | (with_reducible refine HaltK.mk ?_) | (with_reducible refine StopK.mk ?_)); (with_reducible conv => whnf); (with_reducible conv => congr <;> reduce)))
    repeat' (first
    | (first
    | ((with_reducible show IfK _ _ _ _); first | refine IfK.ff ?_ | refine IfK.tt ?_ | refine IfK.no (by first | rfl | assumption | exact nf (by assumption) | exact nt (by assumption) | ((try simp only [castN]); first | (simp []; done) | (simp []; omega))) ?_ | refine IfK.yes (by first | rfl | assumption | exact nf (by assumption) | exact nt (by assumption) | ((try simp only [castN]); first | (simp []; done) | (simp []; omega))) ?_)
    | ((with_reducible show NeedK _ _ _ _); refine NeedK.mk (by (try simp only [castN]); omega) ?_)
    | ((with_reducible show DrawK _ _ _ _); refine DrawK.mk (by kernel_rfl) (by kernel_rfl) (by kernel_rfl) ?_)) <;> ((with_reducible conv => whnf); (with_reducible conv => congr <;> reduce); repeat ((first | (with_reducible refine HaltK.mk ?_) | (with_reducible refine StopK.mk ?_)); (with_reducible conv => whnf); (with_reducible conv => congr <;> reduce)))
    | ((with_reducible show (_ ∧ _) ∧ _ ∧ _); refine ⟨⟨rfl, rfl⟩, ?_, ?_⟩ <;> (with_reducible conv => whnf) <;> repeat' (first | (with_reducible exact trivial) | (with_reducible refine And.intro ?_ ?_ <;> with_reducible conv => whnf))))
    refine CallK.val [] (f148_ok a7) c148 ⟨rfl, trivial⟩ rfl rfl rfl ?_; ((with_reducible conv => whnf); (with_reducible conv => congr <;> reduce); repeat ((first | (with_reducible refine HaltK.mk ?_) | (with_reducible refine StopK.mk ?_)); (with_reducible conv => whnf); (with_reducible conv => congr <;> reduce)))
    repeat' (first
    | (first
    | ((with_reducible show IfK _ _ _ _); first | refine IfK.ff ?_ | refine IfK.tt ?_ | refine IfK.no (by first | rfl | assumption | exact nf (by assumption) | exact nt (by assumption) | ((try simp only [castN]); first | (simp []; done) | (simp []; omega))) ?_ | refine IfK.yes (by first | rfl | assumption | exact nf (by assumption) | exact nt (by assumption) | ((try simp only [castN]); first | (simp []; done) | (simp []; omega))) ?_)
    | ((with_reducible show NeedK _ _ _ _); refine NeedK.mk (by (try simp only [castN]); omega) ?_)
    | ((with_reducible show DrawK _ _ _ _); refine DrawK.mk (by kernel_rfl) (by kernel_rfl) (by kernel_rfl) ?_)) <;> ((with_reducible conv => whnf); (with_reducible conv => congr <;> reduce); repeat ((first | (with_reducible refine HaltK.mk ?_) | (with_reducible refine StopK.mk ?_)); (with_reducible conv => whnf); (with_reducible conv => congr <;> reduce)))
    | ((with_reducible show (_ ∧ _) ∧ _ ∧ _); refine ⟨⟨rfl, rfl⟩, ?_, ?_⟩ <;> (with_reducible conv => whnf) <;> repeat' (first | (with_reducible exact trivial) | (with_reducible refine And.intro ?_ ?_ <;> with_reducible conv => whnf))))
    obtain ⟨spF, hs0, hs1⟩ : ∃ spF : Nat → List Int, spF 0 = (k : Int) :: sp ∧ ∀ j, spF (j + 1) = [] := ⟨fun j => match j with | 0 => (k : Int) :: sp | _ + 1 => [], rfl, fun _ => rfl⟩
    have hk7 := hs.kids _ (List.mem_of_getElem? hx)
    simp only at hk7
    refine LoopK.range G G_good 4 [(2, .ptr 1 0 0), (5, .own 3 0 (out.length + 1)), (6, .ptr 0 0 0), (9, .ptr 2 0 0), (43, .clo (.func 193) [] [.fptr (eInts a7) 0])]
      (fun j => [(0, .live 1 [.own 181 0 (st'.length + j)] false), (1, .live 2 [eFor ⟨l, m⟩] false), (2, .live 10 [eNode ⟨a1, a2, a3, a4, a5, a6, a7, a8, a9, a10⟩] false), (3, rInts (out ++ [(k : Int)])), (181, rInts (st' ++ a7.reverse.take j ++ spF j))])
      (back_it a7 (by omega)) c193 ?_ rfl ⟨⟨rfl, rfl⟩, rfl⟩ (fun _ _ => rfl) (fun _ _ => rfl) ⟨⟨rfl, rfl⟩, rfl, rfl⟩ ?_ ?_
    · refine ⟨⟨rfl, rfl⟩, ?_⟩
      (with_reducible conv => whnf)
      repeat' (first | (with_reducible exact trivial) | (with_reducible refine And.intro ?_ ?_ <;> with_reducible conv => whnf))
      all_goals try rfl
      · simp
      · exact ⟨.refl rfl, rfl⟩
      · exact ⟨.refl rfl, rfl⟩
      · refine ⟨?_, noRef_ints _⟩
        rw [← show (out ++ [(k : Int)]).map oInt = out.map oInt ++ [AV.lit (.int .i64 k)] by simp; rfl]
        exact .refl (noRef_ints _)
      · refine ⟨?_, noRef_ints _⟩
        rw [hs0, List.take_zero, List.append_nil, show st' ++ [(k : Int)] ++ sp = st' ++ (k : Int) :: sp by simp]; exact .refl (noRef_ints _)
    · intro j hj
      ((with_reducible conv => whnf); (with_reducible conv => congr <;> reduce); repeat ((first | (with_reducible refine HaltK.mk ?_) | (with_reducible refine StopK.mk ?_)); (with_reducible conv => whnf); (with_reducible conv => congr <;> reduce)))
      refine BodyK.mk rfl ?_; ((with_reducible conv => whnf); (with_reducible conv => congr <;> reduce); repeat ((first | (with_reducible refine HaltK.mk ?_) | (with_reducible refine StopK.mk ?_)); (with_reducible conv => whnf); (with_reducible conv => congr <;> reduce)))
      repeat' (first
    | (first
    | ((with_reducible show IfK _ _ _ _); first | refine IfK.ff ?_ | refine IfK.tt ?_ | refine IfK.no (by first | rfl | assumption | exact nf (by assumption) | exact nt (by assumption) | ((try simp only [castN]); first | (simp []; done) | (simp []; omega))) ?_ | refine IfK.yes (by first | rfl | assumption | exact nf (by assumption) | exact nt (by assumption) | ((try simp only [castN]); first | (simp []; done) | (simp []; omega))) ?_)
    | ((with_reducible show NeedK _ _ _ _); refine NeedK.mk (by (try simp only [castN]); omega) ?_)
    | ((with_reducible show DrawK _ _ _ _); refine DrawK.mk (by kernel_rfl) (by kernel_rfl) (by kernel_rfl) ?_)) <;> ((with_reducible conv => whnf); (with_reducible conv => congr <;> reduce); repeat ((first | (with_reducible refine HaltK.mk ?_) | (with_reducible refine StopK.mk ?_)); (with_reducible conv => whnf); (with_reducible conv => congr <;> reduce)))
    | ((with_reducible show (_ ∧ _) ∧ _ ∧ _); refine ⟨⟨rfl, rfl⟩, ?_, ?_⟩ <;> (with_reducible conv => whnf) <;> repeat' (first | (with_reducible exact trivial) | (with_reducible refine And.intro ?_ ?_ <;> with_reducible conv => whnf))))
      refine AppK.take ((st' ++ a7.reverse.take j).map oInt) [oInt ((a7.reverse[j]?).getD 0)] ⟨rfl, by simp; omega, by rw [List.map_append (l₂ := spF j), List.take_left' (by simp; omega)]⟩ ⟨rfl, rfl, rfl⟩ rfl (by simp; omega) (by simp; omega) ?_
      ((with_reducible conv => whnf); (with_reducible conv => congr <;> reduce); repeat ((first | (with_reducible refine HaltK.mk ?_) | (with_reducible refine StopK.mk ?_)); (with_reducible conv => whnf); (with_reducible conv => congr <;> reduce)))
      repeat' (first
    | (first
    | ((with_reducible show IfK _ _ _ _); first | refine IfK.ff ?_ | refine IfK.tt ?_ | refine IfK.no (by first | rfl | assumption | exact nf (by assumption) | exact nt (by assumption) | ((try simp only [castN]); first | (simp []; done) | (simp []; omega))) ?_ | refine IfK.yes (by first | rfl | assumption | exact nf (by assumption) | exact nt (by assumption) | ((try simp only [castN]); first | (simp []; done) | (simp []; omega))) ?_)
    | ((with_reducible show NeedK _ _ _ _); refine NeedK.mk (by (try simp only [castN]); omega) ?_)
    | ((with_reducible show DrawK _ _ _ _); refine DrawK.mk (by kernel_rfl) (by kernel_rfl) (by kernel_rfl) ?_)) <;> ((with_reducible conv => whnf); (with_reducible conv => congr <;> reduce); repeat ((first | (with_reducible refine HaltK.mk ?_) | (with_reducible refine StopK.mk ?_)); (with_reducible conv => whnf); (with_reducible conv => congr <;> reduce)))
    | ((with_reducible show (_ ∧ _) ∧ _ ∧ _); refine ⟨⟨rfl, rfl⟩, ?_, ?_⟩ <;> (with_reducible conv => whnf) <;> repeat' (first | (with_reducible exact trivial) | (with_reducible refine And.intro ?_ ?_ <;> with_reducible conv => whnf))))
      refine TurnK.mk ?_
      obtain ⟨c, hc⟩ : ∃ c, a7.reverse[j]? = some c := ⟨_, List.getElem?_eq_getElem (by simpa using hj)⟩
      have htk : a7.reverse.take (j + 1) = a7.reverse.take j ++ [c] := by rw [List.take_add_one, hc]; rfl
      rw [hc, Option.getD_some]
      refine ⟨⟨rfl, rfl⟩, ?_⟩
      (with_reducible conv => whnf)
      repeat' (first | (with_reducible exact trivial) | (with_reducible refine And.intro ?_ ?_ <;> with_reducible conv => whnf))
      all_goals try rfl
      · simp; omega
      · exact ⟨.refl rfl, rfl⟩
      · exact ⟨.refl rfl, rfl⟩
      · exact ⟨.refl (noRef_ints _), noRef_ints _⟩
      · refine ⟨?_, noRef_ints _⟩
        rw [hs1, htk, List.append_nil, ← List.append_assoc, List.map_append (l₂ := [c])]; exact .refl (by rw [← List.map_append]; exact noRef_ints _)
    · ((with_reducible conv => whnf); (with_reducible conv => congr <;> reduce); repeat ((first | (with_reducible refine HaltK.mk ?_) | (with_reducible refine StopK.mk ?_)); (with_reducible conv => whnf); (with_reducible conv => congr <;> reduce)))
      refine ElemK.mk (eNode ⟨a1, a2, a3, a4, a5, a6, a7, a8, a9, a10⟩) rfl ?_; ((with_reducible conv => whnf); (with_reducible conv => congr <;> reduce); repeat ((first | (with_reducible refine HaltK.mk ?_) | (with_reducible refine StopK.mk ?_)); (with_reducible conv => whnf); (with_reducible conv => congr <;> reduce)))
      have hT : nd l k = ⟨a1, a2, a3, a4, a5, a6, a7, a8, a9, a10⟩ := hnx
      have hch : chU (nd l k) = (if a9 = -1 then [] else [a9]) ++ a7 := by rw [hT]; rfl
      have hpop := U.rest_pop T (st := st') ht
      rw [hch] at hpop
      have hkid : ∀ c ∈ (if a9 = -1 then [] else [a9]) ++ a7, thereN l c = true := fun c hc => (T.kid k ht c (by rw [hch]; exact hc)).1
      have hta : a7.reverse.take a7.length = a7.reverse := List.take_of_length_le (by simp)
      by_cases e9 : a9 = -1
      · subst e9
        rw [if_pos rfl, List.nil_append] at hpop hkid
        repeat' (first
    | (first
    | ((with_reducible show IfK _ _ _ _); first | refine IfK.ff ?_ | refine IfK.tt ?_ | refine IfK.no (by first | rfl | assumption | exact nf (by assumption) | exact nt (by assumption) | ((try simp only [castN]); first | (simp []; done) | (simp []; omega))) ?_ | refine IfK.yes (by first | rfl | assumption | exact nf (by assumption) | exact nt (by assumption) | ((try simp only [castN]); first | (simp []; done) | (simp []; omega))) ?_)
    | ((with_reducible show NeedK _ _ _ _); refine NeedK.mk (by (try simp only [castN]); omega) ?_)
    | ((with_reducible show DrawK _ _ _ _); refine DrawK.mk (by kernel_rfl) (by kernel_rfl) (by kernel_rfl) ?_)) <;> ((with_reducible conv => whnf); (with_reducible conv => congr <;> reduce); repeat ((first | (with_reducible refine HaltK.mk ?_) | (with_reducible refine StopK.mk ?_)); (with_reducible conv => whnf); (with_reducible conv => congr <;> reduce)))
    | ((with_reducible show (_ ∧ _) ∧ _ ∧ _); refine ⟨⟨rfl, rfl⟩, ?_, ?_⟩ <;> (with_reducible conv => whnf) <;> repeat' (first | (with_reducible exact trivial) | (with_reducible refine And.intro ?_ ?_ <;> with_reducible conv => whnf))))
        refine NextK.mk (out ++ [(k : Int)], st' ++ a7.reverse, spF a7.length) ⟨?_, ?_⟩ ?_ ?_
        · rw [ho, hpop]; simp
        · intro c hc
          rcases List.mem_append.1 hc with h | h
          · exact hst c (by simp [h])
          · exact hkid c (by simpa using h)
        · simp only [List.length_append, List.length_singleton]; omega
        · refine ⟨⟨rfl, rfl⟩, ?_⟩
          (with_reducible conv => whnf)
          repeat' (first | (with_reducible exact trivial) | (with_reducible refine And.intro ?_ ?_ <;> with_reducible conv => whnf))
          all_goals try rfl
          · simp
          · exact ⟨.refl (noRef_ints _), noRef_ints _⟩
          · simp
          · refine ⟨?_, noRef_ints _⟩
            rw [hta]; exact .refl (noRef_ints _)
      · rw [if_neg e9] at hpop hkid
        repeat' (first
    | (first
    | ((with_reducible show IfK _ _ _ _); first | refine IfK.ff ?_ | refine IfK.tt ?_ | refine IfK.no (by first | rfl | assumption | exact nf (by assumption) | exact nt (by assumption) | ((try simp only [castN]); first | (simp [e9]; done) | (simp [e9]; omega))) ?_ | refine IfK.yes (by first | rfl | assumption | exact nf (by assumption) | exact nt (by assumption) | ((try simp only [castN]); first | (simp [e9]; done) | (simp [e9]; omega))) ?_)
    | ((with_reducible show NeedK _ _ _ _); refine NeedK.mk (by (try simp only [castN]); omega) ?_)
    | ((with_reducible show DrawK _ _ _ _); refine DrawK.mk (by kernel_rfl) (by kernel_rfl) (by kernel_rfl) ?_)) <;> ((with_reducible conv => whnf); (with_reducible conv => congr <;> reduce); repeat ((first | (with_reducible refine HaltK.mk ?_) | (with_reducible refine StopK.mk ?_)); (with_reducible conv => whnf); (with_reducible conv => congr <;> reduce)))
    | ((with_reducible show (_ ∧ _) ∧ _ ∧ _); refine ⟨⟨rfl, rfl⟩, ?_, ?_⟩ <;> (with_reducible conv => whnf) <;> repeat' (first | (with_reducible exact trivial) | (with_reducible refine And.intro ?_ ?_ <;> with_reducible conv => whnf))))
        refine ElemK.mk (eNode ⟨a1, a2, a3, a4, a5, a6, a7, a8, a9, a10⟩) rfl ?_; ((with_reducible conv => whnf); (with_reducible conv => congr <;> reduce); repeat ((first | (with_reducible refine HaltK.mk ?_) | (with_reducible refine StopK.mk ?_)); (with_reducible conv => whnf); (with_reducible conv => congr <;> reduce)))
        repeat' (first
    | (first
    | ((with_reducible show IfK _ _ _ _); first | refine IfK.ff ?_ | refine IfK.tt ?_ | refine IfK.no (by first | rfl | assumption | exact nf (by assumption) | exact nt (by assumption) | ((try simp only [castN]); first | (simp [e9]; done) | (simp [e9]; omega))) ?_ | refine IfK.yes (by first | rfl | assumption | exact nf (by assumption) | exact nt (by assumption) | ((try simp only [castN]); first | (simp [e9]; done) | (simp [e9]; omega))) ?_)
    | ((with_reducible show NeedK _ _ _ _); refine NeedK.mk (by (try simp only [castN]); omega) ?_)
    | ((with_reducible show DrawK _ _ _ _); refine DrawK.mk (by kernel_rfl) (by kernel_rfl) (by kernel_rfl) ?_)) <;> ((with_reducible conv => whnf); (with_reducible conv => congr <;> reduce); repeat ((first | (with_reducible refine HaltK.mk ?_) | (with_reducible refine StopK.mk ?_)); (with_reducible conv => whnf); (with_reducible conv => congr <;> reduce)))
    | ((with_reducible show (_ ∧ _) ∧ _ ∧ _); refine ⟨⟨rfl, rfl⟩, ?_, ?_⟩ <;> (with_reducible conv => whnf) <;> repeat' (first | (with_reducible exact trivial) | (with_reducible refine And.intro ?_ ?_ <;> with_reducible conv => whnf))))
        refine AppK.take ((st' ++ a7.reverse).map oInt) [eInt a9] ⟨rfl, by simp, by rw [hta, List.map_append (l₂ := spF a7.length), List.take_left' (by simp)]⟩ ⟨rfl, rfl, rfl⟩ rfl (by simp; omega) (by simp; omega) ?_
        ((with_reducible conv => whnf); (with_reducible conv => congr <;> reduce); repeat ((first | (with_reducible refine HaltK.mk ?_) | (with_reducible refine StopK.mk ?_)); (with_reducible conv => whnf); (with_reducible conv => congr <;> reduce)))
        repeat' (first
    | (first
    | ((with_reducible show IfK _ _ _ _); first | refine IfK.ff ?_ | refine IfK.tt ?_ | refine IfK.no (by first | rfl | assumption | exact nf (by assumption) | exact nt (by assumption) | ((try simp only [castN]); first | (simp [e9]; done) | (simp [e9]; omega))) ?_ | refine IfK.yes (by first | rfl | assumption | exact nf (by assumption) | exact nt (by assumption) | ((try simp only [castN]); first | (simp [e9]; done) | (simp [e9]; omega))) ?_)
    | ((with_reducible show NeedK _ _ _ _); refine NeedK.mk (by (try simp only [castN]); omega) ?_)
    | ((with_reducible show DrawK _ _ _ _); refine DrawK.mk (by kernel_rfl) (by kernel_rfl) (by kernel_rfl) ?_)) <;> ((with_reducible conv => whnf); (with_reducible conv => congr <;> reduce); repeat ((first | (with_reducible refine HaltK.mk ?_) | (with_reducible refine StopK.mk ?_)); (with_reducible conv => whnf); (with_reducible conv => congr <;> reduce)))
    | ((with_reducible show (_ ∧ _) ∧ _ ∧ _); refine ⟨⟨rfl, rfl⟩, ?_, ?_⟩ <;> (with_reducible conv => whnf) <;> repeat' (first | (with_reducible exact trivial) | (with_reducible refine And.intro ?_ ?_ <;> with_reducible conv => whnf))))
        refine NextK.mk (out ++ [(k : Int)], st' ++ a7.reverse ++ [a9], []) ⟨?_, ?_⟩ ?_ ?_
        · rw [ho, hpop]; simp
        · intro c hc
          rcases List.mem_append.1 hc with h | h
          · rcases List.mem_append.1 h with h | h
            · exact hst c (by simp [h])
            · exact hkid c (by simp at h; simp [h])
          · exact hkid c (by simp at h; simp [h])
        · simp only [List.length_append, List.length_singleton]; omega
        · refine ⟨⟨rfl, rfl⟩, ?_⟩
          (with_reducible conv => whnf)
          repeat' (first | (with_reducible exact trivial) | (with_reducible refine And.intro ?_ ?_ <;> with_reducible conv => whnf))
          all_goals try rfl
          · simp
          · exact ⟨.refl (noRef_ints _), noRef_ints _⟩
          · simp
          · refine ⟨?_, noRef_ints _⟩
            rw [List.append_nil, List.map_append (l₂ := [a9])]; exact .refl (by rw [← List.map_append]; exact noRef_ints _)
end Go.Proofs.Heir
namespace Go.Proofs.Heir
open Go Go.Am Go.RowKit Go.Lib
set_option maxRecDepth 100000
set_option maxHeartbeats 8000000
noncomputable def fnsO : List (Nat × Func) := [(16, Tryz.f16), (25, Tryz.f25), (17, Tryz.f17), (207, Tryz.f207), (69, Tryz.f69), (133, Tryz.f133), (179, Tryz.f179), (208, Tryz.f208), (55, Tryz.f55), (223, Tryz.f223), (135, Tryz.f135), (137, Tryz.f137), (187, Tryz.f187), (115, Tryz.f115), (116, Tryz.f116), (117, Tryz.f117), (118, Tryz.f118), (119, Tryz.f119), (120, Tryz.f120), (127, Tryz.f127), (67, Tryz.f67), (131, Tryz.f131), (136, Tryz.f136), (129, Tryz.f129), (175, Tryz.f175), (176, Tryz.f176), (177, Tryz.f177), (125, Tryz.f125), (217, Tryz.f217), (124, Tryz.f124), (180, Tryz.f180), (181, Tryz.f181), (182, Tryz.f182), (73, Tryz.f73), (231, Tryz.f231), (183, Tryz.f183), (236, Tryz.f236), (29, Tryz.f29), (56, Tryz.f56), (60, Tryz.f60), (30, Tryz.f30), (74, Tryz.f74), (75, Tryz.f75), (28, Tryz.f28), (121, Tryz.f121), (71, Tryz.f71), (76, Tryz.f76), (27, Tryz.f27), (79, Tryz.f79), (139, Tryz.f139), (141, Tryz.f141), (138, Tryz.f138), (142, Tryz.f142), (144, Tryz.f144), (191, Tryz.f191), (83, Tryz.f83), (34, Tryz.f34), (35, Tryz.f35), (84, Tryz.f84), (147, Tryz.f147), (149, Tryz.f149), (192, Tryz.f192), (81, Tryz.f81), (63, Tryz.f63), (143, Tryz.f143), (140, Tryz.f140)]
theorem fnsO_ok : ∀ p ∈ fnsO, Tryz.prog.funcs[p.1]? = some p.2 ∧ Callable Tryz.prog p.1 := List.forall_mem_cons.2 ⟨⟨Tryz.func16, c16⟩, List.forall_mem_cons.2 ⟨⟨Tryz.func25, c25⟩, List.forall_mem_cons.2 ⟨⟨Tryz.func17, c17⟩, List.forall_mem_cons.2 ⟨⟨Tryz.func207, c207⟩, List.forall_mem_cons.2 ⟨⟨Tryz.func69, c69⟩, List.forall_mem_cons.2 ⟨⟨Tryz.func133, c133⟩, List.forall_mem_cons.2 ⟨⟨Tryz.func179, c179⟩, List.forall_mem_cons.2 ⟨⟨Tryz.func208, c208⟩, List.forall_mem_cons.2 ⟨⟨Tryz.func55, c55⟩, List.forall_mem_cons.2 ⟨⟨Tryz.func223, c223⟩, List.forall_mem_cons.2 ⟨⟨Tryz.func135, c135⟩, List.forall_mem_cons.2 ⟨⟨Tryz.func137, c137⟩, List.forall_mem_cons.2 ⟨⟨Tryz.func187, c187⟩, List.forall_mem_cons.2 ⟨⟨Tryz.func115, c115⟩, List.forall_mem_cons.2 ⟨⟨Tryz.func116, c116⟩, List.forall_mem_cons.2 ⟨⟨Tryz.func117, c117⟩, List.forall_mem_cons.2 ⟨⟨Tryz.func118, c118⟩, List.forall_mem_cons.2 ⟨⟨Tryz.func119, c119⟩, List.forall_mem_cons.2 ⟨⟨Tryz.func120, c120⟩, List.forall_mem_cons.2 ⟨⟨Tryz.func127, c127⟩, List.forall_mem_cons.2 ⟨⟨Tryz.func67, c67⟩, List.forall_mem_cons.2 ⟨⟨Tryz.func131, c131⟩, List.forall_mem_cons.2 ⟨⟨Tryz.func136, c136⟩, List.forall_mem_cons.2 ⟨⟨Tryz.func129, c129⟩, List.forall_mem_cons.2 ⟨⟨Tryz.func175, c175⟩, List.forall_mem_cons.2 ⟨⟨Tryz.func176, c176⟩, List.forall_mem_cons.2 ⟨⟨Tryz.func177, c177⟩, List.forall_mem_cons.2 ⟨⟨Tryz.func125, c125⟩, List.forall_mem_cons.2 ⟨⟨Tryz.func217, c217⟩, List.forall_mem_cons.2 ⟨⟨Tryz.func124, c124⟩, List.forall_mem_cons.2 ⟨⟨Tryz.func180, c180⟩, List.forall_mem_cons.2 ⟨⟨Tryz.func181, c181⟩, List.forall_mem_cons.2 ⟨⟨Tryz.func182, c182⟩, List.forall_mem_cons.2 ⟨⟨Tryz.func73, c73⟩, List.forall_mem_cons.2 ⟨⟨Tryz.func231, c231⟩, List.forall_mem_cons.2 ⟨⟨Tryz.func183, c183⟩, List.forall_mem_cons.2 ⟨⟨Tryz.func236, c236⟩, List.forall_mem_cons.2 ⟨⟨Tryz.func29, c29⟩, List.forall_mem_cons.2 ⟨⟨Tryz.func56, c56⟩, List.forall_mem_cons.2 ⟨⟨Tryz.func60, c60⟩, List.forall_mem_cons.2 ⟨⟨Tryz.func30, c30⟩, List.forall_mem_cons.2 ⟨⟨Tryz.func74, c74⟩, List.forall_mem_cons.2 ⟨⟨Tryz.func75, c75⟩, List.forall_mem_cons.2 ⟨⟨Tryz.func28, c28⟩, List.forall_mem_cons.2 ⟨⟨Tryz.func121, c121⟩, List.forall_mem_cons.2 ⟨⟨Tryz.func71, c71⟩, List.forall_mem_cons.2 ⟨⟨Tryz.func76, c76⟩, List.forall_mem_cons.2 ⟨⟨Tryz.func27, c27⟩, List.forall_mem_cons.2 ⟨⟨Tryz.func79, c79⟩, List.forall_mem_cons.2 ⟨⟨Tryz.func139, c139⟩, List.forall_mem_cons.2 ⟨⟨Tryz.func141, c141⟩, List.forall_mem_cons.2 ⟨⟨Tryz.func138, c138⟩, List.forall_mem_cons.2 ⟨⟨Tryz.func142, c142⟩, List.forall_mem_cons.2 ⟨⟨Tryz.func144, c144⟩, List.forall_mem_cons.2 ⟨⟨Tryz.func191, c191⟩, List.forall_mem_cons.2 ⟨⟨Tryz.func83, c83⟩, List.forall_mem_cons.2 ⟨⟨Tryz.func34, c34⟩, List.forall_mem_cons.2 ⟨⟨Tryz.func35, c35⟩, List.forall_mem_cons.2 ⟨⟨Tryz.func84, c84⟩, List.forall_mem_cons.2 ⟨⟨Tryz.func147, c147⟩, List.forall_mem_cons.2 ⟨⟨Tryz.func149, c149⟩, List.forall_mem_cons.2 ⟨⟨Tryz.func192, c192⟩, List.forall_mem_cons.2 ⟨⟨Tryz.func81, c81⟩, List.forall_mem_cons.2 ⟨⟨Tryz.func63, c63⟩, List.forall_mem_cons.2 ⟨⟨Tryz.func143, c143⟩, List.forall_mem_cons.2 ⟨⟨Tryz.func140, c140⟩, fun _ h => by simp at h⟩⟩⟩⟩⟩⟩⟩⟩⟩⟩⟩⟩⟩⟩⟩⟩⟩⟩⟩⟩⟩⟩⟩⟩⟩⟩⟩⟩⟩⟩⟩⟩⟩⟩⟩⟩⟩⟩⟩⟩⟩⟩⟩⟩⟩⟩⟩⟩⟩⟩⟩⟩⟩⟩⟩⟩⟩⟩⟩⟩⟩⟩⟩⟩⟩⟩
noncomputable def envC : EEnv := ⟨G, mapsT, fnsO, kindsT, orcC, [98]⟩
theorem envC_good : envC.Good Tryz.prog := ⟨G_good, mapsT_ok, fnsO_ok, kindsT_ok, orcC_ok, by kernel_rfl, fun t h => by
  obtain rfl := List.mem_singleton.1 h
  exact ⟨_, Tryz.underlying98⟩⟩
def oG : ForM := ⟨[⟨0, ⟨#[]⟩, ⟨#[]⟩, ⟨#[]⟩, [], -1, [1], -1, -1, 0⟩, ⟨1, wDiv, ⟨#[]⟩, ⟨#[]⟩, [], 0, [2, 5], -1, -1, 0⟩, ⟨1, wForm, ⟨#[]⟩, ⟨#[]⟩, [⟨wId, wEf⟩], 1, [3], -1, -1, 0⟩, ⟨1, wPe, ⟨#[]⟩, ⟨#[]⟩, [], 2, [4], -1, -1, 0⟩, ⟨1, wInp, ⟨#[]⟩, ⟨#[]⟩, [], 3, [], -1, -1, 0⟩, ⟨1, wInp, ⟨#[]⟩, ⟨#[]⟩, [⟨wForm, wEf⟩], 1, [], -1, -1, 0⟩], 9⟩
theorem oF_small : SmallN oF.nodes := ⟨by decide, by decide, by decide, by decide⟩
theorem oG_small : SmallN oG.nodes := ⟨by decide, by decide, by decide, by decide⟩
def oA0 : Ans := ⟨82, [.live 10 [.agg [.lit (.int .i64 (0)), .lit (.string ⟨⟨[]⟩⟩), .lit (.string ⟨⟨[]⟩⟩), .lit (.string ⟨⟨[]⟩⟩), .sl 2 [], .lit (.int .i64 (-1)), .own 1 0 1, .lit (.int .i64 (-1)), .lit (.int .i64 (-1)), .lit (.int .i64 (0))], .agg [.lit (.int .i64 (1)), .lit (.string ⟨⟨[100, 105, 118]⟩⟩), .lit (.string ⟨⟨[]⟩⟩), .lit (.string ⟨⟨[]⟩⟩), .sl 2 [], .lit (.int .i64 (0)), .own 2 0 2, .lit (.int .i64 (-1)), .lit (.int .i64 (-1)), .lit (.int .i64 (0))], .agg [.lit (.int .i64 (1)), .lit (.string ⟨⟨[102, 111, 114, 109]⟩⟩), .lit (.string ⟨⟨[]⟩⟩), .lit (.string ⟨⟨[]⟩⟩), .sl 2 [.agg [.lit (.string ⟨⟨[105, 100]⟩⟩), .lit (.string ⟨⟨[102]⟩⟩)]], .lit (.int .i64 (1)), .own 3 0 1, .lit (.int .i64 (-1)), .lit (.int .i64 (-1)), .lit (.int .i64 (0))], .agg [.lit (.int .i64 (1)), .lit (.string ⟨⟨[112]⟩⟩), .lit (.string ⟨⟨[]⟩⟩), .lit (.string ⟨⟨[]⟩⟩), .sl 2 [], .lit (.int .i64 (2)), .own 4 0 1, .lit (.int .i64 (-1)), .lit (.int .i64 (-1)), .lit (.int .i64 (0))], .agg [.lit (.int .i64 (1)), .lit (.string ⟨⟨[105, 110, 112, 117, 116]⟩⟩), .lit (.string ⟨⟨[]⟩⟩), .lit (.string ⟨⟨[]⟩⟩), .sl 2 [], .lit (.int .i64 (3)), .own 5 0 0, .lit (.int .i64 (-1)), .lit (.int .i64 (-1)), .lit (.int .i64 (0))], .agg [.lit (.int .i64 (1)), .lit (.string ⟨⟨[105, 110, 112, 117, 116]⟩⟩), .lit (.string ⟨⟨[]⟩⟩), .lit (.string ⟨⟨[]⟩⟩), .sl 2 [.agg [.lit (.string ⟨⟨[102, 111, 114, 109]⟩⟩), .lit (.string ⟨⟨[102]⟩⟩)]], .lit (.int .i64 (1)), .own 6 0 0, .lit (.int .i64 (-1)), .lit (.int .i64 (-1)), .lit (.int .i64 (0))]] false, .live 1 [.lit (.int .i64 (1))] false, .live 1 [.lit (.int .i64 (2)), .lit (.int .i64 (5))] false, .live 1 [.lit (.int .i64 (3))] false, .live 1 [.lit (.int .i64 (4))] false, .live 1 [] false, .live 1 [] false], [.agg [.own 0 0 6, .lit (.int .i64 (9))], .lit (.int .i64 (1))], [.live 10 [.agg [.lit (.int .i64 (0)), .lit (.string ⟨⟨[]⟩⟩), .lit (.string ⟨⟨[]⟩⟩), .lit (.string ⟨⟨[]⟩⟩), .sl 2 [], .lit (.int .i64 (-1)), .own 1 0 1, .lit (.int .i64 (-1)), .lit (.int .i64 (-1)), .lit (.int .i64 (0))], .agg [.lit (.int .i64 (1)), .lit (.string ⟨⟨[100, 105, 118]⟩⟩), .lit (.string ⟨⟨[]⟩⟩), .lit (.string ⟨⟨[]⟩⟩), .sl 2 [], .lit (.int .i64 (0)), .own 2 0 2, .lit (.int .i64 (-1)), .lit (.int .i64 (-1)), .lit (.int .i64 (0))], .agg [.lit (.int .i64 (1)), .lit (.string ⟨⟨[102, 111, 114, 109]⟩⟩), .lit (.string ⟨⟨[]⟩⟩), .lit (.string ⟨⟨[]⟩⟩), .sl 2 [.agg [.lit (.string ⟨⟨[105, 100]⟩⟩), .lit (.string ⟨⟨[102]⟩⟩)]], .lit (.int .i64 (1)), .own 3 0 1, .lit (.int .i64 (-1)), .lit (.int .i64 (-1)), .lit (.int .i64 (0))], .agg [.lit (.int .i64 (1)), .lit (.string ⟨⟨[112]⟩⟩), .lit (.string ⟨⟨[]⟩⟩), .lit (.string ⟨⟨[]⟩⟩), .sl 2 [], .lit (.int .i64 (2)), .own 4 0 1, .lit (.int .i64 (-1)), .lit (.int .i64 (-1)), .lit (.int .i64 (0))], .agg [.lit (.int .i64 (1)), .lit (.string ⟨⟨[105, 110, 112, 117, 116]⟩⟩), .lit (.string ⟨⟨[]⟩⟩), .lit (.string ⟨⟨[]⟩⟩), .sl 2 [], .lit (.int .i64 (3)), .own 5 0 0, .lit (.int .i64 (-1)), .lit (.int .i64 (-1)), .lit (.int .i64 (0))], .agg [.lit (.int .i64 (1)), .lit (.string ⟨⟨[105, 110, 112, 117, 116]⟩⟩), .lit (.string ⟨⟨[]⟩⟩), .lit (.string ⟨⟨[]⟩⟩), .sl 2 [.agg [.lit (.string ⟨⟨[102, 111, 114, 109]⟩⟩), .lit (.string ⟨⟨[102]⟩⟩)]], .lit (.int .i64 (1)), .own 6 0 0, .lit (.int .i64 (-1)), .lit (.int .i64 (-1)), .lit (.int .i64 (0))]] false, .live 1 [.lit (.int .i64 (1))] false, .live 1 [.lit (.int .i64 (2)), .lit (.int .i64 (5))] false, .live 1 [.lit (.int .i64 (3))] false, .live 1 [.lit (.int .i64 (4))] false, .live 1 [] false, .live 1 [] false, .live 1 [.lit (.int .i64 (1)), .lit (.int .i64 (2)), .lit (.int .i64 (3)), .lit (.int .i64 (4)), .lit (.int .i64 (5))] false], .own 7 0 5⟩
theorem oA0_ok : oA0.OK Tryz.prog := by
  refine ⟨?_, c82⟩
  have h := f82_own oG oG_small 1 (by kernel_rfl)
  rw [show allU oG 1 = [1, 2, 3, 4, 5] from by kernel_rfl] at h
  have nil2 : ∀ wd, NilK (.sl wd []) := fun wd => .inr (.inr ⟨wd, rfl⟩)
  refine FnOK.thawNew (args' := oA0.args) (ins := oA0.ins) (objsR 0 oA0.ins) [0, 1, 2, 3, 4, 5, 6] ?_ h (by decide) ?_ ?_
  · funext t
    match t with
    | 0 => rfl
    | 1 => rfl
    | 2 => rfl
    | 3 => rfl
    | 4 => rfl
    | 5 => rfl
    | 6 => rfl
    | n + 7 => rfl
  · intro r hr cs e
    obtain ⟨n, _, hn⟩ := List.mem_map.1 (show r ∈ ([1, 2, 3, 4, 5] : List Int).map oInt from hr)
    rw [← hn] at e
    cases e
  · refine ⟨⟨⟨10, _, _, _, rfl, rfl, rfl, by decide, rfl, RowsM.of ⟨?_, ?_, ?_, ?_, ?_, ?_, trivial⟩⟩, rfl, trivial⟩, rfl, trivial⟩
    · exact ⟨rfl, rfl, rfl, rfl, rfl, rfl, ⟨1, _, _, _, rfl, rfl, rfl, by decide, rfl, RowsM.of ⟨rfl, trivial⟩⟩, rfl, rfl, rfl, trivial⟩
    · exact ⟨rfl, rfl, rfl, rfl, rfl, rfl, ⟨1, _, _, _, rfl, rfl, rfl, by decide, rfl, RowsM.of ⟨rfl, rfl, trivial⟩⟩, rfl, rfl, rfl, trivial⟩
    · exact ⟨rfl, rfl, rfl, rfl, rfl, rfl, ⟨1, _, _, _, rfl, rfl, rfl, by decide, rfl, RowsM.of ⟨rfl, trivial⟩⟩, rfl, rfl, rfl, trivial⟩
    · exact ⟨rfl, rfl, rfl, rfl, rfl, rfl, ⟨1, _, _, _, rfl, rfl, rfl, by decide, rfl, RowsM.of ⟨rfl, trivial⟩⟩, rfl, rfl, rfl, trivial⟩
    · exact ⟨rfl, rfl, rfl, rfl, rfl, rfl, ⟨1, _, _, _, rfl, rfl, rfl, by decide, rfl, RowsM.of trivial⟩, rfl, rfl, rfl, trivial⟩
    · exact ⟨rfl, rfl, rfl, rfl, rfl, rfl, ⟨1, _, _, _, rfl, rfl, rfl, by decide, rfl, RowsM.of trivial⟩, rfl, rfl, rfl, trivial⟩
def oB0 : Ans := ⟨17, [], [.agg [.sl 10 [.agg [.lit (.int .i64 (0)), .lit (.string ⟨⟨[]⟩⟩), .lit (.string ⟨⟨[]⟩⟩), .lit (.string ⟨⟨[]⟩⟩), .sl 2 [], .lit (.int .i64 (-1)), .sl 1 [], .lit (.int .i64 (-1)), .lit (.int .i64 (-1)), .lit (.int .i64 (0))], .agg [.lit (.int .i64 (1)), .lit (.string ⟨⟨[100, 105, 118]⟩⟩), .lit (.string ⟨⟨[]⟩⟩), .lit (.string ⟨⟨[]⟩⟩), .sl 2 [], .lit (.int .i64 (-1)), .sl 1 [.lit (.int .i64 (2)), .lit (.int .i64 (5))], .lit (.int .i64 (-1)), .lit (.int .i64 (-1)), .lit (.int .i64 (0))], .agg [.lit (.int .i64 (1)), .lit (.string ⟨⟨[102, 111, 114, 109]⟩⟩), .lit (.string ⟨⟨[]⟩⟩), .lit (.string ⟨⟨[]⟩⟩), .sl 2 [.agg [.lit (.string ⟨⟨[105, 100]⟩⟩), .lit (.string ⟨⟨[102]⟩⟩)]], .lit (.int .i64 (1)), .sl 1 [.lit (.int .i64 (3))], .lit (.int .i64 (-1)), .lit (.int .i64 (-1)), .lit (.int .i64 (0))], .agg [.lit (.int .i64 (1)), .lit (.string ⟨⟨[112]⟩⟩), .lit (.string ⟨⟨[]⟩⟩), .lit (.string ⟨⟨[]⟩⟩), .sl 2 [], .lit (.int .i64 (2)), .sl 1 [.lit (.int .i64 (4))], .lit (.int .i64 (-1)), .lit (.int .i64 (-1)), .lit (.int .i64 (0))], .agg [.lit (.int .i64 (1)), .lit (.string ⟨⟨[105, 110, 112, 117, 116]⟩⟩), .lit (.string ⟨⟨[]⟩⟩), .lit (.string ⟨⟨[]⟩⟩), .sl 2 [], .lit (.int .i64 (3)), .sl 1 [], .lit (.int .i64 (-1)), .lit (.int .i64 (-1)), .lit (.int .i64 (0))], .agg [.lit (.int .i64 (1)), .lit (.string ⟨⟨[105, 110, 112, 117, 116]⟩⟩), .lit (.string ⟨⟨[]⟩⟩), .lit (.string ⟨⟨[]⟩⟩), .sl 2 [.agg [.lit (.string ⟨⟨[102, 111, 114, 109]⟩⟩), .lit (.string ⟨⟨[102]⟩⟩)]], .lit (.int .i64 (1)), .sl 1 [], .lit (.int .i64 (-1)), .lit (.int .i64 (-1)), .lit (.int .i64 (0))]], .lit (.int .i64 (9))]], [], .lit (.bool true)⟩
theorem oB0_ok : oB0.OK Tryz.prog := by
  refine ⟨?_, c17⟩
  have h := f17_ok oF oF_small
  rw [show rightF oF = true from by kernel_rfl] at h
  exact h
def oB1 : Ans := ⟨17, [.live 10 [.agg [.lit (.int .i64 (0)), .lit (.string ⟨⟨[]⟩⟩), .lit (.string ⟨⟨[]⟩⟩), .lit (.string ⟨⟨[]⟩⟩), .sl 2 [], .lit (.int .i64 (-1)), .own 1 0 0, .lit (.int .i64 (-1)), .lit (.int .i64 (-1)), .lit (.int .i64 (0))], .agg [.lit (.int .i64 (1)), .lit (.string ⟨⟨[100, 105, 118]⟩⟩), .lit (.string ⟨⟨[]⟩⟩), .lit (.string ⟨⟨[]⟩⟩), .sl 2 [], .lit (.int .i64 (-1)), .own 2 0 2, .lit (.int .i64 (-1)), .lit (.int .i64 (-1)), .lit (.int .i64 (0))], .agg [.lit (.int .i64 (1)), .lit (.string ⟨⟨[102, 111, 114, 109]⟩⟩), .lit (.string ⟨⟨[]⟩⟩), .lit (.string ⟨⟨[]⟩⟩), .sl 2 [.agg [.lit (.string ⟨⟨[105, 100]⟩⟩), .lit (.string ⟨⟨[102]⟩⟩)]], .lit (.int .i64 (1)), .own 3 0 1, .lit (.int .i64 (-1)), .lit (.int .i64 (-1)), .lit (.int .i64 (0))], .agg [.lit (.int .i64 (1)), .lit (.string ⟨⟨[112]⟩⟩), .lit (.string ⟨⟨[]⟩⟩), .lit (.string ⟨⟨[]⟩⟩), .sl 2 [], .lit (.int .i64 (2)), .own 4 0 1, .lit (.int .i64 (-1)), .lit (.int .i64 (-1)), .lit (.int .i64 (0))], .agg [.lit (.int .i64 (1)), .lit (.string ⟨⟨[105, 110, 112, 117, 116]⟩⟩), .lit (.string ⟨⟨[]⟩⟩), .lit (.string ⟨⟨[]⟩⟩), .sl 2 [], .lit (.int .i64 (3)), .own 5 0 0, .lit (.int .i64 (-1)), .lit (.int .i64 (-1)), .lit (.int .i64 (0))], .agg [.lit (.int .i64 (1)), .lit (.string ⟨⟨[105, 110, 112, 117, 116]⟩⟩), .lit (.string ⟨⟨[]⟩⟩), .lit (.string ⟨⟨[]⟩⟩), .sl 2 [.agg [.lit (.string ⟨⟨[102, 111, 114, 109]⟩⟩), .lit (.string ⟨⟨[102]⟩⟩)]], .lit (.int .i64 (1)), .own 6 0 0, .lit (.int .i64 (-1)), .lit (.int .i64 (-1)), .lit (.int .i64 (0))]] false, .live 1 [] false, .live 1 [.lit (.int .i64 (2)), .lit (.int .i64 (5))] false, .live 1 [.lit (.int .i64 (3))] false, .live 1 [.lit (.int .i64 (4))] false, .live 1 [] false, .live 1 [] false], [.agg [.own 0 0 6, .lit (.int .i64 (9))]], [.live 10 [.agg [.lit (.int .i64 (0)), .lit (.string ⟨⟨[]⟩⟩), .lit (.string ⟨⟨[]⟩⟩), .lit (.string ⟨⟨[]⟩⟩), .sl 2 [], .lit (.int .i64 (-1)), .own 1 0 0, .lit (.int .i64 (-1)), .lit (.int .i64 (-1)), .lit (.int .i64 (0))], .agg [.lit (.int .i64 (1)), .lit (.string ⟨⟨[100, 105, 118]⟩⟩), .lit (.string ⟨⟨[]⟩⟩), .lit (.string ⟨⟨[]⟩⟩), .sl 2 [], .lit (.int .i64 (-1)), .own 2 0 2, .lit (.int .i64 (-1)), .lit (.int .i64 (-1)), .lit (.int .i64 (0))], .agg [.lit (.int .i64 (1)), .lit (.string ⟨⟨[102, 111, 114, 109]⟩⟩), .lit (.string ⟨⟨[]⟩⟩), .lit (.string ⟨⟨[]⟩⟩), .sl 2 [.agg [.lit (.string ⟨⟨[105, 100]⟩⟩), .lit (.string ⟨⟨[102]⟩⟩)]], .lit (.int .i64 (1)), .own 3 0 1, .lit (.int .i64 (-1)), .lit (.int .i64 (-1)), .lit (.int .i64 (0))], .agg [.lit (.int .i64 (1)), .lit (.string ⟨⟨[112]⟩⟩), .lit (.string ⟨⟨[]⟩⟩), .lit (.string ⟨⟨[]⟩⟩), .sl 2 [], .lit (.int .i64 (2)), .own 4 0 1, .lit (.int .i64 (-1)), .lit (.int .i64 (-1)), .lit (.int .i64 (0))], .agg [.lit (.int .i64 (1)), .lit (.string ⟨⟨[105, 110, 112, 117, 116]⟩⟩), .lit (.string ⟨⟨[]⟩⟩), .lit (.string ⟨⟨[]⟩⟩), .sl 2 [], .lit (.int .i64 (3)), .own 5 0 0, .lit (.int .i64 (-1)), .lit (.int .i64 (-1)), .lit (.int .i64 (0))], .agg [.lit (.int .i64 (1)), .lit (.string ⟨⟨[105, 110, 112, 117, 116]⟩⟩), .lit (.string ⟨⟨[]⟩⟩), .lit (.string ⟨⟨[]⟩⟩), .sl 2 [.agg [.lit (.string ⟨⟨[102, 111, 114, 109]⟩⟩), .lit (.string ⟨⟨[102]⟩⟩)]], .lit (.int .i64 (1)), .own 6 0 0, .lit (.int .i64 (-1)), .lit (.int .i64 (-1)), .lit (.int .i64 (0))]] false, .live 1 [] false, .live 1 [.lit (.int .i64 (2)), .lit (.int .i64 (5))] false, .live 1 [.lit (.int .i64 (3))] false, .live 1 [.lit (.int .i64 (4))] false, .live 1 [] false, .live 1 [] false], .lit (.bool true)⟩
theorem oB1_ok : oB1.OK Tryz.prog := by
  refine ⟨?_, c17⟩
  have h := f17_ok oF oF_small
  rw [show rightF oF = true from by kernel_rfl] at h
  have nil2 : ∀ wd, NilK (.sl wd []) := fun wd => .inr (.inr ⟨wd, rfl⟩)
  refine FnOK.thaw (args' := oB1.args) (ins := oB1.ins) (objsR 0 oB1.ins) [0, 1, 2, 3, 4, 5, 6] ?_ h rfl ?_
  · funext t
    match t with
    | 0 => rfl
    | 1 => rfl
    | 2 => rfl
    | 3 => rfl
    | 4 => rfl
    | 5 => rfl
    | 6 => rfl
    | n + 7 => rfl
  · refine ⟨⟨⟨10, _, _, _, rfl, rfl, rfl, by decide, rfl, RowsM.of ⟨?_, ?_, ?_, ?_, ?_, ?_, trivial⟩⟩, rfl, trivial⟩, trivial⟩
    · exact ⟨rfl, rfl, rfl, rfl, rfl, rfl, ⟨1, _, _, _, rfl, rfl, rfl, by decide, rfl, RowsM.of trivial⟩, rfl, rfl, rfl, trivial⟩
    · exact ⟨rfl, rfl, rfl, rfl, rfl, rfl, ⟨1, _, _, _, rfl, rfl, rfl, by decide, rfl, RowsM.of ⟨rfl, rfl, trivial⟩⟩, rfl, rfl, rfl, trivial⟩
    · exact ⟨rfl, rfl, rfl, rfl, rfl, rfl, ⟨1, _, _, _, rfl, rfl, rfl, by decide, rfl, RowsM.of ⟨rfl, trivial⟩⟩, rfl, rfl, rfl, trivial⟩
    · exact ⟨rfl, rfl, rfl, rfl, rfl, rfl, ⟨1, _, _, _, rfl, rfl, rfl, by decide, rfl, RowsM.of ⟨rfl, trivial⟩⟩, rfl, rfl, rfl, trivial⟩
    · exact ⟨rfl, rfl, rfl, rfl, rfl, rfl, ⟨1, _, _, _, rfl, rfl, rfl, by decide, rfl, RowsM.of trivial⟩, rfl, rfl, rfl, trivial⟩
    · exact ⟨rfl, rfl, rfl, rfl, rfl, rfl, ⟨1, _, _, _, rfl, rfl, rfl, by decide, rfl, RowsM.of trivial⟩, rfl, rfl, rfl, trivial⟩
def oB2 : Ans := ⟨17, [.live 10 [.agg [.lit (.int .i64 (0)), .lit (.string ⟨⟨[]⟩⟩), .lit (.string ⟨⟨[]⟩⟩), .lit (.string ⟨⟨[]⟩⟩), .sl 2 [], .lit (.int .i64 (-1)), .own 1 0 1, .lit (.int .i64 (-1)), .lit (.int .i64 (-1)), .lit (.int .i64 (0))], .agg [.lit (.int .i64 (1)), .lit (.string ⟨⟨[100, 105, 118]⟩⟩), .lit (.string ⟨⟨[]⟩⟩), .lit (.string ⟨⟨[]⟩⟩), .sl 2 [], .lit (.int .i64 (0)), .own 2 0 2, .lit (.int .i64 (-1)), .lit (.int .i64 (-1)), .lit (.int .i64 (0))], .agg [.lit (.int .i64 (1)), .lit (.string ⟨⟨[102, 111, 114, 109]⟩⟩), .lit (.string ⟨⟨[]⟩⟩), .lit (.string ⟨⟨[]⟩⟩), .sl 2 [.agg [.lit (.string ⟨⟨[105, 100]⟩⟩), .lit (.string ⟨⟨[102]⟩⟩)]], .lit (.int .i64 (1)), .own 3 0 1, .lit (.int .i64 (-1)), .lit (.int .i64 (-1)), .lit (.int .i64 (0))], .agg [.lit (.int .i64 (1)), .lit (.string ⟨⟨[112]⟩⟩), .lit (.string ⟨⟨[]⟩⟩), .lit (.string ⟨⟨[]⟩⟩), .sl 2 [], .lit (.int .i64 (2)), .own 4 0 1, .lit (.int .i64 (-1)), .lit (.int .i64 (-1)), .lit (.int .i64 (0))], .agg [.lit (.int .i64 (1)), .lit (.string ⟨⟨[105, 110, 112, 117, 116]⟩⟩), .lit (.string ⟨⟨[]⟩⟩), .lit (.string ⟨⟨[]⟩⟩), .sl 2 [], .lit (.int .i64 (3)), .own 5 0 0, .lit (.int .i64 (-1)), .lit (.int .i64 (-1)), .lit (.int .i64 (0))], .agg [.lit (.int .i64 (1)), .lit (.string ⟨⟨[105, 110, 112, 117, 116]⟩⟩), .lit (.string ⟨⟨[]⟩⟩), .lit (.string ⟨⟨[]⟩⟩), .sl 2 [.agg [.lit (.string ⟨⟨[102, 111, 114, 109]⟩⟩), .lit (.string ⟨⟨[102]⟩⟩)]], .lit (.int .i64 (1)), .own 6 0 0, .lit (.int .i64 (-1)), .lit (.int .i64 (-1)), .lit (.int .i64 (0))]] false, .live 1 [.lit (.int .i64 (1))] false, .live 1 [.lit (.int .i64 (2)), .lit (.int .i64 (5))] false, .live 1 [.lit (.int .i64 (3))] false, .live 1 [.lit (.int .i64 (4))] false, .live 1 [] false, .live 1 [] false], [.agg [.own 0 0 6, .lit (.int .i64 (9))]], [.live 10 [.agg [.lit (.int .i64 (0)), .lit (.string ⟨⟨[]⟩⟩), .lit (.string ⟨⟨[]⟩⟩), .lit (.string ⟨⟨[]⟩⟩), .sl 2 [], .lit (.int .i64 (-1)), .own 1 0 1, .lit (.int .i64 (-1)), .lit (.int .i64 (-1)), .lit (.int .i64 (0))], .agg [.lit (.int .i64 (1)), .lit (.string ⟨⟨[100, 105, 118]⟩⟩), .lit (.string ⟨⟨[]⟩⟩), .lit (.string ⟨⟨[]⟩⟩), .sl 2 [], .lit (.int .i64 (0)), .own 2 0 2, .lit (.int .i64 (-1)), .lit (.int .i64 (-1)), .lit (.int .i64 (0))], .agg [.lit (.int .i64 (1)), .lit (.string ⟨⟨[102, 111, 114, 109]⟩⟩), .lit (.string ⟨⟨[]⟩⟩), .lit (.string ⟨⟨[]⟩⟩), .sl 2 [.agg [.lit (.string ⟨⟨[105, 100]⟩⟩), .lit (.string ⟨⟨[102]⟩⟩)]], .lit (.int .i64 (1)), .own 3 0 1, .lit (.int .i64 (-1)), .lit (.int .i64 (-1)), .lit (.int .i64 (0))], .agg [.lit (.int .i64 (1)), .lit (.string ⟨⟨[112]⟩⟩), .lit (.string ⟨⟨[]⟩⟩), .lit (.string ⟨⟨[]⟩⟩), .sl 2 [], .lit (.int .i64 (2)), .own 4 0 1, .lit (.int .i64 (-1)), .lit (.int .i64 (-1)), .lit (.int .i64 (0))], .agg [.lit (.int .i64 (1)), .lit (.string ⟨⟨[105, 110, 112, 117, 116]⟩⟩), .lit (.string ⟨⟨[]⟩⟩), .lit (.string ⟨⟨[]⟩⟩), .sl 2 [], .lit (.int .i64 (3)), .own 5 0 0, .lit (.int .i64 (-1)), .lit (.int .i64 (-1)), .lit (.int .i64 (0))], .agg [.lit (.int .i64 (1)), .lit (.string ⟨⟨[105, 110, 112, 117, 116]⟩⟩), .lit (.string ⟨⟨[]⟩⟩), .lit (.string ⟨⟨[]⟩⟩), .sl 2 [.agg [.lit (.string ⟨⟨[102, 111, 114, 109]⟩⟩), .lit (.string ⟨⟨[102]⟩⟩)]], .lit (.int .i64 (1)), .own 6 0 0, .lit (.int .i64 (-1)), .lit (.int .i64 (-1)), .lit (.int .i64 (0))]] false, .live 1 [.lit (.int .i64 (1))] false, .live 1 [.lit (.int .i64 (2)), .lit (.int .i64 (5))] false, .live 1 [.lit (.int .i64 (3))] false, .live 1 [.lit (.int .i64 (4))] false, .live 1 [] false, .live 1 [] false], .lit (.bool true)⟩
theorem oB2_ok : oB2.OK Tryz.prog := by
  refine ⟨?_, c17⟩
  have h := f17_ok oG oG_small
  rw [show rightF oG = true from by kernel_rfl] at h
  have nil2 : ∀ wd, NilK (.sl wd []) := fun wd => .inr (.inr ⟨wd, rfl⟩)
  refine FnOK.thaw (args' := oB2.args) (ins := oB2.ins) (objsR 0 oB2.ins) [0, 1, 2, 3, 4, 5, 6] ?_ h rfl ?_
  · funext t
    match t with
    | 0 => rfl
    | 1 => rfl
    | 2 => rfl
    | 3 => rfl
    | 4 => rfl
    | 5 => rfl
    | 6 => rfl
    | n + 7 => rfl
  · refine ⟨⟨⟨10, _, _, _, rfl, rfl, rfl, by decide, rfl, RowsM.of ⟨?_, ?_, ?_, ?_, ?_, ?_, trivial⟩⟩, rfl, trivial⟩, trivial⟩
    · exact ⟨rfl, rfl, rfl, rfl, rfl, rfl, ⟨1, _, _, _, rfl, rfl, rfl, by decide, rfl, RowsM.of ⟨rfl, trivial⟩⟩, rfl, rfl, rfl, trivial⟩
    · exact ⟨rfl, rfl, rfl, rfl, rfl, rfl, ⟨1, _, _, _, rfl, rfl, rfl, by decide, rfl, RowsM.of ⟨rfl, rfl, trivial⟩⟩, rfl, rfl, rfl, trivial⟩
    · exact ⟨rfl, rfl, rfl, rfl, rfl, rfl, ⟨1, _, _, _, rfl, rfl, rfl, by decide, rfl, RowsM.of ⟨rfl, trivial⟩⟩, rfl, rfl, rfl, trivial⟩
    · exact ⟨rfl, rfl, rfl, rfl, rfl, rfl, ⟨1, _, _, _, rfl, rfl, rfl, by decide, rfl, RowsM.of ⟨rfl, trivial⟩⟩, rfl, rfl, rfl, trivial⟩
    · exact ⟨rfl, rfl, rfl, rfl, rfl, rfl, ⟨1, _, _, _, rfl, rfl, rfl, by decide, rfl, RowsM.of trivial⟩, rfl, rfl, rfl, trivial⟩
    · exact ⟨rfl, rfl, rfl, rfl, rfl, rfl, ⟨1, _, _, _, rfl, rfl, rfl, by decide, rfl, RowsM.of trivial⟩, rfl, rfl, rfl, trivial⟩
theorem oA_ok : ∀ r ∈ [oA0, oB0, oB1, oB2], r.OK Tryz.prog := Ans.cons oA0_ok (Ans.cons oB0_ok (Ans.cons oB1_ok (Ans.cons oB2_ok (fun _ h => by cases h))))
def oS : Ans := ⟨29, [], [.agg [.sl 10 [.agg [.lit (.int .i64 (0)), .lit (.string ⟨⟨[]⟩⟩), .lit (.string ⟨⟨[]⟩⟩), .lit (.string ⟨⟨[]⟩⟩), .sl 2 [], .lit (.int .i64 (-1)), .sl 1 [], .lit (.int .i64 (-1)), .lit (.int .i64 (-1)), .lit (.int .i64 (0))], .agg [.lit (.int .i64 (1)), .lit (.string ⟨⟨[100, 105, 118]⟩⟩), .lit (.string ⟨⟨[]⟩⟩), .lit (.string ⟨⟨[]⟩⟩), .sl 2 [], .lit (.int .i64 (-1)), .sl 1 [.lit (.int .i64 (2)), .lit (.int .i64 (5))], .lit (.int .i64 (-1)), .lit (.int .i64 (-1)), .lit (.int .i64 (0))], .agg [.lit (.int .i64 (1)), .lit (.string ⟨⟨[102, 111, 114, 109]⟩⟩), .lit (.string ⟨⟨[]⟩⟩), .lit (.string ⟨⟨[]⟩⟩), .sl 2 [.agg [.lit (.string ⟨⟨[105, 100]⟩⟩), .lit (.string ⟨⟨[102]⟩⟩)]], .lit (.int .i64 (1)), .sl 1 [.lit (.int .i64 (3))], .lit (.int .i64 (-1)), .lit (.int .i64 (-1)), .lit (.int .i64 (0))], .agg [.lit (.int .i64 (1)), .lit (.string ⟨⟨[112]⟩⟩), .lit (.string ⟨⟨[]⟩⟩), .lit (.string ⟨⟨[]⟩⟩), .sl 2 [], .lit (.int .i64 (2)), .sl 1 [.lit (.int .i64 (4))], .lit (.int .i64 (-1)), .lit (.int .i64 (-1)), .lit (.int .i64 (0))], .agg [.lit (.int .i64 (1)), .lit (.string ⟨⟨[105, 110, 112, 117, 116]⟩⟩), .lit (.string ⟨⟨[]⟩⟩), .lit (.string ⟨⟨[]⟩⟩), .sl 2 [], .lit (.int .i64 (3)), .sl 1 [], .lit (.int .i64 (-1)), .lit (.int .i64 (-1)), .lit (.int .i64 (0))], .agg [.lit (.int .i64 (1)), .lit (.string ⟨⟨[105, 110, 112, 117, 116]⟩⟩), .lit (.string ⟨⟨[]⟩⟩), .lit (.string ⟨⟨[]⟩⟩), .sl 2 [.agg [.lit (.string ⟨⟨[102, 111, 114, 109]⟩⟩), .lit (.string ⟨⟨[102]⟩⟩)]], .lit (.int .i64 (1)), .sl 1 [], .lit (.int .i64 (-1)), .lit (.int .i64 (-1)), .lit (.int .i64 (0))]], .lit (.int .i64 (9))], .lit (.int .i64 (1)), .lit (.int .i64 (0)), .lit (.int .i64 (-1))], [.live 10 [.agg [.lit (.int .i64 (0)), .lit (.string ⟨⟨[]⟩⟩), .lit (.string ⟨⟨[]⟩⟩), .lit (.string ⟨⟨[]⟩⟩), .sl 2 [], .lit (.int .i64 (-1)), .own 2 0 1, .lit (.int .i64 (-1)), .lit (.int .i64 (-1)), .lit (.int .i64 (0))], .agg [.lit (.int .i64 (1)), .lit (.string ⟨⟨[100, 105, 118]⟩⟩), .lit (.string ⟨⟨[]⟩⟩), .lit (.string ⟨⟨[]⟩⟩), .sl 2 [], .lit (.int .i64 (0)), .own 3 0 2, .lit (.int .i64 (-1)), .lit (.int .i64 (-1)), .lit (.int .i64 (0))], .agg [.lit (.int .i64 (1)), .lit (.string ⟨⟨[102, 111, 114, 109]⟩⟩), .lit (.string ⟨⟨[]⟩⟩), .lit (.string ⟨⟨[]⟩⟩), .sl 2 [.agg [.lit (.string ⟨⟨[105, 100]⟩⟩), .lit (.string ⟨⟨[102]⟩⟩)]], .lit (.int .i64 (1)), .own 4 0 1, .lit (.int .i64 (-1)), .lit (.int .i64 (-1)), .lit (.int .i64 (0))], .agg [.lit (.int .i64 (1)), .lit (.string ⟨⟨[112]⟩⟩), .lit (.string ⟨⟨[]⟩⟩), .lit (.string ⟨⟨[]⟩⟩), .sl 2 [], .lit (.int .i64 (2)), .own 5 0 1, .lit (.int .i64 (-1)), .lit (.int .i64 (-1)), .lit (.int .i64 (0))], .agg [.lit (.int .i64 (1)), .lit (.string ⟨⟨[105, 110, 112, 117, 116]⟩⟩), .lit (.string ⟨⟨[]⟩⟩), .lit (.string ⟨⟨[]⟩⟩), .sl 2 [], .lit (.int .i64 (3)), .own 6 0 0, .lit (.int .i64 (-1)), .lit (.int .i64 (-1)), .lit (.int .i64 (0))], .agg [.lit (.int .i64 (1)), .lit (.string ⟨⟨[105, 110, 112, 117, 116]⟩⟩), .lit (.string ⟨⟨[]⟩⟩), .lit (.string ⟨⟨[]⟩⟩), .sl 2 [.agg [.lit (.string ⟨⟨[102, 111, 114, 109]⟩⟩), .lit (.string ⟨⟨[102]⟩⟩)]], .lit (.int .i64 (1)), .own 7 0 0, .lit (.int .i64 (-1)), .lit (.int .i64 (-1)), .lit (.int .i64 (0))]] false, .live 9 [.agg [.lit (.int .i64 (1)), .lit (.int .i64 (1)), .lit (.int .i64 (0)), .lit (.int .i64 (0)), .lit (.string ⟨⟨[]⟩⟩), .lit (.bool false), .lit (.bool false), .lit (.string ⟨⟨[]⟩⟩), .lit (.string ⟨⟨[]⟩⟩)], .agg [.lit (.int .i64 (1)), .lit (.int .i64 (2)), .lit (.int .i64 (0)), .lit (.int .i64 (0)), .lit (.string ⟨⟨[]⟩⟩), .lit (.bool false), .lit (.bool false), .lit (.string ⟨⟨[]⟩⟩), .lit (.string ⟨⟨[]⟩⟩)], .agg [.lit (.int .i64 (1)), .lit (.int .i64 (3)), .lit (.int .i64 (0)), .lit (.int .i64 (0)), .lit (.string ⟨⟨[]⟩⟩), .lit (.bool false), .lit (.bool false), .lit (.string ⟨⟨[]⟩⟩), .lit (.string ⟨⟨[]⟩⟩)], .agg [.lit (.int .i64 (1)), .lit (.int .i64 (4)), .lit (.int .i64 (0)), .lit (.int .i64 (0)), .lit (.string ⟨⟨[]⟩⟩), .lit (.bool false), .lit (.bool false), .lit (.string ⟨⟨[]⟩⟩), .lit (.string ⟨⟨[]⟩⟩)], .agg [.lit (.int .i64 (1)), .lit (.int .i64 (5)), .lit (.int .i64 (0)), .lit (.int .i64 (0)), .lit (.string ⟨⟨[]⟩⟩), .lit (.bool false), .lit (.bool false), .lit (.string ⟨⟨[]⟩⟩), .lit (.string ⟨⟨[]⟩⟩)]] false, .live 1 [.lit (.int .i64 (1))] false, .live 1 [.lit (.int .i64 (2)), .lit (.int .i64 (5))] false, .live 1 [.lit (.int .i64 (3))] false, .live 1 [.lit (.int .i64 (4))] false, .live 1 [] false, .live 1 [] false], .tup [.agg [.own 0 0 6, .lit (.int .i64 (9))], .own 1 0 5, .lit (.int .i64 (0))]⟩
theorem oS_run : runF (envC.moreS [oA0, oB0, oB1, oB2]) 1000 60 oS.g oS.ins oS.args = some (oS.outs, oS.res) := by kernel_rfl
theorem oS_ok : oS.OK Tryz.prog := Ans.of (EEnv.moreS_good envC_good oA_ok) oS_run
def oNo : AV := .sl 9 [.agg [.lit (.int .i64 (1)), .lit (.int .i64 (1)), .lit (.int .i64 (0)), .lit (.int .i64 (0)), .lit (.string ⟨⟨[]⟩⟩), .lit (.bool false), .lit (.bool false), .lit (.string ⟨⟨[]⟩⟩), .lit (.string ⟨⟨[]⟩⟩)], .agg [.lit (.int .i64 (1)), .lit (.int .i64 (2)), .lit (.int .i64 (0)), .lit (.int .i64 (0)), .lit (.string ⟨⟨[]⟩⟩), .lit (.bool false), .lit (.bool false), .lit (.string ⟨⟨[]⟩⟩), .lit (.string ⟨⟨[]⟩⟩)], .agg [.lit (.int .i64 (1)), .lit (.int .i64 (3)), .lit (.int .i64 (0)), .lit (.int .i64 (0)), .lit (.string ⟨⟨[]⟩⟩), .lit (.bool false), .lit (.bool false), .lit (.string ⟨⟨[]⟩⟩), .lit (.string ⟨⟨[]⟩⟩)], .agg [.lit (.int .i64 (1)), .lit (.int .i64 (4)), .lit (.int .i64 (0)), .lit (.int .i64 (0)), .lit (.string ⟨⟨[]⟩⟩), .lit (.bool false), .lit (.bool false), .lit (.string ⟨⟨[]⟩⟩), .lit (.string ⟨⟨[]⟩⟩)], .agg [.lit (.int .i64 (1)), .lit (.int .i64 (5)), .lit (.int .i64 (0)), .lit (.int .i64 (0)), .lit (.string ⟨⟨[]⟩⟩), .lit (.bool false), .lit (.bool false), .lit (.string ⟨⟨[]⟩⟩), .lit (.string ⟨⟨[]⟩⟩)]]
theorem oins_ok : FnOK Tryz.prog 29 [] [eFor oF, eInt 1, eInt 0, eInt (-1)] [] (.tup [eFor oG, oNo, eInt 0]) := by
  have h := oS_ok.1
  have nil2 : ∀ wd, NilK (.sl wd []) := fun wd => .inr (.inr ⟨wd, rfl⟩)
  refine FnOK.frozen (objsR 0 oS.outs) ?_ (by kernel_rfl) h ?_
  · funext t
    match t with
    | 0 => rfl
    | 1 => rfl
    | 2 => rfl
    | 3 => rfl
    | 4 => rfl
    | 5 => rfl
    | 6 => rfl
    | 7 => rfl
    | n + 8 => rfl
  · refine ⟨⟨⟨10, _, _, _, rfl, rfl, rfl, by decide, rfl, RowsM.of ⟨?_, ?_, ?_, ?_, ?_, ?_, trivial⟩⟩, rfl, trivial⟩, ⟨9, _, _, _, rfl, rfl, rfl, by decide, rfl, RowsM.of ⟨⟨rfl, rfl, rfl, rfl, rfl, rfl, rfl, rfl, rfl, trivial⟩, ⟨rfl, rfl, rfl, rfl, rfl, rfl, rfl, rfl, rfl, trivial⟩, ⟨rfl, rfl, rfl, rfl, rfl, rfl, rfl, rfl, rfl, trivial⟩, ⟨rfl, rfl, rfl, rfl, rfl, rfl, rfl, rfl, rfl, trivial⟩, ⟨rfl, rfl, rfl, rfl, rfl, rfl, rfl, rfl, rfl, trivial⟩, trivial⟩⟩, rfl, trivial⟩
    · exact ⟨rfl, rfl, rfl, rfl, rfl, rfl, ⟨1, _, _, _, rfl, rfl, rfl, by decide, rfl, RowsM.of ⟨rfl, trivial⟩⟩, rfl, rfl, rfl, trivial⟩
    · exact ⟨rfl, rfl, rfl, rfl, rfl, rfl, ⟨1, _, _, _, rfl, rfl, rfl, by decide, rfl, RowsM.of ⟨rfl, rfl, trivial⟩⟩, rfl, rfl, rfl, trivial⟩
    · exact ⟨rfl, rfl, rfl, rfl, rfl, rfl, ⟨1, _, _, _, rfl, rfl, rfl, by decide, rfl, RowsM.of ⟨rfl, trivial⟩⟩, rfl, rfl, rfl, trivial⟩
    · exact ⟨rfl, rfl, rfl, rfl, rfl, rfl, ⟨1, _, _, _, rfl, rfl, rfl, by decide, rfl, RowsM.of ⟨rfl, trivial⟩⟩, rfl, rfl, rfl, trivial⟩
    · exact ⟨rfl, rfl, rfl, rfl, rfl, rfl, ⟨1, _, _, _, rfl, rfl, rfl, by decide, rfl, RowsM.of trivial⟩, rfl, rfl, rfl, trivial⟩
    · exact ⟨rfl, rfl, rfl, rfl, rfl, rfl, ⟨1, _, _, _, rfl, rfl, rfl, by decide, rfl, RowsM.of trivial⟩, rfl, rfl, rfl, trivial⟩
end Go.Proofs.Heir
section
namespace Go.Proofs.Heir
open Go Go.Am Go.RowKit Go.Lib
set_option maxRecDepth 100000
set_option maxHeartbeats 8000000
@[reducible] def formW : ByteArray := ⟨⟨[102, 111, 114, 109]⟩⟩
@[reducible] def idW : ByteArray := ⟨⟨[105, 100]⟩⟩
def isForm (x : NodeM) : Bool := decide (x.kind = 1) && decide (x.name = formW)
def attV (x : NodeM) (w : ByteArray) : Option ByteArray := if 0 ≤ findP x.attrs w then some (getS x.attrs w) else none
def attR (x : NodeM) (w : ByteArray) : Option ByteArray := if 0 ≤ posA x.attrs w then some (((x.attrs[(posA x.attrs w).toNat]?).map AttrM.value).getD noS) else none
def nearBy (l : List NodeM) (q : Int → Bool) (n : Int) : Int := ((wayN l n).tail.find? q).getD (-1)
def nearN (l : List NodeM) (n : Int) : Int := nearBy l (fun p => isForm (nd l p)) n
def nearR (l : List NodeM) (n : Int) : Int := nearBy l (fun p => decide ((nd l p).name = formW)) n
def rootN (l : List NodeM) (n : Int) : Int := ((wayN l n).getLast?).getD n
def addId (l : List NodeM) (t : List (ByteArray × Int)) (k : Int) : List (ByteArray × Int) :=
 match attV (nd l k) idW with
 | some v => (match tget v t with
  | some _ => t
  | none => tput v k t)
 | none => t
def idTab (l : List NodeM) (r : Int) : List (ByteArray × Int) := (ordN l l.length r).foldl (addId l) []
def firstId (l : List NodeM) (r : Int) (v : ByteArray) : Option Int := (ordN l l.length r).find? fun k => decide (attV (nd l k) idW = some v)
def firstR (l : List NodeM) (r : Int) (v : ByteArray) : Option Int := (ordN l l.length r).find? fun k => decide (attR (nd l k) idW = some v)
def conN (l : List NodeM) (n : Int) : Bool := decide ((nd l (topN l n)).kind = 0)
def byId (l : List NodeM) (n : Int) (v : ByteArray) : Int :=
 match firstId l (rootN l n) v with
 | some k => if v ≠ ⟨#[]⟩ ∧ isForm (nd l k) = true then k else -1
 | none => -1
def ownN (l : List NodeM) (n : Int) : Int :=
 if (nd l n).kind = 1 then
  match attV (nd l n) formW with
  | some v => if conN l n = true then byId l n v else nearN l n
  | none => nearN l n
 else -1
def byIdR (l : List NodeM) (n : Int) (v : ByteArray) : Int :=
 if v = ⟨#[]⟩ then -1 else
 match firstR l (rootN l n) v with
 | some k => if (nd l k).name = formW then k else -1
 | none => -1
def ownR (l : List NodeM) (n : Int) : Int :=
 if (nd l n).kind = 1 then
  match attR (nd l n) formW with
  | some v => if conN l n = true then byIdR l n v else nearR l n
  | none => nearR l n
 else -1
theorem tget_fold (l : List NodeM) (v : ByteArray) : ∀ (ks : List Int) (t : List (ByteArray × Int)), tget v (ks.foldl (addId l) t) = match tget v t with
  | some x => some x
  | none => ks.find? fun k => decide (attV (nd l k) idW = some v)
 | [], t => by
   simp only [List.foldl_nil, List.find?_nil]
   cases tget v t <;> rfl
 | k :: r, t => by
   rw [List.foldl_cons, tget_fold l v r]
   rw [List.find?_cons]
   unfold addId
   cases ha : attV (nd l k) idW with
   | none => simp
   | some u =>
     dsimp only
     by_cases huv : u = v
     ·subst huv
      cases ht : tget u t with
      | some x => dsimp only; rw [ht]
      | none => dsimp only; rw [tget_put, if_pos rfl]; simp
     ·have hne : decide (some u = some v) = false := decide_eq_false fun h => huv (Option.some.inj h)
      rw [hne]
      cases ht : tget u t with
      | some x => rfl
      | none => dsimp only; rw [tget_put, if_neg huv]
theorem idTab_get (l : List NodeM) (r : Int) (v : ByteArray) : tget v (idTab l r) = firstId l r v := by
 unfold idTab; rw [tget_fold]; rfl
theorem addId_len (l : List NodeM) (t : List (ByteArray × Int)) (k : Int) : (addId l t k).length ≤ t.length + 1 := by
 unfold addId
 split
 ·split
  ·omega
  ·rw [tput_length]; split <;> omega
 ·omega
theorem fold_len (l : List NodeM) : ∀ (ks : List Int) (t : List (ByteArray × Int)), (ks.foldl (addId l) t).length ≤ t.length + ks.length
 | [], t => Nat.le_refl _
 | k :: r, t => by
   have h1 := fold_len l r (addId l t k)
   have h2 := addId_len l t k
   rw [List.foldl_cons, List.length_cons]; omega
variable {l : List NodeM}
theorem root_top (T : Tree l) {n : Int} (hn : thereN l n = true) (hp : (nd l n).parent = -1) : rootN l n = n := by
 unfold rootN; rw [way_top T hn hp]; rfl
theorem root_step (T : Tree l) {n : Int} (hn : thereN l n = true) (hp : (nd l n).parent ≠ -1) : rootN l n = rootN l (nd l n).parent := by
 obtain ⟨r, hr⟩ := way_head T (T.par n hn hp).1
 unfold rootN; rw [way_step T hn hp, hr, List.getLast?_cons_cons]
 cases h : ((nd l n).parent :: r).getLast? with
 | none => simp at h
 | some a => rfl
theorem root_there (T : Tree l) : ∀ n, thereN l n = true → thereN l (rootN l n) = true ∧ (nd l (rootN l n)).parent = -1 ∧ rootN l n ∈ wayN l n := by
 refine up_ind T (fun n hn h => ?_) (fun n hn h hu ih => ?_)
 ·rw [root_top T hn h]; exact ⟨hn, h, way_self T hn⟩
 ·rw [root_step T hn h]; exact ⟨ih.1, ih.2.1, by rw [way_step T hn h]; exact List.mem_cons_of_mem _ ih.2.2⟩
theorem root_way (T : Tree l) : ∀ n, thereN l n = true → ∀ a ∈ wayN l n, rootN l a = rootN l n := by
 refine up_ind T (fun n hn h a ha => ?_) (fun n hn h hu ih a ha => ?_)
 ·rw [way_top T hn h] at ha; rw [List.mem_singleton.1 ha]
 ·rw [way_step T hn h] at ha
  rcases List.mem_cons.1 ha with rfl | h'
  ·rfl
  ·rw [root_step T hn h]; exact ih a h'
theorem ord_root (T : Tree l) {r n : Int} (hr : thereN l r = true) (h : n ∈ ordN l l.length r) : thereN l n = true ∧ r ∈ wayN l n ∧ rootN l n = rootN l r := by
 obtain ⟨h1, h2⟩ := ord_way T _ r hr n h
 exact ⟨h1, h2, (root_way T n h1 r h2).symm⟩
theorem find_step (T : Tree l) (q : Int → Bool) {n : Int} (hn : thereN l n = true) (hp : (nd l n).parent ≠ -1) : nearBy l q n = if q (nd l n).parent = true then (nd l n).parent else nearBy l q (nd l n).parent := by
 obtain ⟨r, hr⟩ := way_head T (T.par n hn hp).1
 unfold nearBy
 rw [way_step T hn hp, List.tail_cons, hr, List.find?_cons, List.tail_cons]
 cases h : q (nd l n).parent <;> simp
theorem find_top (T : Tree l) (q : Int → Bool) {n : Int} (hn : thereN l n = true) (hp : (nd l n).parent = -1) : nearBy l q n = -1 := by
 unfold nearBy; rw [way_top T hn hp]; rfl
theorem near_spec (T : Tree l) (q : Int → Bool) : ∀ n, thereN l n = true →
  (nearBy l q n = -1 ∧ ∀ a ∈ wayN l n, a ≠ n → q a = false) ∨
  (nearBy l q n ∈ wayN l n ∧ nearBy l q n ≠ n ∧ q (nearBy l q n) = true ∧ ∀ a ∈ wayN l n, a ≠ n → q a = true → a ∈ wayN l (nearBy l q n)) := by
 refine up_ind T (fun n hn h => ?_) (fun n hn h hu ih => ?_)
 ·left
  refine ⟨find_top T q hn h, fun a ha hne => ?_⟩
  rw [way_top T hn h] at ha
  exact absurd (List.mem_singleton.1 ha) hne
 ·have hne : ∀ a ∈ wayN l (nd l n).parent, a ≠ n := by
   intro a ha e
   subst e
   have h1 := way_step T hn h
   obtain ⟨t, ht⟩ := way_cut T _ hu a ha
   rw [ht] at h1
   have := congrArg List.length h1
   simp at this
   omega
  rw [find_step T q hn h]
  have hw := way_step T hn h
  cases hq : q (nd l n).parent with
  | true =>
    rw [if_pos rfl]
    right
    refine ⟨by rw [hw]; exact List.mem_cons_of_mem _ (way_self T hu), hne _ (way_self T hu), hq, fun a ha hna _ => ?_⟩
    rw [hw] at ha
    exact (List.mem_cons.1 ha).resolve_left hna
  | false =>
    rw [if_neg (by simp)]
    rcases ih with ⟨h1, h2⟩ | ⟨h1, h2, h3, h4⟩
    ·left
     refine ⟨h1, fun a ha hna => ?_⟩
     rw [hw] at ha
     have ha' := (List.mem_cons.1 ha).resolve_left hna
     by_cases e : a = (nd l n).parent
     ·rw [e]; exact hq
     ·exact h2 a ha' e
    ·right
     refine ⟨by rw [hw]; exact List.mem_cons_of_mem _ h1, hne _ h1, h3, fun a ha hna hqa => ?_⟩
     rw [hw] at ha
     have ha' := (List.mem_cons.1 ha).resolve_left hna
     refine h4 a ha' (fun e => ?_) hqa
     rw [e, hq] at hqa; cases hqa
theorem form_right : rightS formW = true := by decide +kernel
theorem form_low : lowS formW = formW := by decide +kernel
theorem id_right : rightS idW = true := by decide +kernel
theorem id_low : lowS idW = idW := by decide +kernel
theorem first_some {r : Int} {v : ByteArray} {k : Int} (h : firstId l r v = some k) : k ∈ ordN l l.length r ∧ attV (nd l k) idW = some v :=
 ⟨List.mem_of_find?_eq_some h, by have := List.find?_some h; simpa using this⟩
def memN (l : List NodeM) (x : Int) : List Int := (ordN l l.length (rootN l x)).filter fun k => decide (ownN l k = x)
def memR (l : List NodeM) (x : Int) : List Int := (ordN l l.length (rootN l x)).filter fun k => decide (ownR l k = x)
end Go.Proofs.Heir
end
section
namespace Go.Proofs.Heir
open Go Go.Am Go.RowKit Go.Lib
set_option maxRecDepth 100000
set_option maxHeartbeats 8000000
variable {l : List NodeM}
def byNear (l : List NodeM) (n : Int) : Prop := (nd l n).kind = 1 ∧ (attV (nd l n) formW = none ∨ conN l n = false)
theorem own_near {n : Int} (h : byNear l n) : ownN l n = nearN l n := by
 obtain ⟨h1, h2⟩ := h
 unfold ownN
 rw [if_pos h1]
 cases ha : attV (nd l n) formW with
 | none => rfl
 | some v =>
   rcases h2 with h2 | h2
   ·rw [ha] at h2; cases h2
   ·simp only [h2, Bool.false_eq_true, if_false]
def memF (l : List NodeM) (x : Int) : List Int := if isForm (nd l x) = true then memN l x else []
end Go.Proofs.Heir
end
namespace Go.Proofs.Heir
open Go Go.Am Go.RowKit Go.Lib
set_option maxRecDepth 100000
set_option maxHeartbeats 8000000

theorem f163_ok (x : NodeM) : FnOK Tryz.prog 163 [] [eNode x] [] (eBool (isForm x)) := by
 obtain ⟨a1, a2, a3, a4, a5, a6, a7, a8, a9, a10⟩ := x
 unfold isForm
 refine FnOK.startC (rvs := [.tmp 2]) G G_good Tryz.func163 rfl Tryz.ntmps163 rfl rfl ?_; with_reducible refine wD ?_
 by_cases e : a1 = 1
 ·(have fct := (eq_true e); (repeat' (first
  | refine gF ?_ | refine aE ?_ ?_
  | apply trivial)); all_goals clear fct)
  all_goals simp [e]
 ·(have fct := (eq_false e); (repeat' (first
  | refine gF ?_ | refine aE ?_ ?_
  | apply trivial)); all_goals clear fct)
  all_goals simp [e]
theorem f198_ok (f : ForM) (T : Tree f.nodes) (n : Int) (hn : thereN f.nodes n = true) : FnOK Tryz.prog 198 [] [eFor f, eInt n] [] (eInt (rootN f.nodes n)) := by
 have hstep := fun n h1 h2 => root_step T (n := n) h1 h2
 have htop := fun n h1 h2 => root_top T (n := n) h1 h2
 have hwst := fun n h1 h2 => way_step T (n := n) h1 h2
 have hpar : ∀ n, thereN f.nodes n = true → (nd f.nodes n).parent = -1 ∨ thereN f.nodes (nd f.nodes n).parent = true := fun n hn => by
  by_cases h : (nd f.nodes n).parent = -1
  ·exact .inl h
  ·exact .inr (T.par n hn h).1
 obtain ⟨l, m⟩ := f
 simp only at hn hstep htop hpar hwst ⊢
 refine FnOK.startC (rvs := [.tmp 4]) G G_good Tryz.func198 rfl Tryz.ntmps198 rfl rfl ?_; with_reducible refine wD ?_
 refine LoopK.use G G_good (fun (c : Int) => [(1, eInt c), (2, .ptr 20 0 0)]) (fun _ => [(20, .live 2 [eFor ⟨l, m⟩] false)])
  (fun c => thereN l c = true ∧ rootN l c = rootN l n) (fun c => (wayN l c).length) n ⟨hn, rfl⟩
  ⟨⟨rfl, rfl⟩, ⟨rfl, ⟨rfl, rfl⟩, trivial⟩, ⟨⟨rfl, rfl, trivial⟩, trivial⟩, trivial⟩ ?_
 rintro c ⟨hc, hr⟩
 with_reducible refine wK ?_
 obtain ⟨i, y, e, hy, hny⟩ := there_iff.1 hc
 have hpc := hpar c hc
 have hst := hstep c hc
 have htp := htop c hc
 have hws := hwst c hc
 rw [hny] at hpc hst htp hws
 obtain ⟨b1, b2, b3, b4, b5, b6, b7, b8, b9, b10⟩ := y
 simp only at hpc hst htp hws
 by_cases e6 : b6 = -1
 ·rw [← hr, htp e6]
  (have fct := (eq_true e6); (repeat' (first
  | refine gF ?_ | refine aE ?_ ?_
  | ((refine IdxK.mk i (eNode _) e (node_get hy) ?_) <;> with_reducible refine wK ?_)
  | apply trivial)); all_goals clear fct)
  all_goals rfl
 ·(have fct := (eq_false e6); (repeat' (first
  | refine gF ?_ | refine aE ?_ ?_
  | ((first
   | (refine IdxK.mk i (eNode _) e (node_get hy) ?_)
   | ((with_reducible show NextK _ _); refine NextK.mk b6 ⟨hpc.resolve_left e6, by rw [← hst e6, hr]⟩ (by rw [hws e6]; simp) ⟨⟨rfl, rfl⟩, ⟨rfl, ⟨rfl, rfl⟩, trivial⟩, ⟨⟨rfl, rfl, trivial⟩, trivial⟩, trivial⟩)) <;> with_reducible refine wK ?_)
  | apply trivial)); all_goals clear fct)
theorem asked_one (f : ForM) (n : Int) : (rightF f && !decide (0 ≤ idxI (fun n => !thereN f.nodes n) [n])) = (rightF f && thereN f.nodes n) := by
 congr 1
 unfold idxI
 cases h : thereN f.nodes n <;> simp [List.findIdx?_cons, h]
theorem f165_ok (f : ForM) (hs : SmallN f.nodes) (hr : rightF f = true) (n : Int) (hn : thereN f.nodes n = true) : FnOK Tryz.prog 165 [] [eFor f, eInt n] [] (eInt (rootN f.nodes n)) := by
 have h76 := f63_ok f hs [n] (by simp)
 rw [asked_one, hr, hn] at h76
 have h77 := f198_ok f (tree_of hr) n hn
 obtain ⟨l, m⟩ := f
 refine FnOK.startC (rvs := [.tmp 4]) G G_good Tryz.func165 rfl Tryz.ntmps165 rfl rfl ?_; with_reducible refine wD ?_
 refine CallK.lit [71] h76 c63 ⟨⟨rfl, rfl, trivial⟩, frz_ints (l := [n]) rfl rfl rfl rfl, trivial⟩ rfl rfl ?_; with_reducible refine wK ?_
 repeat' (first
  | refine gK ?_ | refine aE ?_ ?_
  | (((with_reducible refine kQ 198 ?_); refine cL h77 c198 ?_) <;> with_reducible refine wK ?_)
  | apply trivial)
 all_goals rfl
end Go.Proofs.Heir
section
namespace Go.Proofs.Heir
open Go Go.Am Go.RowKit Go.Lib
set_option maxRecDepth 100000
set_option maxHeartbeats 8000000
namespace V
variable {l : List NodeM}
theorem ord_more (T : Tree l) : ∀ (m : Nat) (n : Int), thereN l n = true → l.length + 1 ≤ m + (wayN l n).length → ordN l (m + 1) n = ordN l m n
 | 0, n, _, h => by have := way_len (l := l) n; omega
 | m + 1, n, hn, h => by
   rw [ordN, ordN]
   congr 1
   refine flatMap_congrI fun k hk => ?_
   refine ord_more T m k (T.kid n hn k hk).1 ?_
   rw [way_kid T hn hk]; simp; omega
theorem ord_eq (T : Tree l) {n : Int} (hn : thereN l n = true) : ordN l l.length n = n :: (nd l n).kids.flatMap (ordN l l.length) := by
 have h0 := there_pos hn
 obtain ⟨m, hm⟩ : ∃ m, l.length = m + 1 := ⟨l.length - 1, by omega⟩
 have h1 : ∀ k ∈ (nd l n).kids, ordN l l.length k = ordN l m k := fun k hk => by
  rw [hm]
  refine ord_more T m k (T.kid n hn k hk).1 ?_
  obtain ⟨r, hr⟩ := way_head T hn
  rw [way_kid T hn hk, hr]; simp; omega
 conv => lhs; rw [hm, ordN]
 congr 1
 exact flatMap_congrI fun k hk => (h1 k hk).symm
def rest (l : List NodeM) (st : List Int) : List Int := st.reverse.flatMap (ordN l l.length)
theorem rest_pop (T : Tree l) {st : List Int} {t : Int} (ht : thereN l t = true) : rest l (st ++ [t]) = t :: rest l (st ++ (nd l t).kids.reverse) := by
 unfold rest
 rw [List.reverse_append, List.reverse_append, List.reverse_reverse]
 simp only [List.reverse_cons, List.reverse_nil, List.nil_append, List.cons_append, List.flatMap_cons, List.flatMap_append]
 rw [ord_eq T ht]; rfl
theorem rest_len (T : Tree l) : ∀ {st : List Int}, (∀ c ∈ st, thereN l c = true) → st.length ≤ (rest l st).length := by
 intro st h
 unfold rest
 have : ∀ s : List Int, (∀ c ∈ s, thereN l c = true) → s.length ≤ (s.flatMap (ordN l l.length)).length := by
  intro s
  induction s with
  | nil => intro _; exact Nat.le_refl _
  | cons a r ih =>
    intro h
    have h1 := ih fun c hc => h c (List.mem_cons_of_mem _ hc)
    rw [List.flatMap_cons, List.length_append, ord_eq T (h a List.mem_cons_self), List.length_cons, List.length_cons]
    omega
 have := this st.reverse fun c hc => h c (by simpa using hc)
 simpa using this
end V
def ordF (f : ForM) (n : Int) : List Int := if (rightF f && thereN f.nodes n) = true then ordN f.nodes f.nodes.length n else []
end Go.Proofs.Heir
end
namespace Go.Proofs.Heir
open Go Go.Am Go.RowKit Go.Lib
set_option maxRecDepth 100000
set_option maxHeartbeats 8000000
theorem f164_own (f : ForM) (hs : SmallN f.nodes) (n : Int) (e0 : (rightF f && thereN f.nodes n) = true) : FnOK Tryz.prog 164 [] [eFor f, eInt n] [rInts (ordN f.nodes f.nodes.length n)] (.own 0 0 (ordN f.nodes f.nodes.length n).length) := by
 have h76 := f63_ok f hs [n] (by simp)
 rw [asked_one] at h76
 obtain ⟨l, m⟩ := f
 simp only at h76 e0 ⊢
 have hlm : (l.map oNode).length = l.length := List.length_map ..
 refine FnOK.startC (rvs := [.tmp 4]) G G_good Tryz.func164 rfl Tryz.ntmps164 rfl rfl ?_; delta List.toArray; (with_reducible ((conv => whnf); (conv => congr <;> reduce); repeat ((first | refine hK ?_ | refine sK ?_); (conv => whnf); (conv => congr <;> reduce))))
 rw [e0] at h76
 refine CallK.lit [131] h76 c63 ⟨⟨rfl, rfl, trivial⟩, frz_ints (l := [n]) rfl rfl rfl rfl, trivial⟩ rfl rfl ?_; (with_reducible ((conv => whnf); (conv => congr <;> reduce); repeat ((first | refine hK ?_ | refine sK ?_); (conv => whnf); (conv => congr <;> reduce))))
 obtain ⟨hr, hn⟩ : rightF ⟨l, m⟩ = true ∧ thereN l n = true := by simpa using e0
 have T := tree_of hr
 have hol := ord_len T l.length hn
 simp only at T hol
 repeat' (first
  | (first
  | ((with_reducible show IfK _ _ _ _); first | refine IfK.ff ?_ | refine IfK.tt ?_ | refine IfK.no (by first | exact qA | ((try simp only [castN]); first | (simp []; done) | (simp []; omega))) ?_ | refine IfK.yes (by first | exact qA | ((try simp only [castN]); first | (simp []; done) | (simp []; omega))) ?_)
  | ((with_reducible show NeedK _ _ _ _); refine nK ?_)
  | ((with_reducible show DrawK _ _ _ _); refine dK ?_)) <;> (with_reducible ((conv => whnf); (conv => congr <;> reduce); repeat ((first | refine hK ?_ | refine sK ?_); (conv => whnf); (conv => congr <;> reduce))))
  | ((with_reducible show (_ ∧ _) ∧ _ ∧ _); refine ⟨⟨rfl, rfl⟩, ?_, ?_⟩ <;> with_reducible ((conv => whnf) <;> repeat' (first | exact trivial | (refine And.intro ?_ ?_ <;> (conv => whnf))))))
 refine LoopK.ghost 5 51 1 rfl rfl ?_
 refine LoopK.use G G_good (fun (i : List Int × List Int × List Int) => [(2, .ptr 20 0 0), (5, .own 51 0 i.1.length), (6, .ptr 60 0 0)])
  (fun i => [(20, .live 2 [eFor ⟨l, m⟩] false), (51, rInts i.1), (60, .live 1 [.own 171 0 i.2.1.length] false), (171, rInts (i.2.1 ++ i.2.2))])
  (fun i => ordN l l.length n = i.1 ++ V.rest l i.2.1 ∧ ∀ c ∈ i.2.1, thereN l c = true) (fun i => l.length - i.1.length) ([], [n], []) ⟨by simp [V.rest], fun c hc => by rw [List.mem_singleton] at hc; subst hc; exact hn⟩
  (by refine ⟨⟨rfl, rfl⟩, ⟨⟨rfl, rfl⟩, ⟨rfl, rfl⟩, ⟨rfl, rfl⟩, trivial⟩, ⟨⟨rfl, rfl, trivial⟩, trivial⟩, ⟨.refl rfl, noRef_ints _⟩, ⟨⟨rfl, rfl⟩, trivial⟩, ⟨.refl rfl, noRef_ints _⟩, trivial⟩) ?_
 rintro ⟨out, st, sp⟩ ⟨ho, hst⟩
 simp only at ho hst
 (with_reducible ((conv => whnf); (conv => congr <;> reduce); repeat ((first | refine hK ?_ | refine sK ?_); (conv => whnf); (conv => congr <;> reduce))))
 have hoL := congrArg List.length ho
 rw [List.length_append] at hoL
 have hol' : out.length = (out.map oInt).length := (List.length_map ..).symm
 have hrl := V.rest_len T hst
 have hl60 := hs.len
 simp only at hl60
 obtain h | ⟨st', t, h⟩ := List.eq_nil_or_concat st <;> (try rw [List.concat_eq_append] at h) <;> subst h
 ·repeat' (first
  | (first
  | ((with_reducible show IfK _ _ _ _); first | refine IfK.ff ?_ | refine IfK.tt ?_ | refine IfK.no (by first | exact qA | ((try simp only [castN]); first | (simp []; done) | (simp []; omega))) ?_ | refine IfK.yes (by first | exact qA | ((try simp only [castN]); first | (simp []; done) | (simp []; omega))) ?_)
  | ((with_reducible show NeedK _ _ _ _); refine nK ?_)
  | ((with_reducible show DrawK _ _ _ _); refine dK ?_)) <;> (with_reducible ((conv => whnf); (conv => congr <;> reduce); repeat ((first | refine hK ?_ | refine sK ?_); (conv => whnf); (conv => congr <;> reduce))))
  | ((with_reducible show (_ ∧ _) ∧ _ ∧ _); refine ⟨⟨rfl, rfl⟩, ?_, ?_⟩ <;> with_reducible ((conv => whnf) <;> repeat' (first | exact trivial | (refine And.intro ?_ ?_ <;> (conv => whnf))))))
  all_goals have ho' : ordN l l.length n = out := by rw [ho]; simp [V.rest]
  all_goals clear ho hoL
  all_goals subst ho'
  all_goals first
   | rfl
   | exact MFL_refl (noRef_ints _)
 ·have ht := hst t (by simp)
  have hlen : (st' ++ [t]).length = st'.length + 1 := by simp
  obtain ⟨k, x, rfl, hx, hnx⟩ := there_iff.1 ht
  rw [hlen]
  rw [hlen] at hrl
  repeat' (first
  | (first
  | ((with_reducible show IfK _ _ _ _); first | refine IfK.ff ?_ | refine IfK.tt ?_ | refine IfK.no (by first | exact qA | ((try simp only [castN]); first | (simp []; done) | (simp []; omega))) ?_ | refine IfK.yes (by first | exact qA | ((try simp only [castN]); first | (simp []; done) | (simp []; omega))) ?_)
  | ((with_reducible show NeedK _ _ _ _); refine nK ?_)
  | ((with_reducible show DrawK _ _ _ _); refine dK ?_)) <;> (with_reducible ((conv => whnf); (conv => congr <;> reduce); repeat ((first | refine hK ?_ | refine sK ?_); (conv => whnf); (conv => congr <;> reduce))))
  | ((with_reducible show (_ ∧ _) ∧ _ ∧ _); refine ⟨⟨rfl, rfl⟩, ?_, ?_⟩ <;> with_reducible ((conv => whnf) <;> repeat' (first | exact trivial | (refine And.intro ?_ ?_ <;> (conv => whnf))))))
  refine LtK.mk st'.length (by (try simp only [castN]); omega) (by omega) ?_; (with_reducible ((conv => whnf); (conv => congr <;> reduce); repeat ((first | refine hK ?_ | refine sK ?_); (conv => whnf); (conv => congr <;> reduce))))
  refine ElemK.mk (eInt (k : Int)) (by rw [Nat.zero_add, List.getElem?_map, List.append_assoc, List.getElem?_append_right (Nat.le_refl _), Nat.sub_self]; rfl) ?_; (with_reducible ((conv => whnf); (conv => congr <;> reduce); repeat ((first | refine hK ?_ | refine sK ?_); (conv => whnf); (conv => congr <;> reduce))))
  repeat' (first
  | (first
  | ((with_reducible show IfK _ _ _ _); first | refine IfK.ff ?_ | refine IfK.tt ?_ | refine IfK.no (by first | exact qA | ((try simp only [castN]); first | (simp []; done) | (simp []; omega))) ?_ | refine IfK.yes (by first | exact qA | ((try simp only [castN]); first | (simp []; done) | (simp []; omega))) ?_)
  | ((with_reducible show NeedK _ _ _ _); refine nK ?_)
  | ((with_reducible show DrawK _ _ _ _); refine dK ?_)) <;> (with_reducible ((conv => whnf); (conv => congr <;> reduce); repeat ((first | refine hK ?_ | refine sK ?_); (conv => whnf); (conv => congr <;> reduce))))
  | ((with_reducible show (_ ∧ _) ∧ _ ∧ _); refine ⟨⟨rfl, rfl⟩, ?_, ?_⟩ <;> with_reducible ((conv => whnf) <;> repeat' (first | exact trivial | (refine And.intro ?_ ?_ <;> (conv => whnf))))))
  refine CutK.mk 0 st'.length rfl (by (try simp only [castN]); omega) (by omega) ?_; (with_reducible ((conv => whnf); (conv => congr <;> reduce); repeat ((first | refine hK ?_ | refine sK ?_); (conv => whnf); (conv => congr <;> reduce))))
  repeat' (first
  | (first
  | ((with_reducible show IfK _ _ _ _); first | refine IfK.ff ?_ | refine IfK.tt ?_ | refine IfK.no (by first | exact qA | ((try simp only [castN]); first | (simp []; done) | (simp []; omega))) ?_ | refine IfK.yes (by first | exact qA | ((try simp only [castN]); first | (simp []; done) | (simp []; omega))) ?_)
  | ((with_reducible show NeedK _ _ _ _); refine nK ?_)
  | ((with_reducible show DrawK _ _ _ _); refine dK ?_)) <;> (with_reducible ((conv => whnf); (conv => congr <;> reduce); repeat ((first | refine hK ?_ | refine sK ?_); (conv => whnf); (conv => congr <;> reduce))))
  | ((with_reducible show (_ ∧ _) ∧ _ ∧ _); refine ⟨⟨rfl, rfl⟩, ?_, ?_⟩ <;> with_reducible ((conv => whnf) <;> repeat' (first | exact trivial | (refine And.intro ?_ ?_ <;> (conv => whnf))))))
  refine AppK.mk (out.map oInt) [eInt (k : Int)] ⟨rfl, hol', rfl⟩ ⟨rfl, rfl, rfl⟩ rfl (by simp; omega) (by simp; omega) ?_; (with_reducible ((conv => whnf); (conv => congr <;> reduce); repeat ((first | refine hK ?_ | refine sK ?_); (conv => whnf); (conv => congr <;> reduce))))
  repeat' (first
  | (first
  | ((with_reducible show IfK _ _ _ _); first | refine IfK.ff ?_ | refine IfK.tt ?_ | refine IfK.no (by first | exact qA | ((try simp only [castN]); first | (simp []; done) | (simp []; omega))) ?_ | refine IfK.yes (by first | exact qA | ((try simp only [castN]); first | (simp []; done) | (simp []; omega))) ?_)
  | ((with_reducible show NeedK _ _ _ _); refine nK ?_)
  | ((with_reducible show DrawK _ _ _ _); refine dK ?_)) <;> (with_reducible ((conv => whnf); (conv => congr <;> reduce); repeat ((first | refine hK ?_ | refine sK ?_); (conv => whnf); (conv => congr <;> reduce))))
  | ((with_reducible show (_ ∧ _) ∧ _ ∧ _); refine ⟨⟨rfl, rfl⟩, ?_, ?_⟩ <;> with_reducible ((conv => whnf) <;> repeat' (first | exact trivial | (refine And.intro ?_ ?_ <;> (conv => whnf))))))
  obtain ⟨a1, a2, a3, a4, a5, a6, a7, a8, a9, a10⟩ := x
  refine IdxK.mk k (eNode _) rfl (node_get hx) ?_; (with_reducible ((conv => whnf); (conv => congr <;> reduce); repeat ((first | refine hK ?_ | refine sK ?_); (conv => whnf); (conv => congr <;> reduce))))
  repeat' (first
  | (first
  | ((with_reducible show IfK _ _ _ _); first | refine IfK.ff ?_ | refine IfK.tt ?_ | refine IfK.no (by first | exact qA | ((try simp only [castN]); first | (simp []; done) | (simp []; omega))) ?_ | refine IfK.yes (by first | exact qA | ((try simp only [castN]); first | (simp []; done) | (simp []; omega))) ?_)
  | ((with_reducible show NeedK _ _ _ _); refine nK ?_)
  | ((with_reducible show DrawK _ _ _ _); refine dK ?_)) <;> (with_reducible ((conv => whnf); (conv => congr <;> reduce); repeat ((first | refine hK ?_ | refine sK ?_); (conv => whnf); (conv => congr <;> reduce))))
  | ((with_reducible show (_ ∧ _) ∧ _ ∧ _); refine ⟨⟨rfl, rfl⟩, ?_, ?_⟩ <;> with_reducible ((conv => whnf) <;> repeat' (first | exact trivial | (refine And.intro ?_ ?_ <;> (conv => whnf))))))
  refine cV (f148_ok a7) c148 ?_; (with_reducible ((conv => whnf); (conv => congr <;> reduce); repeat ((first | refine hK ?_ | refine sK ?_); (conv => whnf); (conv => congr <;> reduce))))
  repeat' (first
  | (first
  | ((with_reducible show IfK _ _ _ _); first | refine IfK.ff ?_ | refine IfK.tt ?_ | refine IfK.no (by first | exact qA | ((try simp only [castN]); first | (simp []; done) | (simp []; omega))) ?_ | refine IfK.yes (by first | exact qA | ((try simp only [castN]); first | (simp []; done) | (simp []; omega))) ?_)
  | ((with_reducible show NeedK _ _ _ _); refine nK ?_)
  | ((with_reducible show DrawK _ _ _ _); refine dK ?_)) <;> (with_reducible ((conv => whnf); (conv => congr <;> reduce); repeat ((first | refine hK ?_ | refine sK ?_); (conv => whnf); (conv => congr <;> reduce))))
  | ((with_reducible show (_ ∧ _) ∧ _ ∧ _); refine ⟨⟨rfl, rfl⟩, ?_, ?_⟩ <;> with_reducible ((conv => whnf) <;> repeat' (first | exact trivial | (refine And.intro ?_ ?_ <;> (conv => whnf))))))
  obtain ⟨spF, hs0, hs1⟩ : ∃ spF : Nat → List Int, spF 0 = (k : Int) :: sp ∧ ∀ j, spF (j + 1) = [] := ⟨fun j => match j with | 0 => (k : Int) :: sp | _ + 1 => [], rfl, fun _ => rfl⟩
  have hk7 := hs.kids _ (List.mem_of_getElem? hx)
  simp only at hk7
  refine LoopK.range G G_good 3 [(2, .ptr 1 0 0), (5, .own 2 0 (out.length + 1)), (6, .ptr 0 0 0), (41, .clo (.func 193) [] [.fptr (eInts a7) 0])]
   (fun j => [(0, .live 1 [.own 171 0 (st'.length + j)] false), (1, .live 2 [eFor ⟨l, m⟩] false), (2, rInts (out ++ [(k : Int)])), (171, rInts (st' ++ a7.reverse.take j ++ spF j))])
   (back_it a7 (by omega)) c193 ?_ rfl ⟨⟨rfl, rfl⟩, rfl⟩ (fun _ _ => rfl) (fun _ _ => rfl) ⟨⟨rfl, rfl⟩, rfl, rfl⟩ ?_ ?_
  ·refine ⟨⟨rfl, rfl⟩, ?_⟩
   (with_reducible conv => whnf)
   repeat' (first | (with_reducible exact trivial) | (with_reducible refine And.intro ?_ ?_ <;> with_reducible conv => whnf))
   all_goals try rfl
   ·simp
   ·exact ⟨.refl rfl, rfl⟩
   ·refine ⟨?_, noRef_ints _⟩
    rw [← show (out ++ [(k : Int)]).map oInt = out.map oInt ++ [AV.lit (.int .i64 k)] by simp; rfl]
    exact .refl (noRef_ints _)
   ·refine ⟨?_, noRef_ints _⟩
    rw [hs0, List.take_zero, List.append_nil, show st' ++ [(k : Int)] ++ sp = st' ++ (k : Int) :: sp by simp]; exact .refl (noRef_ints _)
  ·intro j hj
   (with_reducible ((conv => whnf); (conv => congr <;> reduce); repeat ((first | refine hK ?_ | refine sK ?_); (conv => whnf); (conv => congr <;> reduce))))
   refine BodyK.mk rfl ?_; (with_reducible ((conv => whnf); (conv => congr <;> reduce); repeat ((first | refine hK ?_ | refine sK ?_); (conv => whnf); (conv => congr <;> reduce))))
   repeat' (first
  | (first
  | ((with_reducible show IfK _ _ _ _); first | refine IfK.ff ?_ | refine IfK.tt ?_ | refine IfK.no (by first | exact qA | ((try simp only [castN]); first | (simp []; done) | (simp []; omega))) ?_ | refine IfK.yes (by first | exact qA | ((try simp only [castN]); first | (simp []; done) | (simp []; omega))) ?_)
  | ((with_reducible show NeedK _ _ _ _); refine nK ?_)
  | ((with_reducible show DrawK _ _ _ _); refine dK ?_)) <;> (with_reducible ((conv => whnf); (conv => congr <;> reduce); repeat ((first | refine hK ?_ | refine sK ?_); (conv => whnf); (conv => congr <;> reduce))))
  | ((with_reducible show (_ ∧ _) ∧ _ ∧ _); refine ⟨⟨rfl, rfl⟩, ?_, ?_⟩ <;> with_reducible ((conv => whnf) <;> repeat' (first | exact trivial | (refine And.intro ?_ ?_ <;> (conv => whnf))))))
   refine AppK.take ((st' ++ a7.reverse.take j).map oInt) [oInt ((a7.reverse[j]?).getD 0)] ⟨rfl, by simp; omega, by rw [List.map_append (l₂ := spF j), List.take_left' (by simp; omega)]⟩ ⟨rfl, rfl, rfl⟩ rfl (by simp; omega) (by simp; omega) ?_
   (with_reducible ((conv => whnf); (conv => congr <;> reduce); repeat ((first | refine hK ?_ | refine sK ?_); (conv => whnf); (conv => congr <;> reduce))))
   repeat' (first
  | (first
  | ((with_reducible show IfK _ _ _ _); first | refine IfK.ff ?_ | refine IfK.tt ?_ | refine IfK.no (by first | exact qA | ((try simp only [castN]); first | (simp []; done) | (simp []; omega))) ?_ | refine IfK.yes (by first | exact qA | ((try simp only [castN]); first | (simp []; done) | (simp []; omega))) ?_)
  | ((with_reducible show NeedK _ _ _ _); refine nK ?_)
  | ((with_reducible show DrawK _ _ _ _); refine dK ?_)) <;> (with_reducible ((conv => whnf); (conv => congr <;> reduce); repeat ((first | refine hK ?_ | refine sK ?_); (conv => whnf); (conv => congr <;> reduce))))
  | ((with_reducible show (_ ∧ _) ∧ _ ∧ _); refine ⟨⟨rfl, rfl⟩, ?_, ?_⟩ <;> with_reducible ((conv => whnf) <;> repeat' (first | exact trivial | (refine And.intro ?_ ?_ <;> (conv => whnf))))))
   refine TurnK.mk ?_
   obtain ⟨c, hc⟩ : ∃ c, a7.reverse[j]? = some c := ⟨_, List.getElem?_eq_getElem (by simpa using hj)⟩
   have htk : a7.reverse.take (j + 1) = a7.reverse.take j ++ [c] := by rw [List.take_add_one, hc]; rfl
   rw [hc, Option.getD_some]
   refine ⟨⟨rfl, rfl⟩, ?_⟩
   (with_reducible conv => whnf)
   repeat' (first | (with_reducible exact trivial) | (with_reducible refine And.intro ?_ ?_ <;> with_reducible conv => whnf))
   all_goals try rfl
   ·simp; omega
   ·exact ⟨.refl rfl, rfl⟩
   ·exact ⟨.refl (noRef_ints _), noRef_ints _⟩
   ·refine ⟨?_, noRef_ints _⟩
    rw [hs1, htk, List.append_nil, ← List.append_assoc, List.map_append (l₂ := [c])]; exact .refl (by rw [← List.map_append]; exact noRef_ints _)
  ·(with_reducible ((conv => whnf); (conv => congr <;> reduce); repeat ((first | refine hK ?_ | refine sK ?_); (conv => whnf); (conv => congr <;> reduce))))
   have hT : nd l k = ⟨a1, a2, a3, a4, a5, a6, a7, a8, a9, a10⟩ := hnx
   have hch : (nd l k).kids = a7 := by rw [hT]
   have hpop := V.rest_pop T (st := st') ht
   rw [hch] at hpop
   have hkid : ∀ c ∈ a7, thereN l c = true := fun c hc => (T.kid k ht c (by rw [hch]; exact hc)).1
   have hta : a7.reverse.take a7.length = a7.reverse := List.take_of_length_le (by simp)
   refine NextK.mk (out ++ [(k : Int)], st' ++ a7.reverse, spF a7.length) ⟨?_, ?_⟩ ?_ ?_
   ·rw [ho, hpop]; simp
   ·intro c hc
    rcases List.mem_append.1 hc with h | h
    ·exact hst c (by simp [h])
    ·exact hkid c (by simpa using h)
   ·simp only [List.length_append, List.length_singleton]; omega
   ·refine ⟨⟨rfl, rfl⟩, ?_⟩
    (with_reducible conv => whnf)
    repeat' (first | (with_reducible exact trivial) | (with_reducible refine And.intro ?_ ?_ <;> with_reducible conv => whnf))
    all_goals try rfl
    ·simp
    ·exact ⟨.refl (noRef_ints _), noRef_ints _⟩
    ·simp
    ·refine ⟨?_, noRef_ints _⟩
     rw [hta]; exact .refl (noRef_ints _)
theorem wide_ints (l : List Int) : wideM [(0, rInts l)] = true := by
 have : wideB 1 (l.map oInt) = true := List.all_eq_true.2 fun x hx => by
  obtain ⟨n, _, rfl⟩ := List.mem_map.1 hx; rfl
 show (wideB 1 (l.map oInt) && true) = true
 rw [this]; rfl
theorem f164_ok (f : ForM) (hs : SmallN f.nodes) (n : Int) : FnOK Tryz.prog 164 [] [eFor f, eInt n] [] (eInts (ordF f n)) := by
 cases e0 : (rightF f && thereN f.nodes n) with
 | true =>
   unfold ordF
   rw [if_pos e0]
   refine FnOK.frozen [(0, rInts (ordN f.nodes f.nodes.length n))] ?_ (wide_ints _) (f164_own f hs n e0) (frz_ints rfl rfl rfl rfl)
   funext t
   match t with
   | 0 => rfl
   | n + 1 => rfl
 | false =>
   have h76 := f63_ok f hs [n] (by simp)
   rw [asked_one, e0] at h76
   unfold ordF
   rw [e0]
   obtain ⟨l, m⟩ := f
   refine FnOK.startC (rvs := [.tmp 4]) G G_good Tryz.func164 rfl Tryz.ntmps164 rfl rfl ?_; delta List.toArray; (with_reducible ((conv => whnf); (conv => congr <;> reduce); repeat ((first | refine hK ?_ | refine sK ?_); (conv => whnf); (conv => congr <;> reduce))))
   refine CallK.lit [131] h76 c63 ⟨⟨rfl, rfl, trivial⟩, frz_ints (l := [n]) rfl rfl rfl rfl, trivial⟩ rfl rfl ?_; (with_reducible ((conv => whnf); (conv => congr <;> reduce); repeat ((first | refine hK ?_ | refine sK ?_); (conv => whnf); (conv => congr <;> reduce))))
   repeat' (first
  | (first
  | ((with_reducible show IfK _ _ _ _); first | refine IfK.ff ?_ | refine IfK.tt ?_ | refine IfK.no (by first | exact qA | ((try simp only [castN]); first | (simp []; done) | (simp []; omega))) ?_ | refine IfK.yes (by first | exact qA | ((try simp only [castN]); first | (simp []; done) | (simp []; omega))) ?_)
  | ((with_reducible show NeedK _ _ _ _); refine nK ?_)
  | ((with_reducible show DrawK _ _ _ _); refine dK ?_)) <;> (with_reducible ((conv => whnf); (conv => congr <;> reduce); repeat ((first | refine hK ?_ | refine sK ?_); (conv => whnf); (conv => congr <;> reduce))))
  | ((with_reducible show (_ ∧ _) ∧ _ ∧ _); refine ⟨⟨rfl, rfl⟩, ?_, ?_⟩ <;> with_reducible ((conv => whnf) <;> repeat' (first | exact trivial | (refine And.intro ?_ ?_ <;> (conv => whnf))))))
   all_goals exact .inr (.inr ⟨1, rfl⟩)
@[reducible] def eIds (t : List (ByteArray × Int)) : AV := .fmap (tRows Value.string oInt t)
def oIds (t : List (ByteArray × Int)) : AV := eIds t
@[reducible] def idRows (c : List (Int × List (ByteArray × Int))) : List AV := tRows vInt oIds c
@[reducible] def idsM (c : List (Int × List (ByteArray × Int))) : MS := .live 2 (idRows c) false
theorem mt114 : MapTy Tryz.prog 141 (.int .i64) (.map none) := ⟨3, 202, by kernel_rfl, by kernel_rfl, fun w => Tryz.zeroValue202 w⟩
theorem noRef_tRows {K α : Type} (kv : K → Value) (e : α → AV) (h : ∀ a, noRef (e a) = true) (l : List (K × α)) : noRefL (tRows kv e l) = true := by
 rw [noRefL_iff]; intro x hx
 obtain ⟨p, _, rfl⟩ := List.mem_map.1 hx
 simp [entry, noRef, noRefL, h]
theorem noRef_ids (c : List (Int × List (ByteArray × Int))) : noRefL (idRows c) = true := noRef_tRows _ _ (fun _ => rfl) c
theorem noRef_idT (t : List (ByteArray × Int)) : noRefL (tRows Value.string oInt t) = true := noRef_tRows _ _ (fun _ => rfl) t
structure IdsOK (l : List NodeM) (c : List (Int × List (ByteArray × Int))) : Prop where
 is : ∀ r t, tget r c = some t → t = idTab l r
 len : c.length ≤ 1000
def keepT (l : List NodeM) (c : List (Int × List (ByteArray × Int))) (r : Int) : List (Int × List (ByteArray × Int)) := match tget r c with
 | some _ => c
 | none => c ++ [(r, idTab l r)]
def stepC (l : List NodeM) (c : List (Int × List (ByteArray × Int))) (n : Int) : List (Int × List (ByteArray × Int)) :=
 if (nd l n).kind = 1 then
  match attV (nd l n) formW with
  | some _ => if conN l n = true then keepT l c (rootN l n) else c
  | none => c
 else c
theorem keepT_is {l : List NodeM} {c : List (Int × List (ByteArray × Int))} (h : ∀ r t, tget r c = some t → t = idTab l r) (r : Int) : ∀ q t, tget q (keepT l c r) = some t → t = idTab l q := by
 intro q t
 unfold keepT
 cases hg : tget r c with
 | some x => exact h q t
 | none =>
   rw [← tput_new hg, tget_put]
   by_cases e : r = q
   ·rw [if_pos e]; intro ht; cases ht; rw [e]
   ·rw [if_neg e]; exact h q t
theorem keepT_len (l : List NodeM) (c : List (Int × List (ByteArray × Int))) (r : Int) : (keepT l c r).length ≤ c.length + 1 := by
 unfold keepT; split <;> simp
theorem stepC_is {l : List NodeM} {c : List (Int × List (ByteArray × Int))} (h : ∀ r t, tget r c = some t → t = idTab l r) (n : Int) : ∀ q t, tget q (stepC l c n) = some t → t = idTab l q := by
 unfold stepC
 split
 ·split
  ·split
   ·exact keepT_is h _
   ·exact h
  ·exact h
 ·exact h
theorem stepC_len (l : List NodeM) (c : List (Int × List (ByteArray × Int))) (n : Int) : (stepC l c n).length ≤ c.length + 1 := by
 unfold stepC
 split
 ·split
  ·split
   ·exact keepT_len _ _ _
   ·omega
  ·omega
 ·omega
theorem f167_ok (l : List NodeM) (m : Int) (c : List (Int × List (ByteArray × Int))) (T : Tree l) (n : Int) (hn : thereN l n = true) :
  FnOK Tryz.prog 167 [] [.agg [eNodes l, eInt m, .fmap (idRows c)], eInt n] [] (eInt (nearN l n)) := by
 have hstep := fun n h1 h2 => find_step T (fun p => isForm (nd l p)) (n := n) h1 h2
 have htop := fun n h1 h2 => find_top T (fun p => isForm (nd l p)) (n := n) h1 h2
 have hwst := fun n h1 h2 => way_step T (n := n) h1 h2
 have hpar : ∀ n, thereN l n = true → (nd l n).parent = -1 ∨ thereN l (nd l n).parent = true := fun n hn => by
  by_cases h : (nd l n).parent = -1
  ·exact .inl h
  ·exact .inr (T.par n hn h).1
 unfold nearN
 obtain ⟨q, hq⟩ : ∃ q : Int → Bool, (fun p => isForm (nd l p)) = q := ⟨_, rfl⟩
 rw [hq] at hstep htop ⊢
 have hqe : ∀ p, q p = isForm (nd l p) := fun p => by rw [← hq]
 have step : ∀ p y, thereN l p = true → nd l p = y → (y.parent = -1 ∧ nearBy l q p = -1) ∨ (thereN l y.parent = true ∧ y.parent ≠ -1 ∧ (nearBy l q p = if isForm (nd l y.parent) = true then y.parent else nearBy l q y.parent) ∧ (wayN l y.parent).length < (wayN l p).length) := by
  rintro p y hp rfl
  by_cases e : (nd l p).parent = -1
  ·exact .inl ⟨e, htop p hp e⟩
  ·exact .inr ⟨(hpar p hp).resolve_left e, e, (hstep p hp e).trans (by first | rfl | rw [hqe]), by rw [hwst p hp e]; simp⟩
 clear hstep htop hwst hpar
 refine FnOK.startC (rvs := [.tmp 4]) G G_good Tryz.func167 rfl Tryz.ntmps167 rfl rfl ?_; with_reducible refine wD ?_
 obtain ⟨i, y, e, hy, hny⟩ := there_iff.1 hn
 have hst := step n y hn hny
 obtain ⟨b1, b2, b3, b4, b5, b6, b7, b8, b9, b10⟩ := y
 simp only at hst
 refine IdxK.mk i (eNode _) e (node_get hy) ?_; with_reducible refine wK ?_
 refine LoopK.use G G_good (fun (p : Int) => [(1, eInt p), (2, .ptr 20 0 0)]) (fun _ => [(20, .live 3 [.agg [eNodes l, eInt m, .fmap (idRows c)]] false)])
  (fun p => (p = -1 ∧ nearBy l q n = -1) ∨ (thereN l p = true ∧ p ≠ -1 ∧ nearBy l q n = if isForm (nd l p) = true then p else nearBy l q p)) (fun p => if p = -1 then 0 else (wayN l p).length) b6
  (by rcases hst with h | ⟨h1, h2, h3, _⟩; exact .inl h; exact .inr ⟨h1, h2, h3⟩) (by (refine fK ?_; (with_reducible repeat' (first | exact trivial | (show _ ∧ _; refine aK ?_ ?_))); (all_goals try rfl))) ?_
 intro p hp
 with_reducible refine wK ?_
 rcases hp with ⟨rfl, h1⟩ | ⟨h1, h2, h3⟩
 ·rw [h1]
  repeat' (first
  | refine gK ?_ | refine aE ?_ ?_
  | apply trivial)
  all_goals rfl
 ·obtain ⟨j, z, e', hz, hnz⟩ := there_iff.1 h1
  have hst := step p z h1 hnz
  rw [hnz] at h3
  have h81 := f163_ok z
  obtain ⟨c1, c2, c3, c4, c5, c6, c7, c8, c9, c10⟩ := z
  simp only at hst
  cases hf : isForm ⟨c1, c2, c3, c4, c5, c6, c7, c8, c9, c10⟩ with
  | true =>
    rw [hf] at h81 h3
    rw [h3, if_pos rfl]
    (have fct := (eq_false h2); (repeat' (first
  | refine gF ?_ | refine aE ?_ ?_
  | ((first
   | ((with_reducible refine kQ 163 ?_); refine cL h81 c163 ?_)
   | (refine IdxK.mk j (eNode ⟨c1, c2, c3, c4, c5, c6, c7, c8, c9, c10⟩) e' (node_get hz) ?_)) <;> with_reducible refine wK ?_)
  | apply trivial)); all_goals clear fct)
    all_goals rfl
  | false =>
    rw [hf] at h81 h3
    rw [if_neg (by simp)] at h3
    (have fct := (eq_false h2); (repeat' (first
  | refine gF ?_ | refine aE ?_ ?_
  | ((first
   | ((with_reducible refine kQ 163 ?_); refine cL h81 c163 ?_)
   | (refine IdxK.mk j (eNode ⟨c1, c2, c3, c4, c5, c6, c7, c8, c9, c10⟩) e' (node_get hz) ?_)) <;> with_reducible refine wK ?_)
  | apply trivial)); all_goals clear fct)
    refine NextK.mk c6 ?_ ?_ ?_
    ·rw [h3]
     rcases hst with h | ⟨g1, g2, g3, _⟩
     ·exact .inl h
     ·exact .inr ⟨g1, g2, g3⟩
    ·rw [if_neg h2]
     rcases hst with ⟨h, _⟩ | ⟨_, g2, _, g4⟩
     ·rw [if_pos h]
      obtain ⟨r, hr⟩ := way_head T h1
      rw [hr]; simp
     ·rw [if_neg g2]; exact g4
    ·(refine fK ?_; (with_reducible repeat' (first | exact trivial | (show _ ∧ _; refine aK ?_ ?_))); (all_goals try rfl))
theorem f104_ok (f : ForM) : FnOK Tryz.prog 104 [] [eFor f] [idsM []] (.agg [eNodes f.nodes, eInt f.most, .mapr 0]) := by
 obtain ⟨l, m⟩ := f
 refine FnOK.startC (rvs := [.cell 2 143]) G G_good Tryz.func104 rfl Tryz.ntmps104 rfl rfl ?_; with_reducible refine wD ?_
 repeat' (first
  | refine gK ?_ | refine aE ?_ ?_
  | apply trivial)
 all_goals first | rfl | trivial
theorem rows_snoc {R : AV → AV → Prop} {a b : List AV} {x y : AV} (h : RowsM R a b) (k : R x y) : RowsM R (a ++ [x]) (b ++ [y]) := by
 refine ⟨by simp [h.1], fun i u v hu hv => ?_⟩
 rw [List.getElem?_append] at hu hv
 rw [h.1] at hu
 by_cases hi : i < b.length
 ·rw [if_pos hi] at hu hv; exact h.2 i u v hu hv
 ·rw [if_neg hi] at hu hv
  rw [List.getElem?_singleton] at hu hv
  split at hu
  ·rename_i h0; rw [if_pos h0] at hv; cases hu; cases hv; exact k
  ·cases hu
theorem MFL_of {R : AV → AV → Prop} : ∀ {a b : List AV}, RowsM R a b → MFL R a b
 | [], [], _ => trivial
 | x :: xs, y :: ys, h => ⟨h.2 0 x y rfl rfl, MFL_of ⟨by have := h.1; simpa using this, fun i u v hu hv => h.2 (i + 1) u v (by simpa using hu) (by simpa using hv)⟩⟩
 | [], _ :: _, h => by have := h.1; simp at this
 | _ :: _, [], h => by have := h.1; simp at this
theorem ids_snoc (c : List (Int × List (ByteArray × Int))) (r : Int) (t : List (ByteArray × Int)) : idRows (c ++ [(r, t)]) = idRows c ++ [entry (vInt r) (eIds t)] := by
 unfold idRows tRows; rw [List.map_append]; rfl
theorem frz_idT {m : ML} {fz : Nat → Bool} {k : Nat} {ro : Bool} {rows : List AV} {t : List (ByteArray × Int)} (h1 : lkM m k = .live 2 rows ro) (h2 : fz k = true) (h3 : rows = tRows Value.string oInt t) : FrzMK m fz (eIds t) k := by
 subst h3
 refine ⟨2, _, ro, h1, h2, rfl, fun x hx => ?_⟩
 obtain ⟨p, _, rfl⟩ := List.mem_map.1 hx
 exact ⟨_, _, rfl, rfl⟩
theorem f168_ok (l : List NodeM) (m : Int) (hs : SmallN l) (hrt : rightF ⟨l, m⟩ = true) (c : List (Int × List (ByteArray × Int))) (hc : IdsOK l c) (r : Int) (hr : thereN l r = true) :
  FnOK Tryz.prog 168 [idsM c] [.agg [eNodes l, eInt m, .mapr 0], eInt r] [idsM (keepT l c r)] (eIds (idTab l r)) := by
 have T : Tree l := tree_of hrt
 have h78 := f164_ok ⟨l, m⟩ hs r
 have e78 : ordF ⟨l, m⟩ r = ordN l l.length r := by unfold ordF; rw [if_pos (by rw [hrt, hr]; rfl)]
 rw [e78] at h78
 have hol := ord_len T l.length hr
 have h60 := hs.len
 have hot : ∀ k ∈ ordN l l.length r, thereN l k = true := fun k hk => (ord_root T hr hk).1
 have hci := hc.is r
 have hcl := hc.len
 obtain ⟨kt, hkt⟩ : ∃ kt, keepT l c r = kt := ⟨_, rfl⟩
 rw [hkt]
 unfold keepT at hkt
 unfold idTab at hkt hci ⊢
 have hci := hci
 generalize ordN l l.length r = ks at h78 hol hot hci hkt ⊢
 have hkm : (ks.map oInt).length = ks.length := List.length_map ..
 refine FnOK.startC (rvs := [.tmp 4]) G G_good Tryz.func168 rfl Tryz.ntmps168 rfl rfl ?_; with_reducible refine wD ?_
 refine LookK.tab vInt oIds c (k := r) (zv := .lit (.map none)) mt114 ⟨_, _, rfl⟩ key_int inj_int rfl rfl (fun x hx => ?_) (fun hx => ?_)
 ·rw [hx] at hkt
  dsimp only at hkt
  subst hkt
  rw [show oIds x = eIds x from rfl]
  have hxe := hci x hx
  with_reducible refine wK ?_
  repeat' (first
  | refine gK ?_ | refine aE ?_ ?_
  | apply trivial)
  all_goals first
   | exact MFL_refl (noRef_ids c)
   | rfl
   | exact (congrArg eIds hxe).symm
   | skip
 ·rw [hx] at hkt
  dsimp only at hkt
  subst hkt
  with_reducible refine wK ?_
  repeat' (first
  | refine gK ?_ | refine aE ?_ ?_
  | (((with_reducible refine kQ 164 ?_); refine cV h78 c164 ?_) <;> with_reducible refine wK ?_)
  | apply trivial)
  refine LoopK.use G G_good (fun (j : Nat) => [(1, eInt r), (2, .ptr 20 0 0), (7, .mapr 71), (27, eInts ks), (28, eInt ks.length), (29, eInt j)])
   (fun j => [(0, idsM c), (20, .live 3 [.agg [eNodes l, eInt m, .mapr 0]] false), (71, .live 2 (tRows Value.string oInt ((ks.take j).foldl (addId l) [])) false)])
   (fun j => j ≤ ks.length) (fun j => ks.length - j) 0 (Nat.zero_le _) ?_ ?_
  ·(refine fK ?_; (with_reducible repeat' (first | exact trivial | (show _ ∧ _; refine aK ?_ ?_))); (all_goals try rfl))
   all_goals first
    | exact MFL_refl (noRef_ids c)
    | exact hkm
    | (show (ks.length : Int) = _; rw [hkm])
    | (show ObjK _ [] []; exact ⟨.refl rfl, rfl⟩)
    | skip
  intro j hj
  with_reducible refine wK ?_
  refine IfK.mk (fun h1 => ?_) (fun h1 => ?_) <;> (try simp only [castN] at h1) <;> with_reducible refine wK ?_
  ·have hj' : j < ks.length := by simp only [decide_eq_true_eq] at h1; omega
   obtain ⟨k, hk⟩ : ∃ k, ks[j]? = some k := ⟨_, List.getElem?_eq_getElem hj'⟩
   obtain ⟨i, y, e, hy, hny⟩ := there_iff.1 (hot k (List.mem_of_getElem? hk))
   have h47 := f23_ok y.attrs (by have := hs.attrs y (List.mem_of_getElem? hy); omega) idW
   have hst : (ks.take (j + 1)).foldl (addId l) [] = addId l ((ks.take j).foldl (addId l) []) k := by
    rw [List.take_add_one, hk, List.foldl_append]; rfl
   have hfl := fold_len l (ks.take j) []
   rw [List.length_nil, List.length_take] at hfl
   generalize (ks.take j).foldl (addId l) [] = t at hst hfl ⊢
   have ha : addId l t k = if 0 ≤ findP y.attrs idW ∧ tget (getS y.attrs idW) t = none then tput (getS y.attrs idW) k t else t := by
    unfold addId attV
    rw [hny]
    by_cases e1 : 0 ≤ findP y.attrs idW
    ·rw [if_pos e1]
     simp only
     cases e2 : tget (getS y.attrs idW) t with
     | none => rw [if_pos ⟨e1, rfl⟩]
     | some z => rw [if_neg (fun h => by cases h.2)]
    ·rw [if_neg e1, if_neg (fun h => e1 h.1)]
   rw [ha] at hst
   generalize hg : getS y.attrs idW = gs at h47 hst
   obtain ⟨ok, hok⟩ : ∃ ok, decide (0 ≤ findP y.attrs idW) = ok := ⟨_, rfl⟩
   rw [hok] at h47
   have hst' : (ks.take (j + 1)).foldl (addId l) [] = if ok = true ∧ tget gs t = none then tput gs k t else t := by rw [hst]; simp only [← hok, decide_eq_true_eq]
   clear ha hst hg hok
   obtain ⟨b1, b2, b3, b4, b5, b6, b7, b8, b9, b10⟩ := y
   simp only at h47
   refine IdxK.mk j (eInt k) rfl (int_get hk) ?_; with_reducible refine wK ?_
   refine IdxK.mk i (eNode _) e (node_get hy) ?_; with_reducible refine wK ?_
   refine cL h47 c23 ?_; with_reducible refine wK ?_
   refine LookK.tab Value.string oInt t (k := gs) (zv := eInt 0) map62 ⟨_, _, rfl⟩ key_str inj_str rfl rfl (fun x hx2 => ?_) (fun hx2 => ?_)
   ·rw [hx2, if_neg (fun h => by cases h.2)] at hst'
    rw [show oInt x = eInt x from rfl]
    with_reducible refine wK ?_
    cases ok <;> (
     repeat' (first
  | refine gK ?_ | refine aE ?_ ?_
  | apply trivial)
     refine NextK.mk (j + 1) (by omega) (by omega) ?_
     rw [hst']
     (refine fK ?_; (with_reducible repeat' (first | exact trivial | (show _ ∧ _; refine aK ?_ ?_))); (all_goals try rfl))
     all_goals first
      | exact MFL_refl (noRef_ids c)
      | exact ⟨.refl (noRef_idT t), noRef_idT t⟩
      | skip)
   ·rw [hx2] at hst'
    with_reducible refine wK ?_
    cases ok with
    | false =>
      rw [if_neg (fun h => by cases h.1)] at hst'
      repeat' (first
  | refine gK ?_ | refine aE ?_ ?_
  | apply trivial)
      refine NextK.mk (j + 1) (by omega) (by omega) ?_
      rw [hst']
      (refine fK ?_; (with_reducible repeat' (first | exact trivial | (show _ ∧ _; refine aK ?_ ?_))); (all_goals try rfl))
      all_goals first
       | exact MFL_refl (noRef_ids c)
       | exact ⟨.refl (noRef_idT t), noRef_idT t⟩
       | skip
    | true =>
      rw [if_pos ⟨rfl, rfl⟩] at hst'
      repeat' (first
  | refine gK ?_ | refine aE ?_ ?_
  | apply trivial)
      refine PutK.tab Value.string oInt t k map62 rfl key_str inj_str (by unfold maxLen; omega) rfl ?_; with_reducible refine wK ?_
      repeat' (first
  | refine gK ?_ | refine aE ?_ ?_
  | apply trivial)
      refine NextK.mk (j + 1) (by omega) (by omega) ?_
      rw [hst']
      (refine fK ?_; (with_reducible repeat' (first | exact trivial | (show _ ∧ _; refine aK ?_ ?_))); (all_goals try rfl))
      all_goals first
       | exact MFL_refl (noRef_ids c)
       | exact ⟨.refl (noRef_idT _), noRef_idT _⟩
       | skip
  ·have hjl : j = ks.length := by simp only [decide_eq_false_iff_not] at h1; omega
   subst hjl
   rw [List.take_length]
   generalize hT : ks.foldl (addId l) [] = t
   repeat' (first
  | refine gK ?_ | refine aE ?_ ?_
  | apply trivial)
   refine PutK.new mt114 rfl (key_int r) (tRows_ents key_int) (tRows_no inj_int hx) (by simp [idRows, tRows, maxLen]; omega) rfl rfl ?_; with_reducible refine wK ?_
   repeat' (first
  | refine gK ?_ | refine aE ?_ ?_
  | apply trivial)
   all_goals first
    | exact frz_idT rfl rfl rfl
    | skip
   rw [ids_snoc]
   refine MFL_of (rows_snoc (.refl (noRef_ids c)) ?_)
   exact ⟨rfl, ⟨frz_idT rfl rfl rfl, trivial⟩, trivial⟩
theorem frz_ids {m : ML} {fz : Nat → Bool} {k : Nat} {ro : Bool} {rows : List AV} {c : List (Int × List (ByteArray × Int))} (h1 : lkM m k = .live 2 rows ro) (h2 : fz k = true) (h3 : rows = idRows c) : FrzMK m fz (.fmap (idRows c)) k := by
  subst h3
  refine ⟨2, _, ro, h1, h2, rfl, fun x hx => ?_⟩
  obtain ⟨p, _, rfl⟩ := List.mem_map.1 hx
  exact ⟨_, _, rfl, rfl⟩
theorem att_get {x : NodeM} {w : ByteArray} : attV x w = if 0 ≤ findP x.attrs w then some (getS x.attrs w) else none := rfl
theorem conF_eq {l : List NodeM} {m : Int} (hr : rightF ⟨l, m⟩ = true) {n : Int} (hn : thereN l n = true) : conF ⟨l, m⟩ n = conN l n := by
  unfold conF conN; rw [hr, show thereN (ForM.mk l m).nodes n = true from hn]; rfl
theorem f105_ok (l : List NodeM) (m : Int) (hs : SmallN l) (hrt : rightF ⟨l, m⟩ = true) (c : List (Int × List (ByteArray × Int))) (hc : IdsOK l c) (n : Int) (hn : thereN l n = true) :
    FnOK Tryz.prog 105 [idsM c] [.agg [eNodes l, eInt m, .mapr 0], eInt n] [idsM (stepC l c n)] (eInt (ownN l n)) := by
  have T : Tree l := tree_of hrt
  have h21 := f35_ok ⟨l, m⟩ hs n
  rw [conF_eq hrt hn] at h21
  have h116 := f167_ok l m c T n hn
  have h48 := f165_ok ⟨l, m⟩ hs hrt n hn
  have hrth := (root_there T n hn).1
  have h117 := f168_ok l m hs hrt c hc (rootN l n) hrth
  have hfst := fun v k => @first_some l (rootN l n) v k
  have hord := fun k hk => (ord_root T hrth (n := k) hk).1
  obtain ⟨i, x, e, hx, hnx⟩ := there_iff.1 hn
  have h47 := f23_ok x.attrs (by have := hs.attrs x (List.mem_of_getElem? hx); omega) formW
  unfold ownN stepC byId
  rw [hnx, att_get]
  simp only at h48
  have hig := fun v => idTab_get l (rootN l n) v
  generalize rootN l n = r at h48 h117 hfst hord hig ⊢
  generalize nearN l n = nr at h116 ⊢
  generalize conN l n = cn at h21 ⊢
  generalize hgs : getS x.attrs formW = v at h47 ⊢
  obtain ⟨ok, hok⟩ : ∃ ok, decide (0 ≤ findP x.attrs formW) = ok := ⟨_, rfl⟩
  rw [hok] at h47
  have hok' : (0 ≤ findP x.attrs formW) = (ok = true) := by rw [← hok]; simp
  simp only [hok']
  clear hok hok' hgs
  obtain ⟨a1, a2, a3, a4, a5, a6, a7, a8, a9, a10⟩ := x
  simp only at h47 ⊢
  refine FnOK.startC (rvs := [.tmp 4]) G G_good Tryz.func105 rfl Tryz.ntmps105 rfl rfl ?_; with_reducible refine wD ?_
  refine IdxK.mk i (eNode ⟨a1, a2, a3, a4, a5, a6, a7, a8, a9, a10⟩) e (node_get hx) ?_; with_reducible refine wK ?_
  by_cases e1 : a1 = 1
  · rw [if_pos e1, if_pos e1]
    refine IfK.no (by rw [e1]; rfl) ?_; with_reducible refine wK ?_
    cases ok with
    | false =>
      rw [if_neg (by simp)]
      repeat' (first
    | refine gK ?_
    | ((first
      | ((with_reducible show CallK _ _ 23 _ _ _ _); refine CallK.lit [] h47 c23 ⟨rfl, rfl, trivial⟩ rfl rfl ?_)
      | ((with_reducible show CallK _ _ 35 _ _ _ _); refine CallK.lit [] h21 c35 ⟨⟨rfl, rfl, trivial⟩, rfl, trivial⟩ rfl rfl ?_)
      | ((with_reducible show CallK _ _ 167 _ _ _ _); refine CallK.lit [0] h116 c167 ⟨⟨rfl, rfl, frz_ids rfl rfl rfl, trivial⟩, rfl, trivial⟩ rfl rfl ?_)) <;> with_reducible refine wK ?_)
    | ((with_reducible show (_ ∧ _) ∧ _ ∧ _); (refine eK ?_ ?_ <;> with_reducible repeat' (first | exact trivial | (show _ ∧ _; refine aK ?_ ?_)))))
      all_goals first | rfl | exact MFL_refl (noRef_ids c)
    | true =>
      rw [if_pos rfl]
      simp only
      cases cn with
      | false =>
        rw [if_neg (by simp), if_neg (by simp)]
        repeat' (first
    | refine gK ?_
    | ((first
      | ((with_reducible show CallK _ _ 23 _ _ _ _); refine CallK.lit [] h47 c23 ⟨rfl, rfl, trivial⟩ rfl rfl ?_)
      | ((with_reducible show CallK _ _ 35 _ _ _ _); refine CallK.lit [] h21 c35 ⟨⟨rfl, rfl, trivial⟩, rfl, trivial⟩ rfl rfl ?_)
      | ((with_reducible show CallK _ _ 167 _ _ _ _); refine CallK.lit [0] h116 c167 ⟨⟨rfl, rfl, frz_ids rfl rfl rfl, trivial⟩, rfl, trivial⟩ rfl rfl ?_)) <;> with_reducible refine wK ?_)
    | ((with_reducible show (_ ∧ _) ∧ _ ∧ _); (refine eK ?_ ?_ <;> with_reducible repeat' (first | exact trivial | (show _ ∧ _; refine aK ?_ ?_)))))
        all_goals first | rfl | exact MFL_refl (noRef_ids c)
      | true =>
        rw [if_pos rfl, if_pos rfl]
        repeat' (first
    | refine gK ?_
    | ((first
      | ((with_reducible show CallK _ _ 23 _ _ _ _); refine CallK.lit [] h47 c23 ⟨rfl, rfl, trivial⟩ rfl rfl ?_)
      | ((with_reducible show CallK _ _ 35 _ _ _ _); refine CallK.lit [] h21 c35 ⟨⟨rfl, rfl, trivial⟩, rfl, trivial⟩ rfl rfl ?_)
      | ((with_reducible show CallK _ _ 165 _ _ _ _); refine CallK.lit [] h48 c165 ⟨⟨rfl, rfl, trivial⟩, rfl, trivial⟩ rfl rfl ?_)) <;> with_reducible refine wK ?_)
    | ((with_reducible show (_ ∧ _) ∧ _ ∧ _); (refine eK ?_ ?_ <;> with_reducible repeat' (first | exact trivial | (show _ ∧ _; refine aK ?_ ?_)))))
        refine CallK.lend (news := [idsM (keepT l c r)]) [0] [] h117 c168 ⟨⟨rfl, rfl, trivial, trivial⟩, rfl, trivial⟩ ⟨⟨rfl, .inl ⟨rfl, noRef_ids c⟩⟩, trivial⟩ rfl ⟨⟨rfl, rfl⟩, rfl⟩ rfl ⟨⟨rfl, .inl ⟨rfl, noRef_ids _⟩⟩, trivial⟩ rfl rfl ?_
        with_reducible refine wK ?_
        refine LookK.tab Value.string oInt (idTab l r) (k := v) (zv := eInt 0) map62 rfl key_str inj_str rfl rfl (fun k hk => ?_) (fun hk => ?_)
        · rw [hig] at hk
          rw [hk, show oInt k = eInt k from rfl]
          simp only
          obtain ⟨j, y, e', hy, hny⟩ := there_iff.1 (hord k (hfst v k hk).1)
          rw [hny]
          have h81 := f163_ok y
          obtain ⟨b1, b2, b3, b4, b5, b6, b7, b8, b9, b10⟩ := y
          obtain ⟨fm, hfm⟩ : ∃ fm, isForm ⟨b1, b2, b3, b4, b5, b6, b7, b8, b9, b10⟩ = fm := ⟨_, rfl⟩
          rw [hfm] at h81 ⊢
          with_reducible refine wK ?_
          by_cases ev : v = ⟨#[]⟩
          · rw [if_neg (fun h => h.1 ev)]
            have ev' : v = ⟨⟨[]⟩⟩ := ev
            (have fct := ev'; (repeat' (first
    | refine gF ?_
    | (((with_reducible show DrawK _ _ _ _); refine dK ?_) <;> with_reducible refine wK ?_)
    | ((with_reducible show (_ ∧ _) ∧ _ ∧ _); (refine eK ?_ ?_ <;> with_reducible repeat' (first | exact trivial | (show _ ∧ _; refine aK ?_ ?_)))))); all_goals clear fct)
            all_goals first | rfl | exact MFL_refl (noRef_ids _)
          · have ev' : ¬ v = ⟨⟨[]⟩⟩ := ev
            cases fm with
            | true =>
              rw [if_pos ⟨ev, rfl⟩]
              (have fct := ev'; (repeat' (first
    | refine gF ?_
    | ((first
      | ((with_reducible show DrawK _ _ _ _); refine dK ?_)
      | (refine IdxK.mk j (eNode ⟨b1, b2, b3, b4, b5, b6, b7, b8, b9, b10⟩) e' (node_get hy) ?_)
      | ((with_reducible show CallK _ _ 163 _ _ _ _); refine CallK.lit [] h81 c163 ⟨⟨rfl, rfl, rfl, rfl, rfl, rfl, rfl, rfl, rfl, rfl, trivial⟩, trivial⟩ rfl rfl ?_)) <;> with_reducible refine wK ?_)
    | ((with_reducible show (_ ∧ _) ∧ _ ∧ _); (refine eK ?_ ?_ <;> with_reducible repeat' (first | exact trivial | (show _ ∧ _; refine aK ?_ ?_)))))); all_goals clear fct)
              all_goals first | rfl | exact MFL_refl (noRef_ids _)
            | false =>
              rw [if_neg (fun h => by cases h.2)]
              (have fct := ev'; (repeat' (first
    | refine gF ?_
    | ((first
      | ((with_reducible show DrawK _ _ _ _); refine dK ?_)
      | (refine IdxK.mk j (eNode ⟨b1, b2, b3, b4, b5, b6, b7, b8, b9, b10⟩) e' (node_get hy) ?_)
      | ((with_reducible show CallK _ _ 163 _ _ _ _); refine CallK.lit [] h81 c163 ⟨⟨rfl, rfl, rfl, rfl, rfl, rfl, rfl, rfl, rfl, rfl, trivial⟩, trivial⟩ rfl rfl ?_)) <;> with_reducible refine wK ?_)
    | ((with_reducible show (_ ∧ _) ∧ _ ∧ _); (refine eK ?_ ?_ <;> with_reducible repeat' (first | exact trivial | (show _ ∧ _; refine aK ?_ ?_)))))); all_goals clear fct)
              all_goals first | rfl | exact MFL_refl (noRef_ids _)
        · rw [hig] at hk
          rw [hk]
          with_reducible refine wK ?_
          repeat' (first
    | refine gK ?_
    | (((with_reducible show DrawK _ _ _ _); refine dK ?_) <;> with_reducible refine wK ?_)
    | ((with_reducible show (_ ∧ _) ∧ _ ∧ _); (refine eK ?_ ?_ <;> with_reducible repeat' (first | exact trivial | (show _ ∧ _; refine aK ?_ ?_)))))
          all_goals first | rfl | exact MFL_refl (noRef_ids _)
  · rw [if_neg e1, if_neg e1]
    (have fct := (eq_false e1); (repeat' (first
    | refine gF ?_
    | ((with_reducible show (_ ∧ _) ∧ _ ∧ _); (refine eK ?_ ?_ <;> with_reducible repeat' (first | exact trivial | (show _ ∧ _; refine aK ?_ ?_)))))); all_goals clear fct)
    all_goals first | rfl | exact MFL_refl (noRef_ids c)
def ownF (f : ForM) (n : Int) : Int := if (thereN f.nodes n && rightF f) = true then ownN f.nodes n else -1
theorem idsOK_nil (l : List NodeM) : IdsOK l [] := ⟨fun r t h => (by cases h), (by simp)⟩
theorem f49_ok (f : ForM) (hs : SmallN f.nodes) (n : Int) : FnOK Tryz.prog 49 [] [eFor f, eInt n] [] (eInt (ownF f n)) := by
  have h15 := f17_ok f hs
  have h73 := f104_ok f
  obtain ⟨l, m⟩ := f
  unfold ownF
  simp only at h73 ⊢
  have hlm : (l.map oNode).length = l.length := List.length_map ..
  obtain ⟨o, ho⟩ : ∃ o, (if (thereN l n && rightF ⟨l, m⟩) = true then ownN l n else -1) = o := ⟨_, rfl⟩
  rw [ho]
  refine FnOK.startC (rvs := [.tmp 4]) G G_good Tryz.func49 rfl Tryz.ntmps49 rfl rfl ?_; with_reducible refine wD ?_
  cases ht : thereN l n with
  | false =>
    have ht' : ¬ (0 ≤ n ∧ n < (l.length : Int)) := fun h => by
      unfold thereN at ht; simp [h.1, h.2] at ht
    rw [ht, Bool.false_and, if_neg (by simp)] at ho
    subst ho
    by_cases e1 : n < 0
    · (have fct := (eq_true e1); (repeat' (first
    | refine gF ?_
    | ((with_reducible show (_ ∧ _) ∧ _ ∧ _); (refine eK ?_ ?_ <;> with_reducible repeat' (first | exact trivial | (show _ ∧ _; refine aK ?_ ?_)))))); all_goals clear fct)
      all_goals rfl
    · have e2 : (l.length : Int) ≤ n := by omega
      (have fct := And.intro (eq_false e1) (And.intro hlm ((eq_true e2))); (repeat' (first
    | refine gF ?_
    | ((with_reducible show (_ ∧ _) ∧ _ ∧ _); (refine eK ?_ ?_ <;> with_reducible repeat' (first | exact trivial | (show _ ∧ _; refine aK ?_ ?_)))))); all_goals clear fct)
      all_goals rfl
  | true =>
    obtain ⟨e1, e2⟩ := there_pos ht
    have e1' : ¬ n < 0 := by omega
    have e2' : ¬ (l.length : Int) ≤ n := by omega
    cases hr : rightF ⟨l, m⟩ with
    | false =>
      rw [hr] at h15
      rw [ht, hr, Bool.true_and, if_neg (by simp)] at ho
      subst ho
      (have fct := And.intro (eq_false e1') (And.intro hlm ((eq_false e2'))); (repeat' (first
    | refine gF ?_
    | (((with_reducible show CallK _ _ 17 _ _ _ _); refine CallK.lit [] h15 c17 ⟨⟨rfl, rfl, trivial⟩, trivial⟩ rfl rfl ?_) <;> with_reducible refine wK ?_)
    | ((with_reducible show (_ ∧ _) ∧ _ ∧ _); (refine eK ?_ ?_ <;> with_reducible repeat' (first | exact trivial | (show _ ∧ _; refine aK ?_ ?_)))))); all_goals clear fct)
      all_goals rfl
    | true =>
      rw [hr] at h15
      rw [ht, hr, Bool.true_and, if_pos rfl] at ho
      have h74 := f105_ok l m hs hr [] (idsOK_nil l) n ht
      rw [ho] at h74
      generalize stepC l [] n = c at h74
      (have fct := And.intro (eq_false e1') (And.intro hlm ((eq_false e2'))); (repeat' (first
    | refine gF ?_
    | ((first
      | ((with_reducible show CallK _ _ 17 _ _ _ _); refine CallK.lit [] h15 c17 ⟨⟨rfl, rfl, trivial⟩, trivial⟩ rfl rfl ?_)
      | ((with_reducible show CallK _ _ 104 _ _ _ _); refine CallK.new 201 [] h73 c104 ⟨⟨rfl, rfl, trivial⟩, trivial⟩ rfl rfl rfl ⟨.nil _, rfl, trivial⟩ rfl ?_)
      | ((with_reducible show CallK _ _ 105 _ _ _ _); refine CallK.lend (news := [idsM c]) [201] [] h74 c105 ⟨⟨rfl, rfl, trivial, trivial⟩, rfl, trivial⟩ ⟨⟨rfl, .inl ⟨rfl, rfl⟩⟩, trivial⟩ rfl ⟨⟨rfl, rfl⟩, rfl⟩ rfl ⟨⟨rfl, .inl ⟨rfl, noRef_ids _⟩⟩, trivial⟩ rfl rfl ?_)) <;> with_reducible refine wK ?_)
    | ((with_reducible show (_ ∧ _) ∧ _ ∧ _); (refine eK ?_ ?_ <;> with_reducible repeat' (first | exact trivial | (show _ ∧ _; refine aK ?_ ?_)))))); all_goals clear fct)
      all_goals rfl
def ownTo (l : List NodeM) (k : Nat) : List Int := (List.range k).map fun n : Nat => ownN l (n : Int)
def keepTo (l : List NodeM) : Nat → List (Int × List (ByteArray × Int))
  | 0 => []
  | k + 1 => stepC l (keepTo l k) (k : Int)
theorem keepTo_ok (l : List NodeM) : ∀ k, k ≤ 64 → IdsOK l (keepTo l k) ∧ (keepTo l k).length ≤ k
  | 0, _ => ⟨idsOK_nil l, Nat.le_refl _⟩
  | k + 1, h => by
    obtain ⟨h1, h2⟩ := keepTo_ok l k (by omega)
    have h3 := stepC_len l (keepTo l k) (k : Int)
    exact ⟨⟨stepC_is h1.is _, by show (stepC l (keepTo l k) (k : Int)).length ≤ _; omega⟩, by show (stepC l (keepTo l k) (k : Int)).length ≤ _; omega⟩
theorem ownTo_step (l : List NodeM) (k : Nat) : ownTo l (k + 1) = ownTo l k ++ [ownN l (k : Int)] := by unfold ownTo; rw [List.range_succ, List.map_append]; rfl
theorem ownTo_len (l : List NodeM) (k : Nat) : (ownTo l k).length = k := by unfold ownTo; simp
def allF (f : ForM) : List Int := if rightF f = true then ownTo f.nodes f.nodes.length else []
theorem f50_ok (f : ForM) (hs : SmallN f.nodes) : FnOK Tryz.prog 50 [] [eFor f] [] (eInts (allF f)) := by
  have h15 := f17_ok f hs
  have h73 := f104_ok f
  have h60 := hs.len
  obtain ⟨l, m⟩ := f
  unfold allF
  simp only at h73 h60 ⊢
  have hlm : (l.map oNode).length = l.length := List.length_map ..
  obtain ⟨o, ho⟩ : ∃ o, (if rightF ⟨l, m⟩ = true then ownTo l l.length else []) = o := ⟨_, rfl⟩
  rw [ho]
  refine FnOK.startC (rvs := [.tmp 2]) G G_good Tryz.func50 rfl Tryz.ntmps50 rfl rfl ?_; with_reducible refine wD ?_
  cases hr : rightF ⟨l, m⟩ with
  | false =>
    rw [hr] at h15
    rw [hr, if_neg (by simp)] at ho
    subst ho
    repeat' (first
    | refine gK ?_
    | (((with_reducible show CallK _ _ 17 _ _ _ _); refine CallK.lit [] h15 c17 ⟨⟨rfl, rfl, trivial⟩, trivial⟩ rfl rfl ?_) <;> with_reducible refine wK ?_)
    | ((with_reducible show (_ ∧ _) ∧ _ ∧ _); (refine eK ?_ ?_ <;> with_reducible repeat' (first | exact trivial | (show _ ∧ _; refine aK ?_ ?_)))))
    all_goals exact .inr (.inr ⟨1, rfl⟩)
  | true =>
    rw [hr] at h15
    rw [hr, if_pos rfl] at ho
    subst ho
    have hstep := fun k => ownTo_step l k
    have hlen := fun k => ownTo_len l k
    have hcall : ∀ k, k < l.length → FnOK Tryz.prog 105 [idsM (keepTo l k)] [.agg [eNodes l, eInt m, .mapr 0], eInt (k : Int)] [idsM (keepTo l (k + 1))] (eInt (ownN l (k : Int))) := fun k hk =>
      f105_ok l m hs hr (keepTo l k) (keepTo_ok l k (by omega)).1 k (there_get (List.getElem?_eq_getElem hk))
    have hk0 : keepTo l 0 = [] := rfl
    have ho0 : ownTo l 0 = [] := rfl
    generalize keepTo l = kt at hcall hk0
    generalize ownTo l = ot at hstep hlen ho0 ⊢
    repeat' (first
    | refine gK ?_
    | ((first
      | ((with_reducible show CallK _ _ 17 _ _ _ _); refine CallK.lit [] h15 c17 ⟨⟨rfl, rfl, trivial⟩, trivial⟩ rfl rfl ?_)
      | ((with_reducible show CallK _ _ 104 _ _ _ _); refine CallK.new 101 [] h73 c104 ⟨⟨rfl, rfl, trivial⟩, trivial⟩ rfl rfl rfl ⟨.nil _, rfl, trivial⟩ rfl ?_)) <;> with_reducible refine wK ?_)
    | ((with_reducible show (_ ∧ _) ∧ _ ∧ _); (refine eK ?_ ?_ <;> with_reducible repeat' (first | exact trivial | (show _ ∧ _; refine aK ?_ ?_)))))
    refine LoopK.ghost 3 31 1 rfl rfl ?_
    refine LoopK.use G G_good (fun (k : Nat) => [(1, .ptr 10 0 0), (3, .own 31 0 k), (4, .ptr 40 0 0), (13, eInt l.length), (14, eInt k)])
      (fun k => [(10, .live 2 [eFor ⟨l, m⟩] false), (31, rInts (ot k)), (40, .live 3 [.agg [eNodes l, eInt m, .mapr 101]] false), (101, idsM (kt k))])
      (fun k => k ≤ l.length) (fun k => l.length - k) 0 (Nat.zero_le _) ?_ ?_
    · (refine fK ?_; (with_reducible repeat' (first | exact trivial | (show _ ∧ _; refine aK ?_ ?_))); (all_goals try rfl))
      all_goals first
        | (show (l.length : Int) = _; rw [hlm])
        | (rw [ho0]; exact ⟨.refl rfl, rfl⟩)
        | (rw [hk0]; exact ⟨.refl rfl, rfl⟩)
        | skip
    intro k hk
    have hkl := hlen k
    have hkm : ((ot k).map oInt).length = k := by rw [List.length_map, hkl]
    with_reducible refine wK ?_
    refine IfK.mk (fun h1 => ?_) (fun h1 => ?_) <;> (try simp only [castN] at h1) <;> with_reducible refine wK ?_
    · have hk' : k < l.length := by simp only [decide_eq_true_eq] at h1; omega
      have h74 := hcall k hk'
      have hst := hstep k
      generalize ownN l (k : Int) = o at h74 hst
      repeat' (first
    | refine gK ?_
    | ((first
      | ((with_reducible show CallK _ _ 105 _ _ _ _); refine CallK.lend (news := [idsM (kt (k + 1))]) [101] [] h74 c105 ⟨⟨rfl, rfl, trivial, trivial⟩, rfl, trivial⟩ ⟨⟨rfl, .inl ⟨rfl, noRef_ids _⟩⟩, trivial⟩ rfl ⟨⟨rfl, rfl⟩, rfl⟩ rfl ⟨⟨rfl, .inl ⟨rfl, noRef_ids _⟩⟩, trivial⟩ rfl rfl ?_)
      | ((with_reducible show AppK _ _ _ _ _ _ _ _ _ _); refine AppK.mk ((ot k).map oInt) [eInt o] ⟨rfl, hkm.symm, rfl⟩ ⟨rfl, rfl, rfl⟩ rfl (by simp; omega) (by simp; omega) ?_)
      | ((with_reducible show DrawK _ _ _ _); refine dK ?_)) <;> with_reducible refine wK ?_)
    | ((with_reducible show (_ ∧ _) ∧ _ ∧ _); (refine eK ?_ ?_ <;> with_reducible repeat' (first | exact trivial | (show _ ∧ _; refine aK ?_ ?_)))))
      refine NextK.mk (k + 1) (by omega) (by omega) ?_
      rw [hst]
      (refine fK ?_; (with_reducible repeat' (first | exact trivial | (show _ ∧ _; refine aK ?_ ?_))); (all_goals try rfl))
      all_goals first
        | (simp [hkl]; done)
        | (refine ⟨?_, noRef_ints _⟩; rw [List.map_append]; exact .refl (by rw [← List.map_append]; exact noRef_ints _))
        | exact ⟨.refl (noRef_ids _), noRef_ids _⟩
        | skip
    · have hjl : k = l.length := by simp only [decide_eq_false_iff_not] at h1; omega
      subst hjl
      repeat' (first
    | refine gK ?_
    | ((with_reducible show (_ ∧ _) ∧ _ ∧ _); (refine eK ?_ ?_ <;> with_reducible repeat' (first | exact trivial | (show _ ∧ _; refine aK ?_ ?_)))))
      all_goals exact frz_ints rfl rfl rfl hkl.symm
end Go.Proofs.Heir
