/- Models, plain laws and contracts of functions of the given program; conditions as stated in each theorem. By an AI agent. -/
import Derived.Test.YtpogpigciaajoaaGreatDoorW4
import Derived.Test.YtpogpigciaajoaaGreatDoorW6
import Derived.Test.YtpogpigciaajoaaGreatDoorW5
import Derived.Test.YtpogpigciaajoaaGreatDoorW7
import Derived.Test.YtpogpigciaajoaaGreatDoorW8
import Derived.Laws.StructEq
import Derived.Tactics
set_option linter.unusedSimpArgs false
set_option linter.unusedVariables false
namespace Go.Proofs.Heir
open Go Go.Am Go.RowKit Go.Lib
set_option maxRecDepth 100000
set_option maxHeartbeats 8000000
def oI1 (s : ByteArray) : List MS := [.live 5 [.agg [.own 1 0 2, .lit (.int .i64 (400)), .lit (.int .i64 (0)), .lit (.string s), .lit (.bool false)]] false, .live 10 [.agg [.lit (.int .i64 (0)), .lit (.string ⟨⟨[]⟩⟩), .lit (.string ⟨⟨[]⟩⟩), .lit (.string ⟨⟨[]⟩⟩), .lit (.slice none 0 0), .lit (.int .i64 (-1)), .lit (.slice none 0 0), .lit (.int .i64 (-1)), .lit (.int .i64 (-1)), .lit (.int .i64 (0))], .agg [.lit (.int .i64 (1)), .lit (.string ⟨⟨[100, 105, 118]⟩⟩), .lit (.string ⟨⟨[]⟩⟩), .lit (.string ⟨⟨[]⟩⟩), .lit (.slice none 0 0), .lit (.int .i64 (-1)), .lit (.slice none 0 0), .lit (.int .i64 (-1)), .lit (.int .i64 (-1)), .lit (.int .i64 (0))]] false]
def om1 : Ans := ⟨194, oI1 ⟨⟨[34, 102, 34, 62, 60, 112, 62, 60, 105, 110, 112, 117, 116, 62, 60, 47, 105, 110, 112, 117, 116, 62, 60, 47, 112, 62, 60, 47, 102, 111, 114, 109, 62, 60, 105, 110, 112, 117, 116, 32, 102, 111, 114, 109, 61, 34, 102, 34, 62, 60, 47, 105, 110, 112, 117, 116, 62, 60, 47, 100, 105, 118, 62]⟩⟩, [.ptr 0 0 0, .lit (.string ⟨⟨[34]⟩⟩)], oI1 ⟨⟨[102, 34, 62, 60, 112, 62, 60, 105, 110, 112, 117, 116, 62, 60, 47, 105, 110, 112, 117, 116, 62, 60, 47, 112, 62, 60, 47, 102, 111, 114, 109, 62, 60, 105, 110, 112, 117, 116, 32, 102, 111, 114, 109, 61, 34, 102, 34, 62, 60, 47, 105, 110, 112, 117, 116, 62, 60, 47, 100, 105, 118, 62]⟩⟩, .tup []⟩
theorem om1_run : runF envA 1000 60 om1.g om1.ins om1.args = some (om1.outs, om1.res) := by kernel_rfl
def oq1 : Ans := ⟨175, oI1 ⟨⟨[34, 102, 34, 62, 60, 112, 62, 60, 105, 110, 112, 117, 116, 62, 60, 47, 105, 110, 112, 117, 116, 62, 60, 47, 112, 62, 60, 47, 102, 111, 114, 109, 62, 60, 105, 110, 112, 117, 116, 32, 102, 111, 114, 109, 61, 34, 102, 34, 62, 60, 47, 105, 110, 112, 117, 116, 62, 60, 47, 100, 105, 118, 62]⟩⟩, [.ptr 0 0 0], oI1 ⟨⟨[62, 60, 112, 62, 60, 105, 110, 112, 117, 116, 62, 60, 47, 105, 110, 112, 117, 116, 62, 60, 47, 112, 62, 60, 47, 102, 111, 114, 109, 62, 60, 105, 110, 112, 117, 116, 32, 102, 111, 114, 109, 61, 34, 102, 34, 62, 60, 47, 105, 110, 112, 117, 116, 62, 60, 47, 100, 105, 118, 62]⟩⟩, .lit (.string ⟨⟨[102]⟩⟩)⟩
theorem oq1_ok : oq1.OK Tryz.prog := ⟨f175_ok (.own 1 0 2) (.lit (.int .i64 (400))) (.lit (.int .i64 (0))) _ [102] [62, 60, 112, 62, 60, 105, 110, 112, 117, 116, 62, 60, 47, 105, 110, 112, 117, 116, 62, 60, 47, 112, 62, 60, 47, 102, 111, 114, 109, 62, 60, 105, 110, 112, 117, 116, 32, 102, 111, 114, 109, 61, 34, 102, 34, 62, 60, 47, 105, 110, 112, 117, 116, 62, 60, 47, 100, 105, 118, 62] _ (by decide) (by decide) (Ans.of envA_good om1_run).1, c175⟩
def oI2 (s : ByteArray) : List MS := [.live 5 [.agg [.own 1 0 5, .lit (.int .i64 (400)), .lit (.int .i64 (0)), .lit (.string s), .lit (.bool false)]] false, .live 10 [.agg [.lit (.int .i64 (0)), .lit (.string ⟨⟨[]⟩⟩), .lit (.string ⟨⟨[]⟩⟩), .lit (.string ⟨⟨[]⟩⟩), .lit (.slice none 0 0), .lit (.int .i64 (-1)), .lit (.slice none 0 0), .lit (.int .i64 (-1)), .lit (.int .i64 (-1)), .lit (.int .i64 (0))], .agg [.lit (.int .i64 (1)), .lit (.string ⟨⟨[100, 105, 118]⟩⟩), .lit (.string ⟨⟨[]⟩⟩), .lit (.string ⟨⟨[]⟩⟩), .lit (.slice none 0 0), .lit (.int .i64 (-1)), .own 2 0 1, .lit (.int .i64 (-1)), .lit (.int .i64 (-1)), .lit (.int .i64 (0))], .agg [.lit (.int .i64 (1)), .lit (.string ⟨⟨[102, 111, 114, 109]⟩⟩), .lit (.string ⟨⟨[]⟩⟩), .lit (.string ⟨⟨[]⟩⟩), .own 3 0 1, .lit (.int .i64 (1)), .own 4 0 1, .lit (.int .i64 (-1)), .lit (.int .i64 (-1)), .lit (.int .i64 (0))], .agg [.lit (.int .i64 (1)), .lit (.string ⟨⟨[112]⟩⟩), .lit (.string ⟨⟨[]⟩⟩), .lit (.string ⟨⟨[]⟩⟩), .lit (.slice none 0 0), .lit (.int .i64 (2)), .own 5 0 1, .lit (.int .i64 (-1)), .lit (.int .i64 (-1)), .lit (.int .i64 (0))], .agg [.lit (.int .i64 (1)), .lit (.string ⟨⟨[105, 110, 112, 117, 116]⟩⟩), .lit (.string ⟨⟨[]⟩⟩), .lit (.string ⟨⟨[]⟩⟩), .lit (.slice none 0 0), .lit (.int .i64 (3)), .lit (.slice none 0 0), .lit (.int .i64 (-1)), .lit (.int .i64 (-1)), .lit (.int .i64 (0))]] false, .live 1 [.lit (.int .i64 (2))] false, .live 2 [.agg [.lit (.string ⟨⟨[105, 100]⟩⟩), .lit (.string ⟨⟨[102]⟩⟩)]] false, .live 1 [.lit (.int .i64 (3))] false, .live 1 [.lit (.int .i64 (4))] false]
def om2 : Ans := ⟨194, oI2 ⟨⟨[34, 102, 34, 62, 60, 47, 105, 110, 112, 117, 116, 62, 60, 47, 100, 105, 118, 62]⟩⟩, [.ptr 0 0 0, .lit (.string ⟨⟨[34]⟩⟩)], oI2 ⟨⟨[102, 34, 62, 60, 47, 105, 110, 112, 117, 116, 62, 60, 47, 100, 105, 118, 62]⟩⟩, .tup []⟩
theorem om2_run : runF envA 1000 60 om2.g om2.ins om2.args = some (om2.outs, om2.res) := by kernel_rfl
def oq2 : Ans := ⟨175, oI2 ⟨⟨[34, 102, 34, 62, 60, 47, 105, 110, 112, 117, 116, 62, 60, 47, 100, 105, 118, 62]⟩⟩, [.ptr 0 0 0], oI2 ⟨⟨[62, 60, 47, 105, 110, 112, 117, 116, 62, 60, 47, 100, 105, 118, 62]⟩⟩, .lit (.string ⟨⟨[102]⟩⟩)⟩
theorem oq2_ok : oq2.OK Tryz.prog := ⟨f175_ok (.own 1 0 5) (.lit (.int .i64 (400))) (.lit (.int .i64 (0))) _ [102] [62, 60, 47, 105, 110, 112, 117, 116, 62, 60, 47, 100, 105, 118, 62] _ (by decide) (by decide) (Ans.of envA_good om2_run).1, c175⟩
theorem oq_ok : ∀ r ∈ [oq1, oq2], r.OK Tryz.prog := Ans.cons oq1_ok (Ans.cons oq2_ok (fun _ h => by cases h))
def oR : Ans := ⟨51, [], [.lit (.string ⟨⟨[60, 100, 105, 118, 62, 60, 102, 111, 114, 109, 32, 105, 100, 61, 34, 102, 34, 62, 60, 112, 62, 60, 105, 110, 112, 117, 116, 62, 60, 47, 105, 110, 112, 117, 116, 62, 60, 47, 112, 62, 60, 47, 102, 111, 114, 109, 62, 60, 105, 110, 112, 117, 116, 32, 102, 111, 114, 109, 61, 34, 102, 34, 62, 60, 47, 105, 110, 112, 117, 116, 62, 60, 47, 100, 105, 118, 62]⟩⟩), .lit (.int .i64 (9))], [.live 10 [.agg [.lit (.int .i64 (0)), .lit (.string ⟨⟨[]⟩⟩), .lit (.string ⟨⟨[]⟩⟩), .lit (.string ⟨⟨[]⟩⟩), .lit (.slice none 0 0), .lit (.int .i64 (-1)), .lit (.slice none 0 0), .lit (.int .i64 (-1)), .lit (.int .i64 (-1)), .lit (.int .i64 (0))], .agg [.lit (.int .i64 (1)), .lit (.string ⟨⟨[100, 105, 118]⟩⟩), .lit (.string ⟨⟨[]⟩⟩), .lit (.string ⟨⟨[]⟩⟩), .lit (.slice none 0 0), .lit (.int .i64 (-1)), .own 1 0 2, .lit (.int .i64 (-1)), .lit (.int .i64 (-1)), .lit (.int .i64 (0))], .agg [.lit (.int .i64 (1)), .lit (.string ⟨⟨[102, 111, 114, 109]⟩⟩), .lit (.string ⟨⟨[]⟩⟩), .lit (.string ⟨⟨[]⟩⟩), .own 2 0 1, .lit (.int .i64 (1)), .own 3 0 1, .lit (.int .i64 (-1)), .lit (.int .i64 (-1)), .lit (.int .i64 (0))], .agg [.lit (.int .i64 (1)), .lit (.string ⟨⟨[112]⟩⟩), .lit (.string ⟨⟨[]⟩⟩), .lit (.string ⟨⟨[]⟩⟩), .lit (.slice none 0 0), .lit (.int .i64 (2)), .own 4 0 1, .lit (.int .i64 (-1)), .lit (.int .i64 (-1)), .lit (.int .i64 (0))], .agg [.lit (.int .i64 (1)), .lit (.string ⟨⟨[105, 110, 112, 117, 116]⟩⟩), .lit (.string ⟨⟨[]⟩⟩), .lit (.string ⟨⟨[]⟩⟩), .lit (.slice none 0 0), .lit (.int .i64 (3)), .lit (.slice none 0 0), .lit (.int .i64 (-1)), .lit (.int .i64 (-1)), .lit (.int .i64 (0))], .agg [.lit (.int .i64 (1)), .lit (.string ⟨⟨[105, 110, 112, 117, 116]⟩⟩), .lit (.string ⟨⟨[]⟩⟩), .lit (.string ⟨⟨[]⟩⟩), .own 5 0 1, .lit (.int .i64 (1)), .lit (.slice none 0 0), .lit (.int .i64 (-1)), .lit (.int .i64 (-1)), .lit (.int .i64 (0))]] false, .live 1 [.lit (.int .i64 (2)), .lit (.int .i64 (5))] false, .live 2 [.agg [.lit (.string ⟨⟨[105, 100]⟩⟩), .lit (.string ⟨⟨[102]⟩⟩)]] false, .live 1 [.lit (.int .i64 (3))] false, .live 1 [.lit (.int .i64 (4))] false, .live 2 [.agg [.lit (.string ⟨⟨[102, 111, 114, 109]⟩⟩), .lit (.string ⟨⟨[102]⟩⟩)]] false], .tup [.agg [.own 0 0 6, .lit (.int .i64 (9))], .lit (.int .i64 (1)), .lit (.int .i64 (0))]⟩
theorem oR_run : runF (envA.more [oq1, oq2]) 1000 60 oR.g oR.ins oR.args = some (oR.outs, oR.res) := by kernel_rfl
theorem oR_ok : oR.OK Tryz.prog := Ans.of (EEnv.more_good envA_good oq_ok) oR_run
def oT : ByteArray := ⟨⟨[60, 100, 105, 118, 62, 60, 102, 111, 114, 109, 32, 105, 100, 61, 34, 102, 34, 62, 60, 112, 62, 60, 105, 110, 112, 117, 116, 62, 60, 47, 105, 110, 112, 117, 116, 62, 60, 47, 112, 62, 60, 47, 102, 111, 114, 109, 62, 60, 105, 110, 112, 117, 116, 32, 102, 111, 114, 109, 61, 34, 102, 34, 62, 60, 47, 105, 110, 112, 117, 116, 62, 60, 47, 100, 105, 118, 62]⟩⟩
@[reducible] def wDiv : ByteArray := ⟨#[100, 105, 118]⟩
@[reducible] def wForm : ByteArray := ⟨#[102, 111, 114, 109]⟩
@[reducible] def wPe : ByteArray := ⟨#[112]⟩
@[reducible] def wInp : ByteArray := ⟨#[105, 110, 112, 117, 116]⟩
@[reducible] def wId : ByteArray := ⟨#[105, 100]⟩
@[reducible] def wEf : ByteArray := ⟨#[102]⟩
def oF : ForM := ⟨[⟨0, ⟨#[]⟩, ⟨#[]⟩, ⟨#[]⟩, [], -1, [], -1, -1, 0⟩, ⟨1, wDiv, ⟨#[]⟩, ⟨#[]⟩, [], -1, [2, 5], -1, -1, 0⟩, ⟨1, wForm, ⟨#[]⟩, ⟨#[]⟩, [⟨wId, wEf⟩], 1, [3], -1, -1, 0⟩, ⟨1, wPe, ⟨#[]⟩, ⟨#[]⟩, [], 2, [4], -1, -1, 0⟩, ⟨1, wInp, ⟨#[]⟩, ⟨#[]⟩, [], 3, [], -1, -1, 0⟩, ⟨1, wInp, ⟨#[]⟩, ⟨#[]⟩, [⟨wForm, wEf⟩], 1, [], -1, -1, 0⟩], 9⟩
theorem ofresh_ok : FnOK Tryz.prog 51 [] [eStr oT, eInt 9] [] (.tup [eFor oF, eInt 1, eInt 0]) := by
 have h := oR_ok.1
 refine FnOK.frozen (objsR 0 oR.outs) ?_ (by kernel_rfl) h ?_
 ·funext t
  match t with
  | 0 => rfl
  | 1 => rfl
  | 2 => rfl
  | 3 => rfl
  | 4 => rfl
  | 5 => rfl
  | n + 6 => rfl
 ·have nil2 : ∀ wd, NilK (.sl wd []) := fun wd => .inr (.inr ⟨wd, rfl⟩)
  refine ⟨⟨⟨10, _, _, _, rfl, rfl, rfl, by decide, rfl, RowsM.of ⟨?_, ?_, ?_, ?_, ?_, ?_, trivial⟩⟩, rfl, trivial⟩, rfl, rfl, trivial⟩
  ·exact ⟨rfl, rfl, rfl, rfl, nil2 _, rfl, nil2 _, rfl, rfl, rfl, trivial⟩
  ·exact ⟨rfl, rfl, rfl, rfl, nil2 _, rfl, ⟨1, _, _, _, rfl, rfl, rfl, by decide, rfl, RowsM.of ⟨rfl, rfl, trivial⟩⟩, rfl, rfl, rfl, trivial⟩
  ·exact ⟨rfl, rfl, rfl, rfl, ⟨2, _, _, _, rfl, rfl, rfl, by decide, rfl, RowsM.of ⟨⟨rfl, rfl, trivial⟩, trivial⟩⟩, rfl, ⟨1, _, _, _, rfl, rfl, rfl, by decide, rfl, RowsM.of ⟨rfl, trivial⟩⟩, rfl, rfl, rfl, trivial⟩
  ·exact ⟨rfl, rfl, rfl, rfl, nil2 _, rfl, ⟨1, _, _, _, rfl, rfl, rfl, by decide, rfl, RowsM.of ⟨rfl, trivial⟩⟩, rfl, rfl, rfl, trivial⟩
  ·exact ⟨rfl, rfl, rfl, rfl, nil2 _, rfl, nil2 _, rfl, rfl, rfl, trivial⟩
  ·exact ⟨rfl, rfl, rfl, rfl, ⟨2, _, _, _, rfl, rfl, rfl, by decide, rfl, RowsM.of ⟨⟨rfl, rfl, trivial⟩, trivial⟩⟩, rfl, nil2 _, rfl, rfl, rfl, trivial⟩
def chU (x : NodeM) : List Int := (if x.under = -1 then [] else [x.under]) ++ x.kids
namespace U
def finN (l : List NodeM) : Nat → Int → Bool
 | 0, _ => false
 | m + 1, n => if (upN (nd l n)) = -1 then true else finN l m (upN (nd l n))
def chN (l : List NodeM) : Nat → Int → List Int
 | 0, _ => []
 | m + 1, n => n :: if (upN (nd l n)) = -1 then [] else chN l m (upN (nd l n))
def ordN (l : List NodeM) : Nat → Int → List Int
 | 0, _ => []
 | m + 1, n => n :: (chU (nd l n)).flatMap (ordN l m)
def wayN (l : List NodeM) (n : Int) : List Int := chN l l.length n
theorem fin_of_ends {l : List NodeM} : ∀ {m : Nat} {n : Int}, endsN l m n = true → finN l m n = true
 | 0, n, h => by simp [endsN] at h
 | m + 1, n, h => by
   unfold finN; unfold endsN at h
   by_cases hp : upN (nd l n) = -1
   ·rw [if_pos hp]
   ·rw [if_neg hp] at h ⊢; exact fin_of_ends h
theorem ch_len (l : List NodeM) : ∀ (m : Nat) (n : Int), (chN l m n).length ≤ m
 | 0, _ => Nat.le_refl _
 | m + 1, n => by
   unfold chN
   split
   ·simp
   ·have := ch_len l m (upN (nd l n))
    simp; omega
theorem ch_more {l : List NodeM} : ∀ {m k : Nat} {n : Int}, finN l m n = true → m ≤ k → chN l k n = chN l m n
 | 0, k, n, h, _ => by simp [finN] at h
 | m + 1, k, n, h, hk => by
   obtain ⟨k, rfl⟩ : ∃ j, k = j + 1 := ⟨k - 1, by omega⟩
   unfold finN at h
   unfold chN
   by_cases hp : (upN (nd l n)) = -1
   ·rw [if_pos hp, if_pos hp]
   ·rw [if_neg hp] at h
    rw [if_neg hp, if_neg hp, ch_more h (by omega)]
structure Tree (l : List NodeM) : Prop where
 par : ∀ n, thereN l n = true → (upN (nd l n)) ≠ -1 → thereN l (upN (nd l n)) = true ∧ n ∈ (chU (nd l (upN (nd l n))))
 kid : ∀ n, thereN l n = true → ∀ k ∈ (chU (nd l n)), thereN l k = true ∧ (upN (nd l k)) = n
 dup : ∀ n, thereN l n = true → (chU (nd l n)).Nodup
 fin : ∀ n, thereN l n = true → finN l l.length n = true
variable {l : List NodeM}
theorem up_ind (T : Tree l) {P : Int → Prop} (h0 : ∀ n, thereN l n = true → (upN (nd l n)) = -1 → P n) (h1 : ∀ n, thereN l n = true → (upN (nd l n)) ≠ -1 → thereN l (upN (nd l n)) = true → P (upN (nd l n)) → P n) : ∀ n, thereN l n = true → P n := by
 have H : ∀ (m : Nat) (n : Int), thereN l n = true → finN l m n = true → P n := by
  intro m
  induction m with
  | zero => intro n _ h; simp [finN] at h
  | succ m ih =>
    intro n hn h
    unfold finN at h
    by_cases hp : (upN (nd l n)) = -1
    ·exact h0 n hn hp
    ·rw [if_neg hp] at h
     have hq := (T.par n hn hp).1
     exact h1 n hn hp hq (ih _ hq h)
 exact fun n hn => H _ n hn (T.fin n hn)
theorem way_top (T : Tree l) {n : Int} (hn : thereN l n = true) (hp : (upN (nd l n)) = -1) : wayN l n = [n] := by
 have := there_pos hn
 obtain ⟨m, hm⟩ : ∃ m, l.length = m + 1 := ⟨l.length - 1, by omega⟩
 unfold wayN; rw [hm]; unfold chN; rw [if_pos hp]
theorem way_step (T : Tree l) {n : Int} (hn : thereN l n = true) (hp : (upN (nd l n)) ≠ -1) : wayN l n = n :: wayN l (upN (nd l n)) := by
 have := there_pos hn
 obtain ⟨m, hm⟩ : ∃ m, l.length = m + 1 := ⟨l.length - 1, by omega⟩
 have hf := T.fin n hn
 unfold wayN; rw [hm] at hf ⊢
 unfold finN at hf
 rw [if_neg hp] at hf
 rw [chN, if_neg hp, ch_more hf (Nat.le_succ m)]
theorem way_kid (T : Tree l) {n k : Int} (hn : thereN l n = true) (hk : k ∈ (chU (nd l n))) : wayN l k = k :: wayN l n := by
 have h := T.kid n hn k hk
 have h0 := there_pos hn
 have hp : (upN (nd l k)) ≠ -1 := by rw [h.2]; omega
 rw [way_step T h.1 hp, h.2]
theorem way_head (T : Tree l) {n : Int} (hn : thereN l n = true) : ∃ r, wayN l n = n :: r := by
 by_cases hp : (upN (nd l n)) = -1
 ·exact ⟨[], way_top T hn hp⟩
 ·exact ⟨_, way_step T hn hp⟩
theorem way_self (T : Tree l) {n : Int} (hn : thereN l n = true) : n ∈ wayN l n := by
 obtain ⟨r, hr⟩ := way_head T hn; rw [hr]; exact List.mem_cons_self
theorem way_len (n : Int) : (wayN l n).length ≤ l.length := ch_len l _ n
theorem way_there (T : Tree l) : ∀ n, thereN l n = true → ∀ a ∈ wayN l n, thereN l a = true := by
 refine up_ind T (fun n hn hp a ha => ?_) (fun n hn hp hq ih a ha => ?_)
 ·rw [way_top T hn hp] at ha; rw [List.mem_singleton.1 ha]; exact hn
 ·rw [way_step T hn hp] at ha
  rcases List.mem_cons.1 ha with rfl | h
  ·exact hn
  ·exact ih a h
theorem way_cut (T : Tree l) : ∀ n, thereN l n = true → ∀ a ∈ wayN l n, ∃ t, wayN l n = t ++ wayN l a := by
 refine up_ind T (fun n hn hp a ha => ?_) (fun n hn hp hq ih a ha => ?_)
 ·have h := ha; rw [way_top T hn hp] at h; rw [List.mem_singleton.1 h]; exact ⟨[], rfl⟩
 ·have h := ha
  rw [way_step T hn hp] at h
  rcases List.mem_cons.1 h with rfl | h
  ·exact ⟨[], rfl⟩
  ·obtain ⟨t, ht⟩ := ih a h
   exact ⟨n :: t, by rw [way_step T hn hp, ht]; rfl⟩
theorem way_trans (T : Tree l) {a b c : Int} (hc : thereN l c = true) (h1 : a ∈ wayN l b) (h2 : b ∈ wayN l c) : a ∈ wayN l c := by
 obtain ⟨t, ht⟩ := way_cut T c hc b h2
 rw [ht]; exact List.mem_append_right _ h1
theorem way_eq (T : Tree l) {n a b : Int} (hn : thereN l n = true) (ha : a ∈ wayN l n) (hb : b ∈ wayN l n) (he : (wayN l a).length = (wayN l b).length) : a = b := by
 obtain ⟨t, ht⟩ := way_cut T n hn a ha
 obtain ⟨s, hs⟩ := way_cut T n hn b hb
 rw [ht] at hs
 have h := (List.append_inj' hs he).2
 obtain ⟨r, hr⟩ := way_head T (way_there T n hn a ha)
 obtain ⟨q, hq⟩ := way_head T (way_there T n hn b hb)
 rw [hr, hq] at h
 exact (List.cons.inj h).1
theorem ord_way (T : Tree l) : ∀ (m : Nat) (n : Int), thereN l n = true → ∀ b ∈ ordN l m n, thereN l b = true ∧ n ∈ wayN l b
 | 0, n, _, b, hb => by simp [ordN] at hb
 | m + 1, n, hn, b, hb => by
   unfold ordN at hb
   rcases List.mem_cons.1 hb with rfl | h
   ·exact ⟨hn, way_self T hn⟩
   ·obtain ⟨k, hk, hbk⟩ := List.mem_flatMap.1 h
    have hkk := T.kid n hn k hk
    obtain ⟨h1, h2⟩ := ord_way T m k hkk.1 b hbk
    refine ⟨h1, way_trans T h1 ?_ h2⟩
    rw [way_kid T hn hk]
    exact List.mem_cons_of_mem _ (way_self T hn)
theorem ord_kid (T : Tree l) : ∀ (m : Nat) (n : Int), thereN l n = true → l.length + 1 ≤ m + (wayN l n).length → ∀ x ∈ ordN l m n, ∀ k ∈ (chU (nd l x)), k ∈ ordN l m n
 | 0, n, _, _, x, hx, _, _ => by simp [ordN] at hx
 | m + 1, n, hn, hm, x, hx, k, hk => by
   unfold ordN at hx ⊢
   refine List.mem_cons_of_mem _ (List.mem_flatMap.2 ?_)
   rcases List.mem_cons.1 hx with rfl | h
   ·have hkk := T.kid x hn k hk
    have h1 := way_len (l := l) k
    rw [way_kid T hn hk] at h1
    have h2 : (wayN l x).length + 1 ≤ l.length := h1
    obtain ⟨j, hj⟩ : ∃ j, m = j + 1 := ⟨m - 1, by omega⟩
    refine ⟨k, hk, ?_⟩
    rw [hj]; unfold ordN; exact List.mem_cons_self
   ·obtain ⟨c, hc, hxc⟩ := List.mem_flatMap.1 h
    have hcc := T.kid n hn c hc
    refine ⟨c, hc, ord_kid T m c hcc.1 ?_ x hxc k hk⟩
    rw [way_kid T hn hc]; simp; omega
theorem way_ord (T : Tree l) {m : Nat} {n : Int} (hn : thereN l n = true) (hm : l.length + 1 ≤ m + (wayN l n).length) : ∀ b, thereN l b = true → n ∈ wayN l b → b ∈ ordN l m n := by
 have hself : n ∈ ordN l m n := by
  have := way_len (l := l) n
  obtain ⟨j, hj⟩ : ∃ j, m = j + 1 := ⟨m - 1, by omega⟩
  rw [hj]; unfold ordN; exact List.mem_cons_self
 refine up_ind T (fun b hb hp h => ?_) (fun b hb hp hq ih h => ?_)
 ·rw [way_top T hb hp] at h; rw [← List.mem_singleton.1 h]; exact hself
 ·rw [way_step T hb hp] at h
  rcases List.mem_cons.1 h with rfl | h
  ·exact hself
  ·exact ord_kid T m n hn hm _ (ih h) _ (T.par b hb hp).2
theorem ord_fuel (T : Tree l) {n : Int} (hn : thereN l n = true) : l.length + 1 ≤ l.length + (wayN l n).length := by
 obtain ⟨r, hr⟩ := way_head T hn
 rw [hr]; simp
theorem ord_iff (T : Tree l) {a b : Int} (ha : thereN l a = true) (hb : thereN l b = true) : b ∈ ordN l l.length a ↔ a ∈ wayN l b :=
 ⟨fun h => (ord_way T _ a ha b h).2, fun h => way_ord T ha (ord_fuel T ha) b hb h⟩
theorem ord_nodup (T : Tree l) : ∀ (m : Nat) (n : Int), thereN l n = true → (ordN l m n).Nodup
 | 0, _, _ => List.nodup_nil
 | m + 1, n, hn => by
   unfold ordN
   refine List.nodup_cons.2 ⟨fun h => ?_, ?_⟩
   ·obtain ⟨k, hk, hnk⟩ := List.mem_flatMap.1 h
    have hkk := T.kid n hn k hk
    have h1 := (ord_way T m k hkk.1 n hnk).2
    obtain ⟨t, ht⟩ := way_cut T n hn k h1
    have h2 := congrArg List.length ht
    rw [way_kid T hn hk] at h2
    simp at h2
    omega
   ·refine List.pairwise_flatMap.2 ⟨fun k hk => ord_nodup T m k (T.kid n hn k hk).1, ?_⟩
    refine List.Pairwise.imp_of_mem (fun {a b} ha hb hab x hx y hy e => ?_) (T.dup n hn)
    subst e
    have h1 := ord_way T m a (T.kid n hn a ha).1 x hx
    have h2 := ord_way T m b (T.kid n hn b hb).1 x hy
    refine hab (way_eq T h1.1 h1.2 h2.2 ?_)
    rw [way_kid T hn ha, way_kid T hn hb]; rfl
theorem ord_len (T : Tree l) (m : Nat) {n : Int} (hn : thereN l n = true) : (ordN l m n).length ≤ l.length :=
 ints_len (ord_nodup T m n hn) fun x hx => there_pos (ord_way T m n hn x hx).1
theorem tree_of {f : ForM} (h : rightF f = true) : Tree f.nodes := by
 have hN := right_nodes h
 have T := Heir.tree_of h
 have kidK : ∀ n, thereN f.nodes n = true → ∀ c ∈ (nd f.nodes n).kids, (nd f.nodes c).kind = 1 ∨ (nd f.nodes c).kind = 2 := by
  intro n hn c hc
  have h1 := hN n hn
  unfold nodeOK bearsN at h1
  simp only [Bool.and_eq_true] at h1
  have h2 := (kidsOK_iff.1 h1.2.2.2.1.1).1 c hc
  unfold kidP at h2
  simp only [Bool.and_eq_true, Bool.or_eq_true, decide_eq_true_eq] at h2
  rcases h2.2.2.2 with h3 | h3
  ·exact .inl h3
  ·exact .inr h3.1
 have und : ∀ n, thereN f.nodes n = true → (nd f.nodes n).under ≠ -1 → thereN f.nodes (nd f.nodes n).under = true ∧ (nd f.nodes (nd f.nodes n).under).kind = 4 ∧ (nd f.nodes (nd f.nodes n).under).host = n := by
  intro n hn hu
  have h1 := hN n hn
  unfold nodeOK shadedN isN at h1
  simp only [Bool.and_eq_true, Bool.or_eq_true, decide_eq_true_eq] at h1
  rcases h1.2.2.2.2.2 with h2 | h2
  ·exact absurd h2 hu
  ·exact ⟨h2.1.2.1, h2.1.2.2, h2.2⟩
 have top4 : ∀ n, thereN f.nodes n = true → (nd f.nodes n).kind = 4 → (nd f.nodes n).parent = -1 := by
  intro n hn hk
  have h1 := hN n hn
  unfold nodeOK hungN at h1
  simp only [Bool.and_eq_true, Bool.or_eq_true, decide_eq_true_eq] at h1
  rcases h1.2.2.1 with h2 | h2
  ·exact h2
  ·rcases h2.1.1.1 with h3 | h3 <;> (rw [hk] at h3; cases h3)
 have mem : ∀ (x : NodeM) (k : Int), k ∈ chU x ↔ (x.under ≠ -1 ∧ k = x.under) ∨ k ∈ x.kids := by
  intro x k
  unfold chU
  rw [List.mem_append]
  by_cases hu : x.under = -1
  ·simp [hu]
  ·simp [hu]
 refine ⟨fun n hn hp => ?_, fun n hn k hk => ?_, fun n hn => ?_, fun n hn => fin_of_ends (right_ends h n hn)⟩
 ·unfold upN at hp ⊢
  by_cases hq : (nd f.nodes n).parent = -1
  ·rw [if_pos hq] at hp ⊢
   have h1 := hN n hn
   unfold nodeOK shadedN at h1
   simp only [Bool.and_eq_true] at h1
   have h2 := h1.2.2.2.2.1
   by_cases hk : (nd f.nodes n).kind = 4
   ·rw [if_pos hk] at h2
    unfold isN at h2
    simp only [Bool.and_eq_true, decide_eq_true_eq] at h2
    refine ⟨h2.1.1.1, (mem _ _).2 (.inl ⟨?_, h2.1.2.symm⟩)⟩
    rw [h2.1.2]
    have := there_pos hn
    omega
   ·rw [if_neg hk] at h2
    exact absurd (by simpa using h2) hp
  ·rw [if_neg hq]
   have h1 := T.par n hn hq
   exact ⟨h1.1, (mem _ _).2 (.inr h1.2)⟩
 ·have hn0 := there_pos hn
  rcases (mem _ _).1 hk with ⟨h1, rfl⟩ | h1
  ·obtain ⟨h2, h3, h4⟩ := und n hn h1
   exact ⟨h2, by unfold upN; rw [if_pos (top4 _ h2 h3)]; exact h4⟩
  ·obtain ⟨h2, h3⟩ := T.kid n hn k h1
   exact ⟨h2, by unfold upN; rw [if_neg (by rw [h3]; omega)]; exact h3⟩
 ·unfold chU
  by_cases hu : (nd f.nodes n).under = -1
  ·rw [if_pos hu]; exact T.dup n hn
  ·rw [if_neg hu]
   refine List.nodup_cons.2 ⟨fun hm => ?_, T.dup n hn⟩
   have h1 := (und n hn hu).2.1
   rcases kidK n hn _ hm with h2 | h2 <;> (rw [h1] at h2; cases h2)
end U
theorem AppK.take {rb rs : List AV} {off len off' len' bytes : Nat} {acc : Tk} {sl : SL} {m : ML} {A : List AV → Tk → SL → ML → Prop} (rows0 news : List AV) (h0 : off = 0 ∧ len ≤ rb.length ∧ rows0 = rb.take len) (h1 : off' = 0 ∧ len' = rs.length ∧ news = rs) (h2 : oneL (flat news) = true)
  (h3 : (rows0.length + news.length) * bytes ≤ 140737488355328) (h4 : rows0.length + news.length ≤ 9223372036854775807) (h : A (rows0 ++ news) acc sl m) : AppK rb off len rs off' len' bytes acc sl m (A := A) := by
 obtain ⟨rfl, hl, rfl⟩ := h0
 obtain ⟨rfl, rfl, rfl⟩ := h1
 exact ⟨_, _, by omega, by simp, by omega, by simp, h2, h3, h4, h⟩
theorem flatMap_congrI {α β : Type} {f g : α → List β} : ∀ {l : List α}, (∀ a ∈ l, f a = g a) → l.flatMap f = l.flatMap g
 | [], _ => rfl
 | a :: r, h => by rw [List.flatMap_cons, List.flatMap_cons, h a List.mem_cons_self, flatMap_congrI fun b hb => h b (List.mem_cons_of_mem _ hb)]
namespace U
variable {l : List NodeM}
theorem ord_more (T : Tree l) : ∀ (m : Nat) (n : Int), thereN l n = true → l.length + 1 ≤ m + (wayN l n).length → ordN l (m + 1) n = ordN l m n
 | 0, n, _, h => by have := way_len (l := l) n; omega
 | m + 1, n, hn, h => by
   rw [ordN, ordN]
   congr 1
   refine flatMap_congrI fun k hk => ?_
   refine ord_more T m k (T.kid n hn k hk).1 ?_
   rw [way_kid T hn hk]; simp; omega
theorem ord_eq (T : Tree l) {n : Int} (hn : thereN l n = true) : ordN l l.length n = n :: (chU (nd l n)).flatMap (ordN l l.length) := by
 have h0 := there_pos hn
 obtain ⟨m, hm⟩ : ∃ m, l.length = m + 1 := ⟨l.length - 1, by omega⟩
 have h1 : ∀ k ∈ chU (nd l n), ordN l l.length k = ordN l m k := fun k hk => by
  rw [hm]
  refine ord_more T m k (T.kid n hn k hk).1 ?_
  obtain ⟨r, hr⟩ := way_head T hn
  rw [way_kid T hn hk, hr]; simp; omega
 conv => lhs; rw [hm, ordN]
 congr 1
 exact flatMap_congrI fun k hk => (h1 k hk).symm
def rest (l : List NodeM) (st : List Int) : List Int := st.reverse.flatMap (ordN l l.length)
theorem rest_pop (T : Tree l) {st : List Int} {t : Int} (ht : thereN l t = true) : rest l (st ++ [t]) = t :: rest l (st ++ (chU (nd l t)).reverse) := by
 unfold rest
 rw [List.reverse_append, List.reverse_append, List.reverse_reverse]
 simp only [List.reverse_cons, List.reverse_nil, List.nil_append, List.cons_append, List.flatMap_cons, List.flatMap_append]
 rw [ord_eq T ht]; rfl
theorem rest_len (T : Tree l) : ∀ {st : List Int}, (∀ c ∈ st, thereN l c = true) → st.length ≤ (rest l st).length := by
 intro st h
 unfold rest
 have : ∀ s : List Int, (∀ c ∈ s, thereN l c = true) → s.length ≤ (s.flatMap (ordN l l.length)).length := by
  intro s
  induction s with
  | nil => intro _; exact Nat.le_refl _
  | cons a r ih =>
    intro h
    have h1 := ih fun c hc => h c (List.mem_cons_of_mem _ hc)
    rw [List.flatMap_cons, List.length_append, ord_eq T (h a List.mem_cons_self), List.length_cons, List.length_cons]
    omega
 have := this st.reverse fun c hc => h c (by simpa using hc)
 simpa using this
end U
theorem f43s_ok (s : ByteArray) : FnOK Tryz.prog 57 [] [eStr s] [] (eBool (customS s)) := by
 cases hr : rightS s with
 | true =>
   have hs : s.size ≤ 100000 := by
    have h0 := hr; unfold rightS rightL at h0; simp only [Bool.and_eq_true, decide_eq_true_eq] at h0
    have hsz : s.size = s.data.toList.length := size_len s
    omega
   exact f57_ok s hs
 | false =>
   have e : customS s = false := by unfold customS; rw [hr]; rfl
   rw [e]
   refine FnOK.startC (rvs := [.tmp 2]) G G_good Tryz.func57 rfl Tryz.ntmps57 rfl rfl ?_; with_reducible refine wD ?_
   refine cL (f100_ok s) c100 ?_; with_reducible refine wK ?_
   rw [hr]
   repeat' (first
  | refine gK ?_ | refine aE ?_ ?_
  | apply trivial)
def smallX (x : NodeM) : Bool := decide (x.kids.length ≤ 60) && decide (x.attrs.length ≤ 60) && decide (x.name.size ≤ 300)
theorem short_eq (f : ForM) : shortF f = (decide (f.nodes.length ≤ 60) && f.nodes.all smallX) := rfl
theorem all_no {α : Type} {p : α → Bool} {l : List α} {k : Nat} {x : α} (h : l[k]? = some x) (hp : p x = false) : l.all p = false := by
 rw [Bool.eq_false_iff]
 intro h1
 rw [List.all_eq_true] at h1
 rw [h1 x (List.mem_of_getElem? h)] at hp; cases hp
theorem all_yes {α : Type} {p : α → Bool} {l : List α} (h : ∀ (k : Nat) (x : α), l[k]? = some x → p x = true) : l.all p = true := by
 rw [List.all_eq_true]
 intro x hx
 obtain ⟨k, hk⟩ := List.getElem?_of_mem hx
 exact h k x hk
theorem f13_ok (f : ForM) : FnOK Tryz.prog 13 [] [eFor f] [] (eBool (shortF f)) := by
 rw [short_eq]
 obtain ⟨l, m⟩ := f
 simp only
 have hlm : (l.map oNode).length = l.length := List.length_map ..
 refine FnOK.startC (rvs := [.tmp 2]) G G_good Tryz.func13 rfl Tryz.ntmps13 rfl rfl ?_; with_reducible refine wD ?_
 by_cases e0 : (60 : Int) < (l.length : Int)
 ·rw [decide_eq_false (show ¬ l.length ≤ 60 by omega)]
  (have fct := And.intro hlm (e0); (repeat' (first
  | refine gF ?_ | refine aE ?_ ?_
  | apply trivial)); all_goals clear fct)
  all_goals rfl
 rw [decide_eq_true (show l.length ≤ 60 by omega), Bool.true_and]
 (have fct := And.intro hlm ((eq_false e0)); (repeat' (first
  | refine gF ?_ | refine aE ?_ ?_
  | apply trivial)); all_goals clear fct)
 refine LoopK.use G G_good (fun (k : Nat) => [(1, .ptr 10 0 0), (3, eInt k)]) (fun _ => [(10, .live 2 [eFor ⟨l, m⟩] false)])
  (fun k => k ≤ l.length ∧ ∀ (j : Nat) (y : NodeM), j < k → l[j]? = some y → smallX y = true) (fun k => l.length - k) 0 ⟨Nat.zero_le _, fun j y h => by omega⟩
  ⟨⟨rfl, rfl⟩, ⟨⟨rfl, rfl⟩, rfl, trivial⟩, ⟨⟨rfl, rfl, trivial⟩, trivial⟩, trivial⟩ ?_
 rintro k ⟨hk, hok⟩
 with_reducible refine wK ?_
 refine IfK.mk (fun h1 => ?_) (fun h1 => ?_) <;> (try simp only [castN] at h1) <;> with_reducible refine wK ?_
 ·have hk' : k < l.length := by simp only [decide_eq_true_eq] at h1; omega
  obtain ⟨x, hx⟩ : ∃ x, l[k]? = some x := ⟨_, List.getElem?_eq_getElem hk'⟩
  have bad : smallX x = false → l.all smallX = false := fun h => all_no hx h
  have good : smallX x = true → ∀ (j : Nat) (y : NodeM), j < k + 1 → l[j]? = some y → smallX y = true := fun h j y hj hy => by
   rcases Nat.lt_or_ge j k with h6 | h6
   ·exact hok j y h6 hy
   ·have : j = k := by omega
    subst this
    rw [hx] at hy; cases hy; exact h
  obtain ⟨a1, a2, a3, a4, a5, a6, a7, a8, a9, a10⟩ := x
  have hla : (a5.map oAttr).length = a5.length := List.length_map ..
  have hlk : (a7.map oInt).length = a7.length := List.length_map ..
  have sm : smallX ⟨a1, a2, a3, a4, a5, a6, a7, a8, a9, a10⟩ = (decide (a7.length ≤ 60) && decide (a5.length ≤ 60) && decide (a2.size ≤ 300)) := rfl
  rw [sm] at bad good
  refine IdxK.mk k (eNode _) rfl (node_get hx) ?_; with_reducible refine wK ?_
  by_cases e1 : (60 : Int) < (a7.length : Int)
  ·rw [bad (by rw [decide_eq_false (show ¬ a7.length ≤ 60 by omega)]; rfl)]
   (have fct := And.intro hlk (e1); (repeat' (first
  | refine gF ?_ | refine aE ?_ ?_
  | apply trivial)); all_goals clear fct)
  by_cases e2 : (60 : Int) < (a5.length : Int)
  ·rw [bad (by rw [decide_eq_false (show ¬ a5.length ≤ 60 by omega), Bool.and_false]; rfl)]
   (have fct := And.intro hlk (And.intro hla (And.intro (eq_false e1) (e2))); (repeat' (first
  | refine gF ?_ | refine aE ?_ ?_
  | ((refine IdxK.mk k (eNode _) rfl (node_get hx) ?_) <;> with_reducible refine wK ?_)
  | apply trivial)); all_goals clear fct)
  by_cases e3 : (300 : Int) < (a2.size : Int)
  ·rw [bad (by rw [decide_eq_false (show ¬ a2.size ≤ 300 by omega), Bool.and_false])]
   (have fct := And.intro hlk (And.intro hla (And.intro (eq_false e1) (And.intro (eq_false e2) (e3)))); (repeat' (first
  | refine gF ?_ | refine aE ?_ ?_
  | ((refine IdxK.mk k (eNode _) rfl (node_get hx) ?_) <;> with_reducible refine wK ?_)
  | apply trivial)); all_goals clear fct)
  have hnx := good (by simp only [Bool.and_eq_true, decide_eq_true_eq]; omega)
  (have fct := And.intro hlk (And.intro hla (And.intro (eq_false e1) (And.intro (eq_false e2) ((eq_false e3))))); (repeat' (first
  | refine gF ?_ | refine aE ?_ ?_
  | ((first
   | (refine IdxK.mk k (eNode _) rfl (node_get hx) ?_)
   | ((with_reducible show NextK _ _); refine NextK.mk (k + 1) ⟨by omega, hnx⟩ (by omega) ⟨⟨rfl, rfl⟩, ⟨⟨rfl, rfl⟩, by show ((k + 1 : Nat) : Int) = (k : Int) + 1; omega, trivial⟩, ⟨⟨rfl, rfl, trivial⟩, trivial⟩, trivial⟩)) <;> with_reducible refine wK ?_)
  | apply trivial)); all_goals clear fct)
 ·have hkl : k = l.length := by simp only [decide_eq_false_iff_not] at h1; omega
  rw [all_yes fun j y hy => hok j y (by have := (List.getElem?_eq_some_iff.1 hy).1; omega) hy]
  (refine eK ?_ ?_ <;> with_reducible repeat' (first | exact trivial | (show _ ∧ _; refine aK ?_ ?_)))
def preO (l : List NodeM) (m : Nat) (n : Int) (cs : List Int) : List Int := n :: cs.flatMap (ordN l m)
theorem pre_step (l : List NodeM) (m : Nat) (n : Int) {cs : List Int} {j : Nat} {c : Int} (h : cs[j]? = some c) : preO l m n (cs.take (j + 1)) = preO l m n (cs.take j) ++ ordN l m c := by
 unfold preO
 rw [take_snocI h, List.flatMap_append]; simp
theorem pre_len (l : List NodeM) (m : Nat) (n : Int) (cs : List Int) (j : Nat) : (preO l m n (cs.take j)).length ≤ (preO l m n cs).length := by
 unfold preO
 conv => rhs; rw [← List.take_append_drop j cs]
 rw [List.flatMap_append]; simp
theorem f86_ok (f : ForM) (hs : SmallN f.nodes) (T : Tree f.nodes) : ∀ (m : Nat) (k : Nat) (x : NodeM), f.nodes[k]? = some x → f.nodes.length + 1 ≤ m + (wayN f.nodes k).length → FnOK Tryz.prog 86 [] [eFor f, eInt k] [] (eInts (ordN f.nodes m k)) := by
 have hl := hs.len
 intro m
 induction m with
 | zero => intro k x hx hm; have := way_len (l := f.nodes) k; omega
 | succ m ih =>
   intro k x hx hm
   have htk := there_get hx
   have hnk := nd_get hx
   have h7 := hs.kids x (List.mem_of_getElem? hx)
   have hkid := T.kid k htk
   have hway := fun c => way_kid T (n := (k : Int)) (k := c) htk
   have hol := ord_len T (m + 1) htk
   have hpl := fun j => pre_len f.nodes m k x.kids j
   have hps := fun j c => @pre_step f.nodes m k x.kids j c
   have hoe : ordN f.nodes (m + 1) k = preO f.nodes m k x.kids := by unfold preO; rw [ordN, hnk]
   rw [hoe] at hol ⊢
   rw [hnk] at hkid hway
   have ihc : ∀ c ∈ x.kids, FnOK Tryz.prog 86 [] [eFor f, eInt c] [] (eInts (ordN f.nodes m c)) := fun c hc => by
    obtain ⟨i, y, rfl, hy, _⟩ := there_iff.1 (hkid c hc).1
    exact ih i y hy (by rw [hway _ hc]; simp; omega)
   clear ih hway hm hkid hnk hoe
   obtain ⟨l, mo⟩ := f
   obtain ⟨a1, a2, a3, a4, a5, a6, a7, a8, a9, a10⟩ := x
   simp only at hl hx h7 hol hpl hps ihc ⊢
   have hlk : (a7.map oInt).length = a7.length := List.length_map ..
   refine FnOK.startC (rvs := [.tmp 4]) G G_good Tryz.func86 rfl Tryz.ntmps86 rfl rfl ?_; with_reducible refine wD ?_
   refine LoopK.use G G_good (fun (j : Nat) => [(1, eInt k), (2, .ptr 20 0 0), (5, .own 81 0 (preO l m k (a7.take j)).length), (6, eInt j)]) (fun j => [(20, .live 2 [eFor ⟨l, mo⟩] false), (81, rInts (preO l m k (a7.take j)))])
    (fun j => j ≤ a7.length) (fun j => a7.length - j) 0 (Nat.zero_le _)
    ⟨⟨rfl, rfl⟩, ⟨rfl, ⟨rfl, rfl⟩, ⟨rfl, rfl⟩, rfl, trivial⟩, ⟨⟨rfl, rfl, trivial⟩, trivial⟩, ⟨.refl rfl, noRef_ints _⟩, trivial⟩ ?_
   intro j hj
   with_reducible refine wK ?_
   refine IdxK.mk k (eNode _) rfl (node_get hx) ?_; with_reducible refine wK ?_
   refine IfK.mk (fun h1 => ?_) (fun h1 => ?_) <;> (try simp only [castN] at h1) <;> with_reducible refine wK ?_
   ·have hj' : j < a7.length := by simp only [decide_eq_true_eq] at h1; omega
    obtain ⟨c, hc⟩ : ∃ c, a7[j]? = some c := ⟨_, List.getElem?_eq_getElem hj'⟩
    have ihc' := ihc c (List.mem_of_getElem? hc)
    have hst := hps j c hc
    have hl1 := hpl (j + 1)
    have hbl : ((preO l m k (a7.take j)).map oInt).length = (preO l m k (a7.take j)).length := List.length_map ..
    have hbc : ((ordN l m c).map oInt).length = (ordN l m c).length := List.length_map ..
    have hsum : (preO l m k (a7.take j)).length + (ordN l m c).length ≤ 60 := by rw [hst, List.length_append] at hl1; omega
    refine IdxK.mk k (eNode _) rfl (node_get hx) ?_; with_reducible refine wK ?_
    refine IdxK.mk j (eInt c) rfl (int_get hc) ?_; with_reducible refine wK ?_
    refine cV ihc' c86 ?_; with_reducible refine wK ?_
    refine AppK.mk ((preO l m k (a7.take j)).map oInt) ((ordN l m c).map oInt) ⟨rfl, hbl.symm, rfl⟩ ⟨rfl, rfl, rfl⟩ (one_ints _) (by simp; omega) (by simp; omega) ?_; with_reducible refine wK ?_
    refine dK ?_; with_reducible refine wK ?_
    refine nK ?_; with_reducible refine wK ?_
    refine NextK.mk (j + 1) (by omega) (by omega) ⟨⟨rfl, rfl⟩, ⟨rfl, ⟨rfl, rfl⟩, ⟨rfl, ?_⟩, by show ((j + 1 : Nat) : Int) = (j : Int) + 1; omega, trivial⟩, ⟨⟨rfl, rfl, trivial⟩, trivial⟩, ⟨?_, noRef_ints _⟩, trivial⟩
    ·rw [hst]; simp
    ·rw [hst, List.map_append]; exact .refl (by rw [← List.map_append]; exact noRef_ints _)
   ·(refine eK ?_ ?_ <;> with_reducible repeat' (first | exact trivial | (show _ ∧ _; refine aK ?_ ?_)))
    have hjl : j = a7.length := by simp only [decide_eq_false_iff_not] at h1; omega
    subst hjl
    rw [List.take_length]
    exact frz_ints rfl rfl rfl rfl
theorem node_at {l : List NodeM} {n : Int} (h : 0 ≤ n ∧ n < (l.length : Int)) : ∃ (i : Nat) (y : NodeM), n = (i : Int) ∧ l[i]? = some y ∧ nd l n = y := by
  obtain ⟨i, y, h1, h2, h3⟩ := there_iff.1 (show thereN l n = true by unfold thereN; simp; omega)
  exact ⟨i, y, h1, h2, h3⟩
theorem CutK {P : Program} {N nL : Nat} {sl : SL} {m : ML} {c : Code} {Q : Exit → SL → ML → Prop} {F G : Prop} (main : (F → LoopK P N nL sl m (c := c) (Q := Q)) → G) (rest : F → LoopK P N nL sl m (c := c) (Q := Q)) : G := main rest
set_option maxHeartbeats 16000000 in
theorem f67_ok (f : ForM) (hs : SmallN f.nodes) (k : Nat) (x : NodeM) (hx : f.nodes[k]? = some x) : FnOK Tryz.prog 67 [] [eFor f, eInt k] [] (eBool (refNode f.nodes k x)) := by
  have h29 := fun (l : List Int) (hl : l.length ≤ 100000) => f20_ok l hl
  have hxk := hs.kids x (List.mem_of_getElem? hx)
  have hxa := hs.attrs x (List.mem_of_getElem? hx)
  have hxn := hs.name x (List.mem_of_getElem? hx)
  have h30 := f100_ok x.name
  have h31 := f101_ok x.name (by omega)
  have h32 := f43s_ok x.is
  have h33 := f109_ok x.attrs (by omega)
  have hK : ∀ (i : Nat) (y : NodeM), f.nodes[i]? = some y → y.kids.length ≤ 100000 := fun i y h => by have := hs.kids y (List.mem_of_getElem? h); omega
  have hl := hs.len
  have hk : k < f.nodes.length := (List.getElem?_eq_some_iff.1 hx).1
  obtain ⟨l, m⟩ := f
  unfold refNode
  simp only at hK hx hl hk ⊢
  obtain ⟨a1, a2, a3, a4, a5, a6, a7, a8, a9, a10⟩ := x
  simp only at hxk hxa hxn h30 h31 h32 h33 ⊢
  have hlm : (l.map oNode).length = l.length := List.length_map ..
  have hlk : (a7.map oInt).length = a7.length := List.length_map ..
  have hla : (a5.map oAttr).length = a5.length := List.length_map ..
  apply CutK (P := Tryz.prog) (N := 353) (nL := 0) (F := rDoc l k ⟨a1, a2, a3, a4, a5, a6, a7, a8, a9, a10⟩ = true ∧ rPar l k ⟨a1, a2, a3, a4, a5, a6, a7, a8, a9, a10⟩ = true)
    (sl := [(1, eInt k), (2, .ptr 20 0 0), (5, .ptr 50 0 0), (6, eInt l.length), (7, eInt 0), (8, eInt 0)]) (m := [(20, .live 2 [eFor ⟨l, m⟩] false), (50, .live 10 [eNode ⟨a1, a2, a3, a4, a5, a6, a7, a8, a9, a10⟩] false)])
  case main =>
    intro key
    have bad1 : ∀ b, rDoc l k ⟨a1, a2, a3, a4, a5, a6, a7, a8, a9, a10⟩ = false → (rDoc l k ⟨a1, a2, a3, a4, a5, a6, a7, a8, a9, a10⟩ && b) = false := fun b h => by rw [h]; rfl
    have bad2 : ∀ b c, rPar l k ⟨a1, a2, a3, a4, a5, a6, a7, a8, a9, a10⟩ = false → (c && (rPar l k ⟨a1, a2, a3, a4, a5, a6, a7, a8, a9, a10⟩ && b)) = false := fun b c h => by rw [h]; simp
    refine FnOK.startC (rvs := [.tmp 4]) G G_good Tryz.func67 rfl Tryz.ntmps67 rfl rfl ?_; delta List.toArray; (with_reducible ((conv => whnf); (conv => congr <;> reduce); repeat ((first | refine HaltK.mk ?_ | refine StopK.mk ?_); (conv => whnf); (conv => congr <;> reduce))))
    refine IdxK.mk k (eNode _) rfl (node_get hx) ?_; (with_reducible ((conv => whnf); (conv => congr <;> reduce); repeat ((first | refine HaltK.mk ?_ | refine StopK.mk ?_); (conv => whnf); (conv => congr <;> reduce))))
    repeat' (first
    | (first
    | ((with_reducible show IfK _ _ _ _); first | refine IfK.ff ?_ | refine IfK.tt ?_ | refine IfK.no (by first | exact qA | exact decide_eq_true (by (try simp only [castN]); omega) | exact decide_eq_false (by (try simp only [castN]); omega) | (simp only [castN, Bool.not_eq_true', Bool.not_eq_false', decide_eq_true_eq, decide_eq_false_iff_not]; omega)) ?_ | refine IfK.yes (by first | exact qA | exact decide_eq_true (by (try simp only [castN]); omega) | exact decide_eq_false (by (try simp only [castN]); omega) | (simp only [castN, Bool.not_eq_true', Bool.not_eq_false', decide_eq_true_eq, decide_eq_false_iff_not]; omega)) ?_ | (refine IfK.mk (fun hp => ?_) (fun hp => ?_) <;> (try simp only [castN, decide_eq_true_eq, decide_eq_false_iff_not, Bool.not_eq_true', Bool.not_eq_false', Decidable.not_not, Int.not_lt, Int.not_le] at hp)))
    | ((with_reducible show NeedK _ _ _ _); refine nK ?_)
    | ((with_reducible show DrawK _ _ _ _); refine dK ?_)
    | ((with_reducible show IdxK _ a10 _ _ _); refine IdxK.mk iD (eNode _) eD (node_get hyD) ?_)
    | ((with_reducible show IdxK _ a10 _ _ _); (obtain ⟨iD, y, eD, hyD, hnyD⟩ := node_at (l := l) (n := a10) (by omega)); (obtain ⟨b1, b2, b3, b4, b5, b6, b7, b8, b9, b10⟩ := y); refine IdxK.mk iD (eNode _) eD (node_get hyD) ?_)
    | ((with_reducible show IdxK _ a6 _ _ _); refine IdxK.mk iP (eNode _) eP (node_get hyP) ?_)
    | ((with_reducible show IdxK _ a6 _ _ _); (obtain ⟨iP, y, eP, hyP, hnyP⟩ := node_at (l := l) (n := a6) (by omega)); (obtain ⟨b1, b2, b3, b4, b5, b6, b7, b8, b9, b10⟩ := y); refine IdxK.mk iP (eNode _) eP (node_get hyP) ?_)
    | ((with_reducible refine kQ 20 ?_); refine cL (h29 _ (hK _ _ hyP) k) c20 ?_)) <;> (with_reducible ((conv => whnf); (conv => congr <;> reduce); repeat ((first | refine HaltK.mk ?_ | refine StopK.mk ?_); (conv => whnf); (conv => congr <;> reduce))))
    | ((with_reducible show (_ ∧ _) ∧ _ ∧ _); refine ⟨⟨rfl, rfl⟩, ?_, ?_⟩ <;> with_reducible ((conv => whnf) <;> repeat' (first | exact trivial | (refine And.intro ?_ ?_ <;> (conv => whnf))))))
    all_goals first
      | refine bad1 _ ?_
        (rw [Bool.eq_false_iff]; intro h; (first | simp only [rDoc, isN, thereN, Bool.and_eq_true, Bool.or_eq_true, decide_eq_true_eq, ne_eq, ← List.length_eq_zero_iff, hnyD] at h | simp only [rDoc, isN, thereN, Bool.and_eq_true, Bool.or_eq_true, decide_eq_true_eq, ne_eq, ← List.length_eq_zero_iff] at h); omega)
      | refine bad2 _ _ ?_
        (rw [Bool.eq_false_iff]; intro h; (first | simp only [rPar, isN, thereN, Bool.and_eq_true, Bool.or_eq_true, decide_eq_true_eq, ne_eq, ← List.length_eq_zero_iff, hnyP] at h | simp only [rPar, isN, thereN, Bool.and_eq_true, Bool.or_eq_true, decide_eq_true_eq, ne_eq, ← List.length_eq_zero_iff] at h); omega)
      | refine LoopK.fit ?_ (key ⟨?_, ?_⟩)
        · exact ⟨⟨rfl, rfl⟩, ⟨rfl, ⟨rfl, rfl⟩, ⟨rfl, rfl⟩, by show (l.length : Int) = ((l.map oNode).length : Int); rw [hlm], rfl, rfl, trivial⟩, ⟨⟨rfl, rfl, trivial⟩, trivial⟩, ⟨⟨rfl, rfl, rfl, rfl, rfl, rfl, rfl, rfl, rfl, rfl, trivial⟩, trivial⟩, trivial⟩
        ·
          (simp only [rDoc, isN, thereN, Bool.and_eq_true, Bool.or_eq_true, decide_eq_true_eq, ne_eq, ← List.length_eq_zero_iff, hnyD]; omega)
        · first
            | (rw [rPar, decide_eq_true (by assumption)]; rfl)
            | skip
              (simp only [rPar, isN, thereN, Bool.and_eq_true, Bool.or_eq_true, decide_eq_true_eq, ne_eq, ← List.length_eq_zero_iff, hnyP]; omega)
  case rest =>
    rintro ⟨hD, hP⟩
    rw [hD, hP]
    simp only [Bool.true_and]
    have bad3 : ∀ b, a7.all (rKid l k ⟨a1, a2, a3, a4, a5, a6, a7, a8, a9, a10⟩) = false → (a7.all (rKid l k ⟨a1, a2, a3, a4, a5, a6, a7, a8, a9, a10⟩) && b) = false := fun b h => by rw [h]; rfl
    refine LoopK.use G G_good (fun (j : Nat) => [(1, eInt k), (2, .ptr 20 0 0), (5, .ptr 50 0 0), (6, eInt l.length), (7, eInt (elemsN l (a7.take j))), (8, eInt j)]) (fun _ => [(20, .live 2 [eFor ⟨l, m⟩] false), (50, .live 10 [eNode ⟨a1, a2, a3, a4, a5, a6, a7, a8, a9, a10⟩] false)])
      (fun j => j ≤ a7.length ∧ ∀ (i : Nat) (c : Int), i < j → a7[i]? = some c → rKid l k ⟨a1, a2, a3, a4, a5, a6, a7, a8, a9, a10⟩ c = true) (fun j => a7.length - j) 0 ⟨Nat.zero_le _, fun i c h => by omega⟩
      ⟨⟨rfl, rfl⟩, ⟨rfl, ⟨rfl, rfl⟩, ⟨rfl, rfl⟩, rfl, rfl, rfl, trivial⟩, ⟨⟨rfl, rfl, trivial⟩, trivial⟩, ⟨⟨rfl, rfl, rfl, rfl, rfl, rfl, rfl, rfl, rfl, rfl, trivial⟩, trivial⟩, trivial⟩ ?_
    rintro j ⟨hj, hok⟩
    (with_reducible ((conv => whnf); (conv => congr <;> reduce); repeat ((first | refine HaltK.mk ?_ | refine StopK.mk ?_); (conv => whnf); (conv => congr <;> reduce))))
    refine IfK.mk (fun h1 => ?_) (fun h1 => ?_) <;> (try simp only [castN] at h1) <;> (with_reducible ((conv => whnf); (conv => congr <;> reduce); repeat ((first | refine HaltK.mk ?_ | refine StopK.mk ?_); (conv => whnf); (conv => congr <;> reduce))))
    · have hj' : j < a7.length := by simp only [decide_eq_true_eq] at h1; omega
      obtain ⟨c, hc⟩ : ∃ c, a7[j]? = some c := ⟨_, List.getElem?_eq_getElem hj'⟩
      have hse := @elems_step l a7 j c hc
      have hel := elems_le l a7 j
      have h29' := h29 a7 (by omega) c
      have good : rKid l k ⟨a1, a2, a3, a4, a5, a6, a7, a8, a9, a10⟩ c = true → ∀ (i : Nat) (d : Int), i < j + 1 → a7[i]? = some d → rKid l k ⟨a1, a2, a3, a4, a5, a6, a7, a8, a9, a10⟩ d = true := fun h i d hi hd => by
        rcases Nat.lt_or_ge i j with h6 | h6
        · exact hok i d h6 hd
        · have : i = j := by omega
          subst this
          rw [hc] at hd; cases hd; exact h
      refine IdxK.mk j (eInt c) rfl (int_get hc) ?_; (with_reducible ((conv => whnf); (conv => congr <;> reduce); repeat ((first | refine HaltK.mk ?_ | refine StopK.mk ?_); (conv => whnf); (conv => congr <;> reduce))))
      repeat' (first
    | (first
    | ((with_reducible show IfK _ _ _ _); first | refine IfK.ff ?_ | refine IfK.tt ?_ | refine IfK.no (by first | exact qA | exact decide_eq_true (by (try simp only [castN]); omega) | exact decide_eq_false (by (try simp only [castN]); omega) | (simp only [castN, Bool.not_eq_true', Bool.not_eq_false', decide_eq_true_eq, decide_eq_false_iff_not]; omega)) ?_ | refine IfK.yes (by first | exact qA | exact decide_eq_true (by (try simp only [castN]); omega) | exact decide_eq_false (by (try simp only [castN]); omega) | (simp only [castN, Bool.not_eq_true', Bool.not_eq_false', decide_eq_true_eq, decide_eq_false_iff_not]; omega)) ?_ | (refine IfK.mk (fun hp => ?_) (fun hp => ?_) <;> (try simp only [castN, decide_eq_true_eq, decide_eq_false_iff_not, Bool.not_eq_true', Bool.not_eq_false', Decidable.not_not, Int.not_lt, Int.not_le] at hp)))
    | ((with_reducible show NeedK _ _ _ _); refine nK ?_)
    | ((with_reducible show DrawK _ _ _ _); refine dK ?_)
    | ((with_reducible show IdxK _ c _ _ _); refine IdxK.mk iK (eNode _) eK (node_get hyK) ?_)
    | ((with_reducible show IdxK _ c _ _ _); (obtain ⟨iK, y, eK, hyK, hnyK⟩ := node_at (l := l) (n := c) (by omega)); (obtain ⟨b1, b2, b3, b4, b5, b6, b7, b8, b9, b10⟩ := y); refine IdxK.mk iK (eNode _) eK (node_get hyK) ?_)
    | ((with_reducible refine kQ 20 ?_); refine cL h29' c20 ?_)) <;> (with_reducible ((conv => whnf); (conv => congr <;> reduce); repeat ((first | refine HaltK.mk ?_ | refine StopK.mk ?_); (conv => whnf); (conv => congr <;> reduce))))
    | ((with_reducible show (_ ∧ _) ∧ _ ∧ _); refine ⟨⟨rfl, rfl⟩, ?_, ?_⟩ <;> with_reducible ((conv => whnf) <;> repeat' (first | exact trivial | (refine And.intro ?_ ?_ <;> (conv => whnf))))))
      all_goals first
        | refine bad3 _ (all_no hc ?_)
          (rw [Bool.eq_false_iff]; intro h; (first | simp only [rKid, isN, thereN, Bool.and_eq_true, Bool.or_eq_true, decide_eq_true_eq, ne_eq, ← List.length_eq_zero_iff, hnyK] at h | simp only [rKid, isN, thereN, Bool.and_eq_true, Bool.or_eq_true, decide_eq_true_eq, ne_eq, ← List.length_eq_zero_iff] at h); omega)
        | ((with_reducible show NextK _ _); refine NextK.mk (j + 1) ⟨by omega, good ?_⟩ (by omega) ⟨⟨rfl, rfl⟩, ⟨rfl, ⟨rfl, rfl⟩, ⟨rfl, rfl⟩, rfl, by rw [hse, hnyK]; first | (simp [show b1 = 1 by omega]; done) | (simp [show ¬ b1 = 1 by omega]; done), by show ((j + 1 : Nat) : Int) = (j : Int) + 1; omega, trivial⟩, ⟨⟨rfl, rfl, trivial⟩, trivial⟩, ⟨⟨rfl, rfl, rfl, rfl, rfl, rfl, rfl, rfl, rfl, rfl, trivial⟩, trivial⟩, trivial⟩)
          (simp only [rKid, isN, thereN, Bool.and_eq_true, Bool.or_eq_true, decide_eq_true_eq, ne_eq, ← List.length_eq_zero_iff, hnyK]; omega)
    · have hjl : j = a7.length := by simp only [decide_eq_false_iff_not] at h1; omega
      rw [all_yes fun i c hc => hok i c (by have := (List.getElem?_eq_some_iff.1 hc).1; omega) hc, Bool.true_and]
      rw [hjl, List.take_length]
      have hel := elems_le l a7 a7.length
      rw [List.take_length] at hel
      have bad4 : ∀ b, rElems l ⟨a1, a2, a3, a4, a5, a6, a7, a8, a9, a10⟩ = false → (rElems l ⟨a1, a2, a3, a4, a5, a6, a7, a8, a9, a10⟩ && b) = false := fun b h => by rw [h]; rfl
      have bad5 : ∀ b c, shadedN l k ⟨a1, a2, a3, a4, a5, a6, a7, a8, a9, a10⟩ = false → (c && (shadedN l k ⟨a1, a2, a3, a4, a5, a6, a7, a8, a9, a10⟩ && b)) = false := fun b c h => by rw [h]; simp
      have good6 : rElems l ⟨a1, a2, a3, a4, a5, a6, a7, a8, a9, a10⟩ = true → shadedN l k ⟨a1, a2, a3, a4, a5, a6, a7, a8, a9, a10⟩ = true → ∀ b, rName ⟨a1, a2, a3, a4, a5, a6, a7, a8, a9, a10⟩ = b → (rElems l ⟨a1, a2, a3, a4, a5, a6, a7, a8, a9, a10⟩ && (shadedN l k ⟨a1, a2, a3, a4, a5, a6, a7, a8, a9, a10⟩ && rName ⟨a1, a2, a3, a4, a5, a6, a7, a8, a9, a10⟩)) = b := fun h1 h2 b h3 => by rw [h1, h2, h3]; rfl
      repeat' (first
    | (first
    | ((with_reducible show IfK _ _ _ _); first | refine IfK.ff ?_ | refine IfK.tt ?_ | refine IfK.no (by first | exact qA | exact decide_eq_true (by (try simp only [castN]); omega) | exact decide_eq_false (by (try simp only [castN]); omega) | (simp only [castN, Bool.not_eq_true', Bool.not_eq_false', decide_eq_true_eq, decide_eq_false_iff_not]; omega)) ?_ | refine IfK.yes (by first | exact qA | exact decide_eq_true (by (try simp only [castN]); omega) | exact decide_eq_false (by (try simp only [castN]); omega) | (simp only [castN, Bool.not_eq_true', Bool.not_eq_false', decide_eq_true_eq, decide_eq_false_iff_not]; omega)) ?_ | (refine IfK.mk (fun hp => ?_) (fun hp => ?_) <;> (try simp only [castN, decide_eq_true_eq, decide_eq_false_iff_not, Bool.not_eq_true', Bool.not_eq_false', Decidable.not_not, Int.not_lt, Int.not_le] at hp)))
    | ((with_reducible show NeedK _ _ _ _); refine nK ?_)
    | ((with_reducible show DrawK _ _ _ _); refine dK ?_)
    | ((with_reducible show IdxK _ a8 _ _ _); refine IdxK.mk iH (eNode _) eH (node_get hyH) ?_)
    | ((with_reducible show IdxK _ a8 _ _ _); (obtain ⟨iH, y, eH, hyH, hnyH⟩ := node_at (l := l) (n := a8) (by omega)); (obtain ⟨b1, b2, b3, b4, b5, b6, b7, b8, b9, b10⟩ := y); refine IdxK.mk iH (eNode _) eH (node_get hyH) ?_)
    | ((with_reducible show IdxK _ a9 _ _ _); refine IdxK.mk iU (eNode _) eU (node_get hyU) ?_)
    | ((with_reducible show IdxK _ a9 _ _ _); (obtain ⟨iU, y, eU, hyU, hnyU⟩ := node_at (l := l) (n := a9) (by omega)); (obtain ⟨b1, b2, b3, b4, b5, b6, b7, b8, b9, b10⟩ := y); refine IdxK.mk iU (eNode _) eU (node_get hyU) ?_)
    | ((with_reducible refine kQ 100 ?_); refine cL h30 c100 ?_)
    | ((with_reducible refine kQ 101 ?_); refine cL h31 c101 ?_)
    | ((with_reducible refine kQ 57 ?_); refine cL h32 c57 ?_)
    | ((with_reducible refine kQ 109 ?_); refine cL h33 c109 ?_)) <;> (with_reducible ((conv => whnf); (conv => congr <;> reduce); repeat ((first | refine HaltK.mk ?_ | refine StopK.mk ?_); (conv => whnf); (conv => congr <;> reduce))))
    | ((with_reducible show (_ ∧ _) ∧ _ ∧ _); refine ⟨⟨rfl, rfl⟩, ?_, ?_⟩ <;> with_reducible ((conv => whnf) <;> repeat' (first | exact trivial | (refine And.intro ?_ ?_ <;> (conv => whnf))))))
      all_goals clear hok
      all_goals first
        | refine bad4 _ ?_
          (rw [Bool.eq_false_iff]; intro h; (first | simp only [rElems, isN, thereN, Bool.and_eq_true, Bool.or_eq_true, decide_eq_true_eq, ne_eq, ← List.length_eq_zero_iff, hlk] at h | simp only [rElems, isN, thereN, Bool.and_eq_true, Bool.or_eq_true, decide_eq_true_eq, ne_eq, ← List.length_eq_zero_iff] at h); omega)
        | refine bad5 _ _ ?_
          (rw [Bool.eq_false_iff]; intro h; by_cases e4 : a1 = 4
           · simp only [shadedN, if_pos e4, isN, thereN, Bool.and_eq_true, Bool.or_eq_true, decide_eq_true_eq, ne_eq] at h; (try simp only [hnyH] at h); (try simp only [hnyU] at h); omega
           · simp only [shadedN, if_neg e4, isN, thereN, Bool.and_eq_true, Bool.or_eq_true, decide_eq_true_eq, ne_eq] at h; (try simp only [hnyH] at h); (try simp only [hnyU] at h); omega)
        | refine good6 ?_ ?_ _ ?_
          ·
            (simp only [rElems, isN, thereN, Bool.and_eq_true, Bool.or_eq_true, decide_eq_true_eq, ne_eq, ← List.length_eq_zero_iff, hlk]; omega)
          ·
            (by_cases e4 : a1 = 4
             · simp only [shadedN, if_pos e4, isN, thereN, Bool.and_eq_true, Bool.or_eq_true, decide_eq_true_eq, ne_eq]; (try simp only [hnyH]); (try simp only [hnyU]); omega
             · simp only [shadedN, if_neg e4, isN, thereN, Bool.and_eq_true, Bool.or_eq_true, decide_eq_true_eq, ne_eq]; (try simp only [hnyH]); (try simp only [hnyU]); omega)
          · clear bad4 bad5 good6 hK hs hx h29 h30 h31 h32 h33 hD hP
            first | (simp_all [rName]; done) | (simp_all [rName]; omega)
set_option maxHeartbeats 16000000 in
theorem f28_ok (f : ForM) (hs : SmallN f.nodes) : FnOK Tryz.prog 28 [] [eFor f] [] (eBool (rightR f)) := by
 have hl := hs.len
 have h19 := f67_ok f hs
 obtain ⟨l, m⟩ := f
 unfold rightR
 simp only at h19 hl ⊢
 have hlm : (l.map oNode).length = l.length := List.length_map ..
 have bad0 : ∀ b, headOK ⟨l, m⟩ = false → (headOK ⟨l, m⟩ && b) = false := fun b h => by rw [h]; rfl
 apply CutK (P := Tryz.prog) (N := 84) (nL := 0) (F := headOK ⟨l, m⟩ = true) (sl := [(1, .ptr 10 0 0), (3, eInt 0)]) (m := [(10, .live 2 [eFor ⟨l, m⟩] false)])
 case main =>
  intro key
  refine FnOK.startC (rvs := [.tmp 2]) G G_good Tryz.func28 rfl Tryz.ntmps28 rfl rfl ?_; delta List.toArray; (with_reducible ((conv => whnf); (conv => congr <;> reduce); repeat ((first | refine hK ?_ | refine sK ?_); (conv => whnf); (conv => congr <;> reduce))))
  repeat' (first
  | (first
  | ((with_reducible show IfK _ _ _ _); first | refine IfK.ff ?_ | refine IfK.tt ?_ | refine IfK.no (by first | exact qA | exact decide_eq_true (by (try simp only [castN]); omega) | exact decide_eq_false (by (try simp only [castN]); omega) | (simp only [castN, Bool.not_eq_true', Bool.not_eq_false', decide_eq_true_eq, decide_eq_false_iff_not]; omega)) ?_ | refine IfK.yes (by first | exact qA | exact decide_eq_true (by (try simp only [castN]); omega) | exact decide_eq_false (by (try simp only [castN]); omega) | (simp only [castN, Bool.not_eq_true', Bool.not_eq_false', decide_eq_true_eq, decide_eq_false_iff_not]; omega)) ?_ | (refine IfK.mk (fun hp => ?_) (fun hp => ?_) <;> (try simp only [castN, decide_eq_true_eq, decide_eq_false_iff_not, Bool.not_eq_true', Bool.not_eq_false', Decidable.not_not, Int.not_lt, Int.not_le] at hp)))
  | ((with_reducible show NeedK _ _ _ _); refine nK ?_)
  | ((with_reducible show DrawK _ _ _ _); refine dK ?_)
  | ((with_reducible show IdxK _ (0:Int) _ _ _); refine IdxK.mk iZ (eNode _) eZ (node_get hyZ) ?_)
  | ((with_reducible show IdxK _ (0:Int) _ _ _); (obtain ⟨iZ, y, eZ, hyZ, hnyZ⟩ := node_at (l := l) (n := (0:Int)) (by omega)); (obtain ⟨b1, b2, b3, b4, b5, b6, b7, b8, b9, b10⟩ := y); refine IdxK.mk iZ (eNode _) eZ (node_get hyZ) ?_)) <;> (with_reducible ((conv => whnf); (conv => congr <;> reduce); repeat ((first | refine hK ?_ | refine sK ?_); (conv => whnf); (conv => congr <;> reduce))))
  | ((with_reducible show (_ ∧ _) ∧ _ ∧ _); refine ⟨⟨rfl, rfl⟩, ?_, ?_⟩ <;> with_reducible ((conv => whnf) <;> repeat' (first | exact trivial | (refine And.intro ?_ ?_ <;> (conv => whnf))))))
  all_goals first
   | refine bad0 _ ?_
     (rw [Bool.eq_false_iff]; intro h; simp only [headOK, Bool.and_eq_true, decide_eq_true_eq] at h; (try simp only [hnyZ] at h); omega)
   | refine LoopK.fit ?_ (key ?_)
     ·exact ⟨⟨rfl, rfl⟩, ⟨⟨rfl, rfl⟩, rfl, trivial⟩, ⟨⟨rfl, rfl, trivial⟩, trivial⟩, trivial⟩
     ·simp only [headOK, Bool.and_eq_true, decide_eq_true_eq, hnyZ]; omega
 case rest =>
  intro hH
  rw [hH, Bool.true_and]
  refine LoopK.use G G_good (fun (k : Nat) => [(1, .ptr 10 0 0), (3, eInt k)]) (fun _ => [(10, .live 2 [eFor ⟨l, m⟩] false)])
   (fun k => k ≤ l.length ∧ ∀ j x, j < k → l[j]? = some x → refNode l j x = true) (fun k => l.length - k) 0 ⟨Nat.zero_le _, fun j x h => by omega⟩
   ⟨⟨rfl, rfl⟩, ⟨⟨rfl, rfl⟩, rfl, trivial⟩, ⟨⟨rfl, rfl, trivial⟩, trivial⟩, trivial⟩ ?_
  rintro k ⟨hk, hok⟩
  (with_reducible ((conv => whnf); (conv => congr <;> reduce); repeat ((first | refine hK ?_ | refine sK ?_); (conv => whnf); (conv => congr <;> reduce))))
  refine IfK.mk (fun g1 => ?_) (fun g1 => ?_) <;> (try simp only [castN] at g1) <;> (with_reducible ((conv => whnf); (conv => congr <;> reduce); repeat ((first | refine hK ?_ | refine sK ?_); (conv => whnf); (conv => congr <;> reduce))))
  ·have hk' : k < l.length := by simp only [decide_eq_true_eq] at g1; omega
   obtain ⟨x, hx⟩ : ∃ x, l[k]? = some x := ⟨_, List.getElem?_eq_getElem hk'⟩
   have h19' := h19 k x hx
   have good : refNode l k x = true → ∀ j y, j < k + 1 → l[j]? = some y → refNode l j y = true := fun h j y hj hy => by
    rcases Nat.lt_or_ge j k with h6 | h6
    ·exact hok j y h6 hy
    ·have : j = k := by omega
     subst this
     rw [hx] at hy; cases hy; exact h
   refine cL h19' c67 ?_; (with_reducible ((conv => whnf); (conv => congr <;> reduce); repeat ((first | refine hK ?_ | refine sK ?_); (conv => whnf); (conv => congr <;> reduce))))
   cases q : refNode l k x with
   | false =>
     rw [allIx_no hx q, Bool.false_and]
     repeat' (first
  | (first
  | ((with_reducible show IfK _ _ _ _); first | refine IfK.ff ?_ | refine IfK.tt ?_ | refine IfK.no (by first | exact qA | ((try simp only [castN]); first | (simp [q]; done) | (simp [q]; omega))) ?_ | refine IfK.yes (by first | exact qA | ((try simp only [castN]); first | (simp [q]; done) | (simp [q]; omega))) ?_)
  | ((with_reducible show NeedK _ _ _ _); refine nK ?_)
  | ((with_reducible show DrawK _ _ _ _); refine dK ?_)) <;> (with_reducible ((conv => whnf); (conv => congr <;> reduce); repeat ((first | refine hK ?_ | refine sK ?_); (conv => whnf); (conv => congr <;> reduce))))
  | ((with_reducible show (_ ∧ _) ∧ _ ∧ _); refine ⟨⟨rfl, rfl⟩, ?_, ?_⟩ <;> with_reducible ((conv => whnf) <;> repeat' (first | exact trivial | (refine And.intro ?_ ?_ <;> (conv => whnf))))))
   | true =>
     repeat' (first
  | (first
  | ((with_reducible show IfK _ _ _ _); first | refine IfK.ff ?_ | refine IfK.tt ?_ | refine IfK.no (by first | exact qA | ((try simp only [castN]); first | (simp [q]; done) | (simp [q]; omega))) ?_ | refine IfK.yes (by first | exact qA | ((try simp only [castN]); first | (simp [q]; done) | (simp [q]; omega))) ?_)
  | ((with_reducible show NeedK _ _ _ _); refine nK ?_)
  | ((with_reducible show DrawK _ _ _ _); refine dK ?_)
  | ((with_reducible show NextK _ _); refine NextK.mk (k + 1) ⟨by omega, good q⟩ (by omega) ⟨⟨rfl, rfl⟩, ⟨⟨rfl, rfl⟩, by show ((k + 1 : Nat) : Int) = (k : Int) + 1; omega, trivial⟩, ⟨⟨rfl, rfl, trivial⟩, trivial⟩, trivial⟩)) <;> (with_reducible ((conv => whnf); (conv => congr <;> reduce); repeat ((first | refine hK ?_ | refine sK ?_); (conv => whnf); (conv => congr <;> reduce))))
  | ((with_reducible show (_ ∧ _) ∧ _ ∧ _); refine ⟨⟨rfl, rfl⟩, ?_, ?_⟩ <;> with_reducible ((conv => whnf) <;> repeat' (first | exact trivial | (refine And.intro ?_ ?_ <;> (conv => whnf))))))
  ·have hkl : k = l.length := by simp only [decide_eq_false_iff_not] at g1; omega
   have hall : ∀ (j : Nat) (x : NodeM), l[j]? = some x → refNode l j x = true := fun j x hx => hok j x (by have := (List.getElem?_eq_some_iff.1 hx).1; omega) hx
   rw [allIx_yes hall, Bool.true_and]
   have hup : ∀ n, thereN l n = true → upN (nd l n) = -1 ∨ thereN l (upN (nd l n)) = true := node_up (of_ref fun n hn => by
    obtain ⟨k, x, rfl, hk, hx⟩ := there_iff.1 hn
    rw [hx]; exact hall k x hk)
   refine LoopK.use G G_good (fun (k : Nat) => [(1, .ptr 10 0 0), (4, eInt k)]) (fun _ => [(10, .live 2 [eFor ⟨l, m⟩] false)])
    (fun k => k ≤ l.length ∧ ∀ (j : Nat) (x : NodeM), j < k → l[j]? = some x → endsN l (l.length + 1) j = true) (fun k => l.length - k) 0 ⟨Nat.zero_le _, fun j x h => by omega⟩
    ⟨⟨rfl, rfl⟩, ⟨⟨rfl, rfl⟩, rfl, trivial⟩, ⟨⟨rfl, rfl, trivial⟩, trivial⟩, trivial⟩ ?_
   rintro i ⟨hi, hends⟩
   (with_reducible ((conv => whnf); (conv => congr <;> reduce); repeat ((first | refine hK ?_ | refine sK ?_); (conv => whnf); (conv => congr <;> reduce))))
   refine IfK.mk (fun g2 => ?_) (fun g2 => ?_) <;> (try simp only [castN] at g2) <;> (with_reducible ((conv => whnf); (conv => congr <;> reduce); repeat ((first | refine hK ?_ | refine sK ?_); (conv => whnf); (conv => congr <;> reduce))))
   ·have hi' : i < l.length := by simp only [decide_eq_true_eq] at g2; omega
    obtain ⟨x, hx⟩ : ∃ x, l[i]? = some x := ⟨_, List.getElem?_eq_getElem hi'⟩
    refine LoopK.use G G_good (fun (p : Nat × Int) => [(1, .ptr 10 0 0), (4, eInt i), (5, eInt p.2), (6, eInt p.1)]) (fun _ => [(10, .live 2 [eFor ⟨l, m⟩] false)])
     (fun p => p.1 ≤ l.length + 1 ∧ (p.2 = -1 ∨ thereN l p.2 = true) ∧ endsN l (l.length + 1) i = if p.2 = -1 then true else endsN l (l.length + 1 - p.1) p.2) (fun p => l.length + 1 - p.1) (0, (i : Int)) ⟨Nat.zero_le _, .inr (there_get hx), by rw [if_neg (by omega)]; rfl⟩
     ⟨⟨rfl, rfl⟩, ⟨⟨rfl, rfl⟩, rfl, rfl, rfl, trivial⟩, ⟨⟨rfl, rfl, trivial⟩, trivial⟩, trivial⟩ ?_
    rintro ⟨s, a⟩ ⟨hss, hat, hee⟩
    simp only at hss hat hee ⊢
    (with_reducible ((conv => whnf); (conv => congr <;> reduce); repeat ((first | refine hK ?_ | refine sK ?_); (conv => whnf); (conv => congr <;> reduce))))
    by_cases ea : a = -1
    ·rw [if_pos ea] at hee
     subst ea
     repeat' (first
  | (first
  | ((with_reducible show IfK _ _ _ _); first | refine IfK.ff ?_ | refine IfK.tt ?_ | refine IfK.no (by first | exact qA | ((try simp only [castN]); first | (simp []; done) | (simp []; omega))) ?_ | refine IfK.yes (by first | exact qA | ((try simp only [castN]); first | (simp []; done) | (simp []; omega))) ?_)
  | ((with_reducible show NeedK _ _ _ _); refine nK ?_)
  | ((with_reducible show DrawK _ _ _ _); refine dK ?_)
  | ((with_reducible show NextK _ _); refine NextK.mk (i + 1) ⟨by omega, fun j x hj hx => ?_⟩ (by omega) ⟨⟨rfl, rfl⟩, ⟨⟨rfl, rfl⟩, by show ((i + 1 : Nat) : Int) = (i : Int) + 1; omega, trivial⟩, ⟨⟨rfl, rfl, trivial⟩, trivial⟩, trivial⟩)) <;> (with_reducible ((conv => whnf); (conv => congr <;> reduce); repeat ((first | refine hK ?_ | refine sK ?_); (conv => whnf); (conv => congr <;> reduce))))
  | ((with_reducible show (_ ∧ _) ∧ _ ∧ _); refine ⟨⟨rfl, rfl⟩, ?_, ?_⟩ <;> with_reducible ((conv => whnf) <;> repeat' (first | exact trivial | (refine And.intro ?_ ?_ <;> (conv => whnf))))))
     rcases Nat.lt_or_ge j i with h6 | h6
     ·exact hends j x h6 hx
     ·have : j = i := by omega
      rw [this]; exact hee
    ·rw [if_neg ea] at hee
     have hth := hat.resolve_left ea
     by_cases es : s = l.length + 1
     ·have e0 : endsN l (l.length + 1 - s) a = false := by rw [es, Nat.sub_self]; rfl
      rw [e0] at hee
      rw [allIx_no hx hee]
      repeat' (first
  | (first
  | ((with_reducible show IfK _ _ _ _); first | refine IfK.ff ?_ | refine IfK.tt ?_ | refine IfK.no (by first | exact qA | ((try simp only [castN]); first | (simp [eq_false ea]; done) | (simp [eq_false ea]; omega))) ?_ | refine IfK.yes (by first | exact qA | ((try simp only [castN]); first | (simp [eq_false ea]; done) | (simp [eq_false ea]; omega))) ?_)
  | ((with_reducible show NeedK _ _ _ _); refine nK ?_)
  | ((with_reducible show DrawK _ _ _ _); refine dK ?_)) <;> (with_reducible ((conv => whnf); (conv => congr <;> reduce); repeat ((first | refine hK ?_ | refine sK ?_); (conv => whnf); (conv => congr <;> reduce))))
  | ((with_reducible show (_ ∧ _) ∧ _ ∧ _); refine ⟨⟨rfl, rfl⟩, ?_, ?_⟩ <;> with_reducible ((conv => whnf) <;> repeat' (first | exact trivial | (refine And.intro ?_ ?_ <;> (conv => whnf))))))
     ·obtain ⟨t, ht⟩ : ∃ t, l.length + 1 - s = t + 1 := ⟨l.length - s, by omega⟩
      rw [ht] at hee
      replace hee := hee.trans (endsN_succ l t a)
      have hua := hup a hth
      obtain ⟨k', y, e, hy, hny⟩ := there_iff.1 hth
      rw [hny] at hee hua
      obtain ⟨b1, b2, b3, b4, b5, b6, b7, b8, b9, b10⟩ := y
      have hlt : ¬ (l.length : Int) < s := by omega
      by_cases ep : b6 = -1
      ·have hu : upN ⟨b1, b2, b3, b4, b5, b6, b7, b8, b9, b10⟩ = b8 := by unfold upN; rw [if_pos ep]
       rw [hu] at hee hua
       repeat' (first
  | (first
  | ((with_reducible show IfK _ _ _ _); first | refine IfK.ff ?_ | refine IfK.tt ?_ | refine IfK.no (by first | exact qA | ((try simp only [castN]); first | (simp [hlm, eq_false ea, eq_false hlt, ep]; done) | (simp [hlm, eq_false ea, eq_false hlt, ep]; omega))) ?_ | refine IfK.yes (by first | exact qA | ((try simp only [castN]); first | (simp [hlm, eq_false ea, eq_false hlt, ep]; done) | (simp [hlm, eq_false ea, eq_false hlt, ep]; omega))) ?_)
  | ((with_reducible show NeedK _ _ _ _); refine nK ?_)
  | ((with_reducible show DrawK _ _ _ _); refine dK ?_)
  | (refine IdxK.mk k' (eNode ⟨b1, b2, b3, b4, b5, b6, b7, b8, b9, b10⟩) e (node_get hy) ?_)
  | ((with_reducible show NextK _ _); refine NextK.mk (s + 1, b8) ⟨by show s + 1 ≤ _; omega, hua, by rw [show l.length + 1 - (s + 1) = t by omega]; exact hee⟩ (by show l.length + 1 - (s + 1) < l.length + 1 - s; omega) ⟨⟨rfl, rfl⟩, ⟨⟨rfl, rfl⟩, rfl, rfl, by show ((s + 1 : Nat) : Int) = (s : Int) + 1; omega, trivial⟩, ⟨⟨rfl, rfl, trivial⟩, trivial⟩, trivial⟩)) <;> (with_reducible ((conv => whnf); (conv => congr <;> reduce); repeat ((first | refine hK ?_ | refine sK ?_); (conv => whnf); (conv => congr <;> reduce))))
  | ((with_reducible show (_ ∧ _) ∧ _ ∧ _); refine ⟨⟨rfl, rfl⟩, ?_, ?_⟩ <;> with_reducible ((conv => whnf) <;> repeat' (first | exact trivial | (refine And.intro ?_ ?_ <;> (conv => whnf))))))
      ·have hu : upN ⟨b1, b2, b3, b4, b5, b6, b7, b8, b9, b10⟩ = b6 := by unfold upN; rw [if_neg ep]
       rw [hu] at hee hua
       repeat' (first
  | (first
  | ((with_reducible show IfK _ _ _ _); first | refine IfK.ff ?_ | refine IfK.tt ?_ | refine IfK.no (by first | exact qA | ((try simp only [castN]); first | (simp [hlm, eq_false ea, eq_false hlt, eq_false ep]; done) | (simp [hlm, eq_false ea, eq_false hlt, eq_false ep]; omega))) ?_ | refine IfK.yes (by first | exact qA | ((try simp only [castN]); first | (simp [hlm, eq_false ea, eq_false hlt, eq_false ep]; done) | (simp [hlm, eq_false ea, eq_false hlt, eq_false ep]; omega))) ?_)
  | ((with_reducible show NeedK _ _ _ _); refine nK ?_)
  | ((with_reducible show DrawK _ _ _ _); refine dK ?_)
  | (refine IdxK.mk k' (eNode ⟨b1, b2, b3, b4, b5, b6, b7, b8, b9, b10⟩) e (node_get hy) ?_)
  | ((with_reducible show NextK _ _); refine NextK.mk (s + 1, b6) ⟨by show s + 1 ≤ _; omega, hua, by rw [show l.length + 1 - (s + 1) = t by omega]; exact hee⟩ (by show l.length + 1 - (s + 1) < l.length + 1 - s; omega) ⟨⟨rfl, rfl⟩, ⟨⟨rfl, rfl⟩, rfl, rfl, by show ((s + 1 : Nat) : Int) = (s : Int) + 1; omega, trivial⟩, ⟨⟨rfl, rfl, trivial⟩, trivial⟩, trivial⟩)) <;> (with_reducible ((conv => whnf); (conv => congr <;> reduce); repeat ((first | refine hK ?_ | refine sK ?_); (conv => whnf); (conv => congr <;> reduce))))
  | ((with_reducible show (_ ∧ _) ∧ _ ∧ _); refine ⟨⟨rfl, rfl⟩, ?_, ?_⟩ <;> with_reducible ((conv => whnf) <;> repeat' (first | exact trivial | (refine And.intro ?_ ?_ <;> (conv => whnf))))))
   ·have hil : i = l.length := by simp only [decide_eq_false_iff_not] at g2; omega
    rw [allIx_yes fun j x hx => hends j x (by have := (List.getElem?_eq_some_iff.1 hx).1; omega) hx]
    refine ⟨⟨rfl, rfl⟩, ?_, ?_⟩ <;> with_reducible ((conv => whnf) <;> repeat' (first | exact trivial | (refine And.intro ?_ ?_ <;> (conv => whnf))))
theorem f130_ok (g : Nat) (cg : Callable Tryz.prog g) (caps : List AV) (hcaps : noRefL caps = true) (p : Int → Bool) (l : List Int) (hl : l.length ≤ 100000) (hf : ∀ a, a ∈ l → FnOK Tryz.prog g [] (eInt a :: caps) [] (eBool (p a))) :
  FnOK Tryz.prog 130 [] [eInts l, .clo (.func g) [] caps] [] (eInt (idxI p l)) := by
 have hlm : (l.map oInt).length = l.length := List.length_map ..
 refine FnOK.startC (rvs := [.tmp 4]) G G_good Tryz.func130 rfl Tryz.ntmps130 rfl rfl ?_; with_reducible refine wD ?_
 refine LoopK.use G G_good (fun (k : Nat) => [(0, eInts l), (1, .clo (.func g) [] caps), (7, eInt l.length), (8, eInt k)]) (fun _ => []) (fun k => k ≤ l.length ∧ ∀ j x, j < k → l[j]? = some x → p x = false) (fun k => l.length - k) 0 ⟨Nat.zero_le _, fun j x h => by omega⟩
  ⟨⟨rfl, rfl⟩, ⟨rfl, ⟨rfl, trivial, MFL_refl hcaps⟩, by show (l.length : Int) = ((l.map oInt).length : Int); rw [hlm], rfl, trivial⟩, trivial⟩ ?_
 rintro k ⟨hk, hno⟩
 with_reducible refine wK ?_
 refine IfK.mk (fun h1 => ?_) (fun h1 => ?_) <;> (try simp only [castN] at h1) <;> with_reducible refine wK ?_
 ·simp only [decide_eq_true_eq] at h1
  have hk' : k < l.length := by omega
  obtain ⟨a, ha⟩ : ∃ a, l[k]? = some a := ⟨_, List.getElem?_eq_getElem hk'⟩
  refine IdxK.mk k (eInt a) rfl (int_get ha) ?_; with_reducible refine wK ?_
  refine CallK.lit [] (hf a (List.mem_of_getElem? ha)) cg ⟨rfl, MFL_refl hcaps⟩ rfl rfl ?_; with_reducible refine wK ?_
  refine IfK.mk (fun h2 => ?_) (fun h2 => ?_) <;> (try simp only [castN] at h2) <;> with_reducible refine wK ?_
  ·(refine eK ?_ ?_ <;> with_reducible repeat' (first | exact trivial | (show _ ∧ _; refine aK ?_ ?_)))
   exact idxI_hit ha h2 hno
  ·refine nK ?_; with_reducible refine wK ?_
   refine NextK.mk (k + 1) ⟨by omega, fun j x hj hx => ?_⟩ (by omega) ⟨⟨rfl, rfl⟩, ⟨rfl, ⟨rfl, trivial, MFL_refl hcaps⟩, rfl, by show ((k + 1 : Nat) : Int) = (k : Int) + 1; omega, trivial⟩, trivial⟩
   rcases Nat.lt_or_ge j k with h6 | h6
   ·exact hno j x h6 hx
   ·have : j = k := by omega
    subst this
    rw [ha] at hx; cases hx; exact h2
 ·(refine eK ?_ ?_ <;> with_reducible repeat' (first | exact trivial | (show _ ∧ _; refine aK ?_ ?_)))
  have : k = l.length := by simp only [decide_eq_false_iff_not] at h1; omega
  exact idxI_none fun j x hx => hno j x (by have := (List.getElem?_eq_some_iff.1 hx).1; omega) hx
theorem f121_ok (f : ForM) (n : Int) : FnOK Tryz.prog 121 [] [eInt n, .fptr (eFor f) 0] [] (eBool (!thereN f.nodes n)) := by
 have h49 := f122_ok f n
 obtain ⟨l, m⟩ := f
 simp only at h49 ⊢
 refine FnOK.startC (rvs := [.tmp 3]) G G_good Tryz.func121 rfl Tryz.ntmps121 rfl rfl ?_; with_reducible refine wD ?_
 refine cL h49 c122 ?_; with_reducible refine wK ?_
 (refine eK ?_ ?_ <;> with_reducible repeat' (first | exact trivial | (show _ ∧ _; refine aK ?_ ?_)))
 all_goals rfl
theorem f120_ok (g : Nat) (cg : Callable Tryz.prog g) (caps : List AV) (hcaps : noRefL caps = true) (p : Int → Bool) (l : List Int) (hl : l.length ≤ 100000) (hf : ∀ a, a ∈ l → FnOK Tryz.prog g [] (eInt a :: caps) [] (eBool (p a))) :
  FnOK Tryz.prog 120 [] [eInts l, .clo (.func g) [] caps] [] (eBool (decide (0 ≤ idxI p l))) := by
 have h34 := f130_ok g cg caps hcaps p l hl hf
 refine FnOK.startC (rvs := [.tmp 4]) G G_good Tryz.func120 rfl Tryz.ntmps120 rfl rfl ?_; with_reducible refine wD ?_
 refine CallK.lit [] h34 c130 ⟨rfl, ⟨rfl, trivial, MFL_refl hcaps⟩, trivial⟩ rfl rfl ?_; with_reducible refine wK ?_
 (refine eK ?_ ?_ <;> with_reducible repeat' (first | exact trivial | (show _ ∧ _; refine aK ?_ ?_)))
 all_goals rfl
theorem f76_ok (f : ForM) (hs : SmallN f.nodes) (l : List Int) (hl : l.length ≤ 100000) : FnOK Tryz.prog 76 [] [eFor f, eInts l] [] (eBool (rightF f && !decide (0 ≤ idxI (fun n => !thereN f.nodes n) l))) := by
 have h23 := f54_ok f hs
 have h47 := f120_ok 121 c121 [.fptr (eFor f) 0] rfl (fun n => !thereN f.nodes n) l hl (fun a _ => f121_ok f a)
 obtain ⟨ns, m⟩ := f
 simp only at h23 h47 ⊢
 refine FnOK.startC (rvs := [.tmp 4]) G G_good Tryz.func76 rfl Tryz.ntmps76 rfl rfl ?_; with_reducible refine wD ?_
 refine cL h23 c54 ?_; with_reducible refine wK ?_
 cases hr : rightF ⟨ns, m⟩ with
 | false =>
   (have fct := hr; (repeat' (first
  | refine gF ?_ | refine aE ?_ ?_
  | apply trivial)); all_goals clear fct)
   all_goals rfl
 | true =>
   refine IfK.tt ?_; with_reducible refine wK ?_
   refine CallK.lit [50] h47 c120 ⟨rfl, ⟨rfl, trivial, ⟨_, _, _, _, _, rfl, rfl, rfl, rfl, rfl, ⟨rfl, rfl, trivial⟩⟩, trivial⟩, trivial⟩ rfl rfl ?_; with_reducible refine wK ?_
   (refine eK ?_ ?_ <;> with_reducible repeat' (first | exact trivial | (show _ ∧ _; refine aK ?_ ?_)))
   all_goals rfl
theorem f50_ok (f : ForM) (hs : SmallN f.nodes) (hr : rightF f = true) (a b : Int) (ha : thereN f.nodes a = true) (hb : thereN f.nodes b = true) : FnOK Tryz.prog 50 [] [eFor f, eInt a, eInt b] [] (eBool (holdsN f.nodes a b)) := by
 have T := tree_of hr
 have h25 := f76_ok f hs [a, b] (by simp)
 have h0 : idxI (fun n => !thereN f.nodes n) [a, b] = -1 := idxI_none fun j x hx => by
  have : x ∈ [a, b] := List.mem_of_getElem? hx
  simp only [List.mem_cons, List.not_mem_nil, or_false] at this
  rcases this with rfl | rfl
  ·rw [ha]; rfl
  ·rw [hb]; rfl
 rw [h0, hr, show (true && !decide ((0 : Int) ≤ -1)) = true from rfl] at h25
 unfold holdsN
 have hstep := fun n h1 h2 => way_step T (n := n) h1 h2
 have hself := fun n h1 => way_self T (n := n) h1
 have htop := fun n h1 h2 => way_top T (n := n) h1 h2
 have hpar : ∀ n, thereN f.nodes n = true → (nd f.nodes n).parent = -1 ∨ thereN f.nodes (nd f.nodes n).parent = true := fun n hn => by
  by_cases h : (nd f.nodes n).parent = -1
  ·exact .inl h
  ·exact .inr (T.par n hn h).1
 obtain ⟨l, m⟩ := f
 simp only at h25 hb hstep htop hself hpar ha ⊢
 refine FnOK.startC (rvs := [.tmp 6]) G G_good Tryz.func50 rfl Tryz.ntmps50 rfl rfl ?_; with_reducible refine wD ?_
 refine CallK.lit [101] h25 c76 ⟨⟨rfl, rfl, trivial⟩, ⟨_, _, _, _, rfl, rfl, rfl, Nat.le_refl _, rfl, .refl rfl⟩, trivial⟩ rfl rfl ?_; with_reducible refine wK ?_
 refine IfK.no rfl ?_; with_reducible refine wK ?_
 refine LoopK.use G G_good (fun (c : Int) => [(1, eInt a), (2, eInt c), (3, .ptr 30 0 0)]) (fun _ => [(30, .live 2 [eFor ⟨l, m⟩] false)])
  (fun c => (c = -1 ∨ thereN l c = true) ∧ (a ∈ wayN l b ↔ (c ≠ -1 ∧ a ∈ wayN l c))) (fun c => if c = -1 then 0 else (wayN l c).length) b ⟨.inr hb, ⟨fun h => ⟨by have := there_pos hb; omega, h⟩, fun h => h.2⟩⟩
  ⟨⟨rfl, rfl⟩, ⟨rfl, rfl, ⟨rfl, rfl⟩, trivial⟩, ⟨⟨rfl, rfl, trivial⟩, trivial⟩, trivial⟩ ?_
 rintro c ⟨hc, hiff⟩
 with_reducible refine wK ?_
 have ha0 := there_pos ha
 by_cases ec : c = -1
 ·subst ec
  have hno : decide (a ∈ wayN l b) = false := decide_eq_false fun h => (hiff.1 h).1 rfl
  rw [hno]
  have hna : ¬ -1 = a := by omega
  (have fct := (eq_false hna); (repeat' (first
  | refine gF ?_ | refine aE ?_ ?_
  | apply trivial)); all_goals clear fct)
  all_goals simp [hna]
 ·have hct := hc.resolve_left ec
  by_cases ea : c = a
  ·subst ea
   have hyes : decide (c ∈ wayN l b) = true := decide_eq_true (hiff.2 ⟨ec, hself c hct⟩)
   rw [hyes]
   (have fct := (eq_false ec); (repeat' (first
  | refine gF ?_ | refine aE ?_ ?_
  | apply trivial)); all_goals clear fct)
   all_goals simp
  ·obtain ⟨i, y, e, hy, hny⟩ := there_iff.1 hct
   have hpc := hpar c hct
   have hst := hstep c hct
   have htp := htop c hct
   rw [hny] at hpc hst htp
   obtain ⟨b1, b2, b3, b4, b5, b6, b7, b8, b9, b10⟩ := y
   simp only at hpc hst htp
   have hni : (a ∈ wayN l b ↔ (b6 ≠ -1 ∧ a ∈ wayN l b6)) ∧ (if b6 = -1 then 0 else (wayN l b6).length) < (if c = -1 then 0 else (wayN l c).length) := by
    rw [if_neg ec]
    by_cases e6 : b6 = -1
    ·rw [htp e6, if_pos e6]
     refine ⟨?_, by simp⟩
     rw [hiff, htp e6]
     constructor
     ·rintro ⟨_, h⟩; rw [List.mem_singleton] at h; exact absurd h.symm ea
     ·rintro ⟨h, _⟩; exact absurd e6 h
    ·rw [hst e6, if_neg e6]
     refine ⟨?_, by simp⟩
     rw [hiff, hst e6, List.mem_cons]
     constructor
     ·rintro ⟨_, h | h⟩
      ·exact absurd h.symm ea
      ·exact ⟨e6, h⟩
     ·rintro ⟨_, h⟩; exact ⟨ec, .inr h⟩
   (have fct := And.intro (eq_false ec) ((eq_false ea)); (repeat' (first
  | refine gF ?_ | refine aE ?_ ?_
  | ((first
   | (refine IdxK.mk i (eNode _) e (node_get hy) ?_)
   | ((with_reducible show NextK _ _); refine NextK.mk b6 ⟨hpc, hni.1⟩ hni.2 ⟨⟨rfl, rfl⟩, ⟨rfl, rfl, ⟨rfl, rfl⟩, trivial⟩, ⟨⟨rfl, rfl, trivial⟩, trivial⟩, trivial⟩)) <;> with_reducible refine wK ?_)
  | apply trivial)); all_goals clear fct)
theorem f152_ok (f : ForM) (n : Int) : FnOK Tryz.prog 152 [] [eInt n, .fptr (eFor f) 0] [] (eBool (!thereN f.nodes n)) := by
 obtain ⟨l, m⟩ := f
 have hlm : (l.map oNode).length = l.length := List.length_map ..
 refine FnOK.startC (rvs := [.tmp 3]) G G_good Tryz.func152 rfl Tryz.ntmps152 rfl rfl ?_; with_reducible refine wD ?_
 repeat' (first
  | refine pK ?_ | refine aE ?_ ?_
  | ((first
   | ((with_reducible show IfK _ _ _ _); (refine IfK.mk (fun hp => ?_) (fun hp => ?_) <;> (try simp only [castN, decide_eq_true_eq, decide_eq_false_iff_not, Bool.not_eq_true', Bool.not_eq_false', Decidable.not_not, Int.not_lt, Int.not_le] at hp)))) <;> with_reducible refine wK ?_)
  | apply trivial)
 ·unfold thereN; rw [decide_eq_false (show ¬ 0 ≤ n by omega)]; rfl
 ·unfold thereN; rw [decide_eq_true hp, hlm, Bool.true_and, ← decide_not]
  exact decide_eq_decide.2 Int.not_lt
theorem f106_ok (f : ForM) (hs : SmallN f.nodes) (l : List Int) (hl : l.length ≤ 100000) : FnOK Tryz.prog 106 [] [eFor f, eInts l] [] (eBool (rightF f && !decide (0 ≤ idxI (fun n => !thereN f.nodes n) l))) := by
 have h48 := f15_ok f hs
 have h106 := f120_ok 152 c152 [.fptr (eFor f) 0] rfl (fun n => !thereN f.nodes n) l hl (fun a _ => f152_ok f a)
 obtain ⟨ns, m⟩ := f
 simp only at h48 h106 ⊢
 refine FnOK.startC (rvs := [.tmp 4]) G G_good Tryz.func106 rfl Tryz.ntmps106 rfl rfl ?_; with_reducible refine wD ?_
 refine cL h48 c15 ?_; with_reducible refine wK ?_
 cases h0 : rightF ⟨ns, m⟩ with
 | false =>
   repeat' (first
  | refine gK ?_ | refine aE ?_ ?_
  | apply trivial)
   all_goals rfl
 | true =>
   repeat' (first
  | refine gK ?_ | refine aE ?_ ?_
  | apply trivial)
   refine CallK.lit [20] h106 c120 ⟨rfl, ⟨rfl, trivial, ⟨_, _, _, _, _, rfl, rfl, rfl, rfl, rfl, ⟨rfl, rfl, trivial⟩⟩, trivial⟩, trivial⟩ rfl rfl ?_; with_reducible refine wK ?_
   repeat' (first
  | refine gK ?_ | refine aE ?_ ?_
  | apply trivial)
   all_goals rfl
theorem f123_ok (l : List Int) : FnOK Tryz.prog 123 [] [eInts l] [] (.clo (.func 155) [] [.fptr (eInts l) 0]) := by
 refine FnOK.startC (rvs := [.tmp 2]) G G_good Tryz.func123 rfl Tryz.ntmps123 rfl rfl ?_; with_reducible refine wD ?_
 refine ⟨⟨rfl, rfl⟩, ⟨rfl, trivial, ⟨_, _, _, _, _, rfl, rfl, rfl, rfl, rfl, rfl⟩, trivial⟩, ?_⟩
 exact trivial
def allU (f : ForM) (n : Int) : List Int := if (rightF f && thereN f.nodes n) = true then U.ordN f.nodes f.nodes.length n else []
theorem f104_own (f : ForM) (hs : SmallN f.nodes) (n : Int) (e0 : (rightF f && thereN f.nodes n) = true) : FnOK Tryz.prog 104 [] [eFor f, eInt n] [rInts (allU f n)] (.own 0 0 (allU f n).length) := by
 have h86 := f106_ok f hs [n] (by simp)
 have e1 : (rightF f && !decide (0 ≤ idxI (fun n => !thereN f.nodes n) [n])) = (rightF f && thereN f.nodes n) := by
  congr 1
  unfold idxI
  cases h : thereN f.nodes n <;> simp [List.findIdx?_cons, h]
 rw [e1] at h86
 obtain ⟨l, m⟩ := f
 unfold allU
 simp only at h86 e0 ⊢
 rw [if_pos e0]
 have hlm : (l.map oNode).length = l.length := List.length_map ..
 refine FnOK.startC (rvs := [.tmp 4]) G G_good Tryz.func104 rfl Tryz.ntmps104 rfl rfl ?_; delta List.toArray; (with_reducible ((conv => whnf); (conv => congr <;> reduce); repeat ((first | refine hK ?_ | refine sK ?_); (conv => whnf); (conv => congr <;> reduce))))
 rw [e0] at h86
 refine CallK.lit [141] h86 c106 ⟨⟨rfl, rfl, trivial⟩, frz_ints (l := [n]) rfl rfl rfl rfl, trivial⟩ rfl rfl ?_; (with_reducible ((conv => whnf); (conv => congr <;> reduce); repeat ((first | refine hK ?_ | refine sK ?_); (conv => whnf); (conv => congr <;> reduce))))
 obtain ⟨hr, hn⟩ : rightF ⟨l, m⟩ = true ∧ thereN l n = true := by simpa using e0
 have T := U.tree_of hr
 have hol := U.ord_len T l.length hn
 simp only at T hol
 repeat' (first
  | (first
  | ((with_reducible show IfK _ _ _ _); first | refine IfK.ff ?_ | refine IfK.tt ?_ | refine IfK.no (by first | exact qA | ((try simp only [castN]); first | (simp []; done) | (simp []; omega))) ?_ | refine IfK.yes (by first | exact qA | ((try simp only [castN]); first | (simp []; done) | (simp []; omega))) ?_)
  | ((with_reducible show NeedK _ _ _ _); refine nK ?_)
  | ((with_reducible show DrawK _ _ _ _); refine dK ?_)) <;> (with_reducible ((conv => whnf); (conv => congr <;> reduce); repeat ((first | refine hK ?_ | refine sK ?_); (conv => whnf); (conv => congr <;> reduce))))
  | ((with_reducible show (_ ∧ _) ∧ _ ∧ _); refine ⟨⟨rfl, rfl⟩, ?_, ?_⟩ <;> with_reducible ((conv => whnf) <;> repeat' (first | exact trivial | (refine And.intro ?_ ?_ <;> (conv => whnf))))))
 refine LoopK.ghost 5 51 1 rfl rfl ?_
 refine LoopK.use G G_good (fun (i : List Int × List Int × List Int) => [(2, .ptr 20 0 0), (5, .own 51 0 i.1.length), (6, .ptr 60 0 0)])
  (fun i => [(20, .live 2 [eFor ⟨l, m⟩] false), (51, rInts i.1), (60, .live 1 [.own 181 0 i.2.1.length] false), (181, rInts (i.2.1 ++ i.2.2))])
  (fun i => U.ordN l l.length n = i.1 ++ U.rest l i.2.1 ∧ ∀ c ∈ i.2.1, thereN l c = true) (fun i => l.length - i.1.length) ([], [n], []) ⟨by simp [U.rest], fun c hc => by rw [List.mem_singleton] at hc; subst hc; exact hn⟩
  (by refine ⟨⟨rfl, rfl⟩, ⟨⟨rfl, rfl⟩, ⟨rfl, rfl⟩, ⟨rfl, rfl⟩, trivial⟩, ⟨⟨rfl, rfl, trivial⟩, trivial⟩, ⟨.refl rfl, noRef_ints _⟩, ⟨⟨rfl, rfl⟩, trivial⟩, ⟨.refl rfl, noRef_ints _⟩, trivial⟩) ?_
 rintro ⟨out, st, sp⟩ ⟨ho, hst⟩
 simp only at ho hst
 (with_reducible ((conv => whnf); (conv => congr <;> reduce); repeat ((first | refine hK ?_ | refine sK ?_); (conv => whnf); (conv => congr <;> reduce))))
 have hoL := congrArg List.length ho
 rw [List.length_append] at hoL
 have hol' : out.length = (out.map oInt).length := (List.length_map ..).symm
 have hrl := U.rest_len T hst
 have hl60 := hs.len
 simp only at hl60
 obtain h | ⟨st', t, h⟩ := List.eq_nil_or_concat st <;> (try rw [List.concat_eq_append] at h) <;> subst h
 ·repeat' (first
  | (first
  | ((with_reducible show IfK _ _ _ _); first | refine IfK.ff ?_ | refine IfK.tt ?_ | refine IfK.no (by first | exact qA | ((try simp only [castN]); first | (simp []; done) | (simp []; omega))) ?_ | refine IfK.yes (by first | exact qA | ((try simp only [castN]); first | (simp []; done) | (simp []; omega))) ?_)
  | ((with_reducible show NeedK _ _ _ _); refine nK ?_)
  | ((with_reducible show DrawK _ _ _ _); refine dK ?_)) <;> (with_reducible ((conv => whnf); (conv => congr <;> reduce); repeat ((first | refine hK ?_ | refine sK ?_); (conv => whnf); (conv => congr <;> reduce))))
  | ((with_reducible show (_ ∧ _) ∧ _ ∧ _); refine ⟨⟨rfl, rfl⟩, ?_, ?_⟩ <;> with_reducible ((conv => whnf) <;> repeat' (first | exact trivial | (refine And.intro ?_ ?_ <;> (conv => whnf))))))
  all_goals have ho' : U.ordN l l.length n = out := by rw [ho]; simp [U.rest]
  all_goals clear ho hoL
  all_goals subst ho'
  all_goals first
   | rfl
   | exact MFL_refl (noRef_ints _)
 ·have ht := hst t (by simp)
  have hlen : (st' ++ [t]).length = st'.length + 1 := by simp
  obtain ⟨k, x, rfl, hx, hnx⟩ := there_iff.1 ht
  rw [hlen]
  rw [hlen] at hrl
  repeat' (first
  | (first
  | ((with_reducible show IfK _ _ _ _); first | refine IfK.ff ?_ | refine IfK.tt ?_ | refine IfK.no (by first | exact qA | ((try simp only [castN]); first | (simp []; done) | (simp []; omega))) ?_ | refine IfK.yes (by first | exact qA | ((try simp only [castN]); first | (simp []; done) | (simp []; omega))) ?_)
  | ((with_reducible show NeedK _ _ _ _); refine nK ?_)
  | ((with_reducible show DrawK _ _ _ _); refine dK ?_)) <;> (with_reducible ((conv => whnf); (conv => congr <;> reduce); repeat ((first | refine hK ?_ | refine sK ?_); (conv => whnf); (conv => congr <;> reduce))))
  | ((with_reducible show (_ ∧ _) ∧ _ ∧ _); refine ⟨⟨rfl, rfl⟩, ?_, ?_⟩ <;> with_reducible ((conv => whnf) <;> repeat' (first | exact trivial | (refine And.intro ?_ ?_ <;> (conv => whnf))))))
  refine LtK.mk st'.length (by (try simp only [castN]); omega) (by omega) ?_; (with_reducible ((conv => whnf); (conv => congr <;> reduce); repeat ((first | refine hK ?_ | refine sK ?_); (conv => whnf); (conv => congr <;> reduce))))
  refine ElemK.mk (eInt (k : Int)) (by rw [Nat.zero_add, List.getElem?_map, List.append_assoc, List.getElem?_append_right (Nat.le_refl _), Nat.sub_self]; rfl) ?_; (with_reducible ((conv => whnf); (conv => congr <;> reduce); repeat ((first | refine hK ?_ | refine sK ?_); (conv => whnf); (conv => congr <;> reduce))))
  repeat' (first
  | (first
  | ((with_reducible show IfK _ _ _ _); first | refine IfK.ff ?_ | refine IfK.tt ?_ | refine IfK.no (by first | exact qA | ((try simp only [castN]); first | (simp []; done) | (simp []; omega))) ?_ | refine IfK.yes (by first | exact qA | ((try simp only [castN]); first | (simp []; done) | (simp []; omega))) ?_)
  | ((with_reducible show NeedK _ _ _ _); refine nK ?_)
  | ((with_reducible show DrawK _ _ _ _); refine dK ?_)) <;> (with_reducible ((conv => whnf); (conv => congr <;> reduce); repeat ((first | refine hK ?_ | refine sK ?_); (conv => whnf); (conv => congr <;> reduce))))
  | ((with_reducible show (_ ∧ _) ∧ _ ∧ _); refine ⟨⟨rfl, rfl⟩, ?_, ?_⟩ <;> with_reducible ((conv => whnf) <;> repeat' (first | exact trivial | (refine And.intro ?_ ?_ <;> (conv => whnf))))))
  refine CutK.mk 0 st'.length rfl (by (try simp only [castN]); omega) (by omega) ?_; (with_reducible ((conv => whnf); (conv => congr <;> reduce); repeat ((first | refine hK ?_ | refine sK ?_); (conv => whnf); (conv => congr <;> reduce))))
  repeat' (first
  | (first
  | ((with_reducible show IfK _ _ _ _); first | refine IfK.ff ?_ | refine IfK.tt ?_ | refine IfK.no (by first | exact qA | ((try simp only [castN]); first | (simp []; done) | (simp []; omega))) ?_ | refine IfK.yes (by first | exact qA | ((try simp only [castN]); first | (simp []; done) | (simp []; omega))) ?_)
  | ((with_reducible show NeedK _ _ _ _); refine nK ?_)
  | ((with_reducible show DrawK _ _ _ _); refine dK ?_)) <;> (with_reducible ((conv => whnf); (conv => congr <;> reduce); repeat ((first | refine hK ?_ | refine sK ?_); (conv => whnf); (conv => congr <;> reduce))))
  | ((with_reducible show (_ ∧ _) ∧ _ ∧ _); refine ⟨⟨rfl, rfl⟩, ?_, ?_⟩ <;> with_reducible ((conv => whnf) <;> repeat' (first | exact trivial | (refine And.intro ?_ ?_ <;> (conv => whnf))))))
  refine AppK.mk (out.map oInt) [eInt (k : Int)] ⟨rfl, hol', rfl⟩ ⟨rfl, rfl, rfl⟩ rfl (by simp; omega) (by simp; omega) ?_; (with_reducible ((conv => whnf); (conv => congr <;> reduce); repeat ((first | refine hK ?_ | refine sK ?_); (conv => whnf); (conv => congr <;> reduce))))
  repeat' (first
  | (first
  | ((with_reducible show IfK _ _ _ _); first | refine IfK.ff ?_ | refine IfK.tt ?_ | refine IfK.no (by first | exact qA | ((try simp only [castN]); first | (simp []; done) | (simp []; omega))) ?_ | refine IfK.yes (by first | exact qA | ((try simp only [castN]); first | (simp []; done) | (simp []; omega))) ?_)
  | ((with_reducible show NeedK _ _ _ _); refine nK ?_)
  | ((with_reducible show DrawK _ _ _ _); refine dK ?_)) <;> (with_reducible ((conv => whnf); (conv => congr <;> reduce); repeat ((first | refine hK ?_ | refine sK ?_); (conv => whnf); (conv => congr <;> reduce))))
  | ((with_reducible show (_ ∧ _) ∧ _ ∧ _); refine ⟨⟨rfl, rfl⟩, ?_, ?_⟩ <;> with_reducible ((conv => whnf) <;> repeat' (first | exact trivial | (refine And.intro ?_ ?_ <;> (conv => whnf))))))
  obtain ⟨a1, a2, a3, a4, a5, a6, a7, a8, a9, a10⟩ := x
  refine IdxK.mk k (eNode _) rfl (node_get hx) ?_; (with_reducible ((conv => whnf); (conv => congr <;> reduce); repeat ((first | refine hK ?_ | refine sK ?_); (conv => whnf); (conv => congr <;> reduce))))
  repeat' (first
  | (first
  | ((with_reducible show IfK _ _ _ _); first | refine IfK.ff ?_ | refine IfK.tt ?_ | refine IfK.no (by first | exact qA | ((try simp only [castN]); first | (simp []; done) | (simp []; omega))) ?_ | refine IfK.yes (by first | exact qA | ((try simp only [castN]); first | (simp []; done) | (simp []; omega))) ?_)
  | ((with_reducible show NeedK _ _ _ _); refine nK ?_)
  | ((with_reducible show DrawK _ _ _ _); refine dK ?_)) <;> (with_reducible ((conv => whnf); (conv => congr <;> reduce); repeat ((first | refine hK ?_ | refine sK ?_); (conv => whnf); (conv => congr <;> reduce))))
  | ((with_reducible show (_ ∧ _) ∧ _ ∧ _); refine ⟨⟨rfl, rfl⟩, ?_, ?_⟩ <;> with_reducible ((conv => whnf) <;> repeat' (first | exact trivial | (refine And.intro ?_ ?_ <;> (conv => whnf))))))
  refine cV (f123_ok a7) c123 ?_; (with_reducible ((conv => whnf); (conv => congr <;> reduce); repeat ((first | refine hK ?_ | refine sK ?_); (conv => whnf); (conv => congr <;> reduce))))
  repeat' (first
  | (first
  | ((with_reducible show IfK _ _ _ _); first | refine IfK.ff ?_ | refine IfK.tt ?_ | refine IfK.no (by first | exact qA | ((try simp only [castN]); first | (simp []; done) | (simp []; omega))) ?_ | refine IfK.yes (by first | exact qA | ((try simp only [castN]); first | (simp []; done) | (simp []; omega))) ?_)
  | ((with_reducible show NeedK _ _ _ _); refine nK ?_)
  | ((with_reducible show DrawK _ _ _ _); refine dK ?_)) <;> (with_reducible ((conv => whnf); (conv => congr <;> reduce); repeat ((first | refine hK ?_ | refine sK ?_); (conv => whnf); (conv => congr <;> reduce))))
  | ((with_reducible show (_ ∧ _) ∧ _ ∧ _); refine ⟨⟨rfl, rfl⟩, ?_, ?_⟩ <;> with_reducible ((conv => whnf) <;> repeat' (first | exact trivial | (refine And.intro ?_ ?_ <;> (conv => whnf))))))
  obtain ⟨spF, hs0, hs1⟩ : ∃ spF : Nat → List Int, spF 0 = (k : Int) :: sp ∧ ∀ j, spF (j + 1) = [] := ⟨fun j => match j with | 0 => (k : Int) :: sp | _ + 1 => [], rfl, fun _ => rfl⟩
  have hk7 := hs.kids _ (List.mem_of_getElem? hx)
  simp only at hk7
  refine LoopK.range G G_good 4 [(2, .ptr 1 0 0), (5, .own 3 0 (out.length + 1)), (6, .ptr 0 0 0), (9, .ptr 2 0 0), (43, .clo (.func 155) [] [.fptr (eInts a7) 0])]
   (fun j => [(0, .live 1 [.own 181 0 (st'.length + j)] false), (1, .live 2 [eFor ⟨l, m⟩] false), (2, .live 10 [eNode ⟨a1, a2, a3, a4, a5, a6, a7, a8, a9, a10⟩] false), (3, rInts (out ++ [(k : Int)])), (181, rInts (st' ++ a7.reverse.take j ++ spF j))])
   (back_it a7 (by omega)) c155 ?_ rfl ⟨⟨rfl, rfl⟩, rfl⟩ (fun _ _ => rfl) (fun _ _ => rfl) ⟨⟨rfl, rfl⟩, rfl, rfl⟩ ?_ ?_
  ·refine ⟨⟨rfl, rfl⟩, ?_⟩
   (with_reducible conv => whnf)
   repeat' (first | (with_reducible exact trivial) | (with_reducible refine And.intro ?_ ?_ <;> with_reducible conv => whnf))
   all_goals try rfl
   ·simp
   ·exact ⟨.refl rfl, rfl⟩
   ·exact ⟨.refl rfl, rfl⟩
   ·refine ⟨?_, noRef_ints _⟩
    rw [← show (out ++ [(k : Int)]).map oInt = out.map oInt ++ [AV.lit (.int .i64 k)] by simp; rfl]
    exact .refl (noRef_ints _)
   ·refine ⟨?_, noRef_ints _⟩
    rw [hs0, List.take_zero, List.append_nil, show st' ++ [(k : Int)] ++ sp = st' ++ (k : Int) :: sp by simp]; exact .refl (noRef_ints _)
  ·intro j hj
   (with_reducible ((conv => whnf); (conv => congr <;> reduce); repeat ((first | refine hK ?_ | refine sK ?_); (conv => whnf); (conv => congr <;> reduce))))
   refine BodyK.mk rfl ?_; (with_reducible ((conv => whnf); (conv => congr <;> reduce); repeat ((first | refine hK ?_ | refine sK ?_); (conv => whnf); (conv => congr <;> reduce))))
   repeat' (first
  | (first
  | ((with_reducible show IfK _ _ _ _); first | refine IfK.ff ?_ | refine IfK.tt ?_ | refine IfK.no (by first | exact qA | ((try simp only [castN]); first | (simp []; done) | (simp []; omega))) ?_ | refine IfK.yes (by first | exact qA | ((try simp only [castN]); first | (simp []; done) | (simp []; omega))) ?_)
  | ((with_reducible show NeedK _ _ _ _); refine nK ?_)
  | ((with_reducible show DrawK _ _ _ _); refine dK ?_)) <;> (with_reducible ((conv => whnf); (conv => congr <;> reduce); repeat ((first | refine hK ?_ | refine sK ?_); (conv => whnf); (conv => congr <;> reduce))))
  | ((with_reducible show (_ ∧ _) ∧ _ ∧ _); refine ⟨⟨rfl, rfl⟩, ?_, ?_⟩ <;> with_reducible ((conv => whnf) <;> repeat' (first | exact trivial | (refine And.intro ?_ ?_ <;> (conv => whnf))))))
   refine AppK.take ((st' ++ a7.reverse.take j).map oInt) [oInt ((a7.reverse[j]?).getD 0)] ⟨rfl, by simp; omega, by rw [List.map_append (l₂ := spF j), List.take_left' (by simp; omega)]⟩ ⟨rfl, rfl, rfl⟩ rfl (by simp; omega) (by simp; omega) ?_
   (with_reducible ((conv => whnf); (conv => congr <;> reduce); repeat ((first | refine hK ?_ | refine sK ?_); (conv => whnf); (conv => congr <;> reduce))))
   repeat' (first
  | (first
  | ((with_reducible show IfK _ _ _ _); first | refine IfK.ff ?_ | refine IfK.tt ?_ | refine IfK.no (by first | exact qA | ((try simp only [castN]); first | (simp []; done) | (simp []; omega))) ?_ | refine IfK.yes (by first | exact qA | ((try simp only [castN]); first | (simp []; done) | (simp []; omega))) ?_)
  | ((with_reducible show NeedK _ _ _ _); refine nK ?_)
  | ((with_reducible show DrawK _ _ _ _); refine dK ?_)) <;> (with_reducible ((conv => whnf); (conv => congr <;> reduce); repeat ((first | refine hK ?_ | refine sK ?_); (conv => whnf); (conv => congr <;> reduce))))
  | ((with_reducible show (_ ∧ _) ∧ _ ∧ _); refine ⟨⟨rfl, rfl⟩, ?_, ?_⟩ <;> with_reducible ((conv => whnf) <;> repeat' (first | exact trivial | (refine And.intro ?_ ?_ <;> (conv => whnf))))))
   refine TurnK.mk ?_
   obtain ⟨c, hc⟩ : ∃ c, a7.reverse[j]? = some c := ⟨_, List.getElem?_eq_getElem (by simpa using hj)⟩
   have htk : a7.reverse.take (j + 1) = a7.reverse.take j ++ [c] := by rw [List.take_add_one, hc]; rfl
   rw [hc, Option.getD_some]
   refine ⟨⟨rfl, rfl⟩, ?_⟩
   (with_reducible conv => whnf)
   repeat' (first | (with_reducible exact trivial) | (with_reducible refine And.intro ?_ ?_ <;> with_reducible conv => whnf))
   all_goals try rfl
   ·simp; omega
   ·exact ⟨.refl rfl, rfl⟩
   ·exact ⟨.refl rfl, rfl⟩
   ·exact ⟨.refl (noRef_ints _), noRef_ints _⟩
   ·refine ⟨?_, noRef_ints _⟩
    rw [hs1, htk, List.append_nil, ← List.append_assoc, List.map_append (l₂ := [c])]; exact .refl (by rw [← List.map_append]; exact noRef_ints _)
  ·(with_reducible ((conv => whnf); (conv => congr <;> reduce); repeat ((first | refine hK ?_ | refine sK ?_); (conv => whnf); (conv => congr <;> reduce))))
   refine ElemK.mk (eNode ⟨a1, a2, a3, a4, a5, a6, a7, a8, a9, a10⟩) rfl ?_; (with_reducible ((conv => whnf); (conv => congr <;> reduce); repeat ((first | refine hK ?_ | refine sK ?_); (conv => whnf); (conv => congr <;> reduce))))
   have hT : nd l k = ⟨a1, a2, a3, a4, a5, a6, a7, a8, a9, a10⟩ := hnx
   have hch : chU (nd l k) = (if a9 = -1 then [] else [a9]) ++ a7 := by rw [hT]; rfl
   have hpop := U.rest_pop T (st := st') ht
   rw [hch] at hpop
   have hkid : ∀ c ∈ (if a9 = -1 then [] else [a9]) ++ a7, thereN l c = true := fun c hc => (T.kid k ht c (by rw [hch]; exact hc)).1
   have hta : a7.reverse.take a7.length = a7.reverse := List.take_of_length_le (by simp)
   by_cases e9 : a9 = -1
   ·subst e9
    rw [if_pos rfl, List.nil_append] at hpop hkid
    repeat' (first
  | (first
  | ((with_reducible show IfK _ _ _ _); first | refine IfK.ff ?_ | refine IfK.tt ?_ | refine IfK.no (by first | exact qA | ((try simp only [castN]); first | (simp []; done) | (simp []; omega))) ?_ | refine IfK.yes (by first | exact qA | ((try simp only [castN]); first | (simp []; done) | (simp []; omega))) ?_)
  | ((with_reducible show NeedK _ _ _ _); refine nK ?_)
  | ((with_reducible show DrawK _ _ _ _); refine dK ?_)) <;> (with_reducible ((conv => whnf); (conv => congr <;> reduce); repeat ((first | refine hK ?_ | refine sK ?_); (conv => whnf); (conv => congr <;> reduce))))
  | ((with_reducible show (_ ∧ _) ∧ _ ∧ _); refine ⟨⟨rfl, rfl⟩, ?_, ?_⟩ <;> with_reducible ((conv => whnf) <;> repeat' (first | exact trivial | (refine And.intro ?_ ?_ <;> (conv => whnf))))))
    refine NextK.mk (out ++ [(k : Int)], st' ++ a7.reverse, spF a7.length) ⟨?_, ?_⟩ ?_ ?_
    ·rw [ho, hpop]; simp
    ·intro c hc
     rcases List.mem_append.1 hc with h | h
     ·exact hst c (by simp [h])
     ·exact hkid c (by simpa using h)
    ·simp only [List.length_append, List.length_singleton]; omega
    ·refine ⟨⟨rfl, rfl⟩, ?_⟩
     (with_reducible conv => whnf)
     repeat' (first | (with_reducible exact trivial) | (with_reducible refine And.intro ?_ ?_ <;> with_reducible conv => whnf))
     all_goals try rfl
     ·simp
     ·exact ⟨.refl (noRef_ints _), noRef_ints _⟩
     ·simp
     ·refine ⟨?_, noRef_ints _⟩
      rw [hta]; exact .refl (noRef_ints _)
   ·rw [if_neg e9] at hpop hkid
    repeat' (first
  | (first
  | ((with_reducible show IfK _ _ _ _); first | refine IfK.ff ?_ | refine IfK.tt ?_ | refine IfK.no (by first | exact qA | ((try simp only [castN]); first | (simp [e9]; done) | (simp [e9]; omega))) ?_ | refine IfK.yes (by first | exact qA | ((try simp only [castN]); first | (simp [e9]; done) | (simp [e9]; omega))) ?_)
  | ((with_reducible show NeedK _ _ _ _); refine nK ?_)
  | ((with_reducible show DrawK _ _ _ _); refine dK ?_)) <;> (with_reducible ((conv => whnf); (conv => congr <;> reduce); repeat ((first | refine hK ?_ | refine sK ?_); (conv => whnf); (conv => congr <;> reduce))))
  | ((with_reducible show (_ ∧ _) ∧ _ ∧ _); refine ⟨⟨rfl, rfl⟩, ?_, ?_⟩ <;> with_reducible ((conv => whnf) <;> repeat' (first | exact trivial | (refine And.intro ?_ ?_ <;> (conv => whnf))))))
    refine ElemK.mk (eNode ⟨a1, a2, a3, a4, a5, a6, a7, a8, a9, a10⟩) rfl ?_; (with_reducible ((conv => whnf); (conv => congr <;> reduce); repeat ((first | refine hK ?_ | refine sK ?_); (conv => whnf); (conv => congr <;> reduce))))
    repeat' (first
  | (first
  | ((with_reducible show IfK _ _ _ _); first | refine IfK.ff ?_ | refine IfK.tt ?_ | refine IfK.no (by first | exact qA | ((try simp only [castN]); first | (simp [e9]; done) | (simp [e9]; omega))) ?_ | refine IfK.yes (by first | exact qA | ((try simp only [castN]); first | (simp [e9]; done) | (simp [e9]; omega))) ?_)
  | ((with_reducible show NeedK _ _ _ _); refine nK ?_)
  | ((with_reducible show DrawK _ _ _ _); refine dK ?_)) <;> (with_reducible ((conv => whnf); (conv => congr <;> reduce); repeat ((first | refine hK ?_ | refine sK ?_); (conv => whnf); (conv => congr <;> reduce))))
  | ((with_reducible show (_ ∧ _) ∧ _ ∧ _); refine ⟨⟨rfl, rfl⟩, ?_, ?_⟩ <;> with_reducible ((conv => whnf) <;> repeat' (first | exact trivial | (refine And.intro ?_ ?_ <;> (conv => whnf))))))
    refine AppK.take ((st' ++ a7.reverse).map oInt) [eInt a9] ⟨rfl, by simp, by rw [hta, List.map_append (l₂ := spF a7.length), List.take_left' (by simp)]⟩ ⟨rfl, rfl, rfl⟩ rfl (by simp; omega) (by simp; omega) ?_
    (with_reducible ((conv => whnf); (conv => congr <;> reduce); repeat ((first | refine hK ?_ | refine sK ?_); (conv => whnf); (conv => congr <;> reduce))))
    repeat' (first
  | (first
  | ((with_reducible show IfK _ _ _ _); first | refine IfK.ff ?_ | refine IfK.tt ?_ | refine IfK.no (by first | exact qA | ((try simp only [castN]); first | (simp [e9]; done) | (simp [e9]; omega))) ?_ | refine IfK.yes (by first | exact qA | ((try simp only [castN]); first | (simp [e9]; done) | (simp [e9]; omega))) ?_)
  | ((with_reducible show NeedK _ _ _ _); refine nK ?_)
  | ((with_reducible show DrawK _ _ _ _); refine dK ?_)) <;> (with_reducible ((conv => whnf); (conv => congr <;> reduce); repeat ((first | refine hK ?_ | refine sK ?_); (conv => whnf); (conv => congr <;> reduce))))
  | ((with_reducible show (_ ∧ _) ∧ _ ∧ _); refine ⟨⟨rfl, rfl⟩, ?_, ?_⟩ <;> with_reducible ((conv => whnf) <;> repeat' (first | exact trivial | (refine And.intro ?_ ?_ <;> (conv => whnf))))))
    refine NextK.mk (out ++ [(k : Int)], st' ++ a7.reverse ++ [a9], []) ⟨?_, ?_⟩ ?_ ?_
    ·rw [ho, hpop]; simp
    ·intro c hc
     rcases List.mem_append.1 hc with h | h
     ·rcases List.mem_append.1 h with h | h
      ·exact hst c (by simp [h])
      ·exact hkid c (by simp at h; simp [h])
     ·exact hkid c (by simp at h; simp [h])
    ·simp only [List.length_append, List.length_singleton]; omega
    ·refine ⟨⟨rfl, rfl⟩, ?_⟩
     (with_reducible conv => whnf)
     repeat' (first | (with_reducible exact trivial) | (with_reducible refine And.intro ?_ ?_ <;> with_reducible conv => whnf))
     all_goals try rfl
     ·simp
     ·exact ⟨.refl (noRef_ints _), noRef_ints _⟩
     ·simp
     ·refine ⟨?_, noRef_ints _⟩
      rw [List.append_nil, List.map_append (l₂ := [a9])]; exact .refl (by rw [← List.map_append]; exact noRef_ints _)
noncomputable def fnsO : List (Nat × Func) := [(13, Tryz.f13), (45, Tryz.f45), (15, Tryz.f15), (144, Tryz.f144), (89, Tryz.f89), (139, Tryz.f139), (142, Tryz.f142), (145, Tryz.f145), (54, Tryz.f54), (180, Tryz.f180), (136, Tryz.f136), (137, Tryz.f137), (177, Tryz.f177), (92, Tryz.f92), (93, Tryz.f93), (94, Tryz.f94), (95, Tryz.f95), (96, Tryz.f96), (97, Tryz.f97), (120, Tryz.f120), (134, Tryz.f134), (133, Tryz.f133), (146, Tryz.f146), (122, Tryz.f122), (147, Tryz.f147), (148, Tryz.f148), (149, Tryz.f149), (130, Tryz.f130), (192, Tryz.f192), (168, Tryz.f168), (165, Tryz.f165), (166, Tryz.f166), (167, Tryz.f167), (79, Tryz.f79), (208, Tryz.f208), (169, Tryz.f169), (220, Tryz.f220), (80, Tryz.f80), (124, Tryz.f124), (125, Tryz.f125), (126, Tryz.f126), (127, Tryz.f127), (128, Tryz.f128), (129, Tryz.f129), (156, Tryz.f156), (158, Tryz.f158), (159, Tryz.f159), (160, Tryz.f160), (161, Tryz.f161), (162, Tryz.f162), (164, Tryz.f164), (184, Tryz.f184), (185, Tryz.f185), (187, Tryz.f187), (205, Tryz.f205), (207, Tryz.f207), (191, Tryz.f191), (21, Tryz.f21), (63, Tryz.f63), (106, Tryz.f106), (107, Tryz.f107), (152, Tryz.f152), (82, Tryz.f82), (76, Tryz.f76), (186, Tryz.f186), (163, Tryz.f163)]
theorem fnsO_ok : ∀ p ∈ fnsO, Tryz.prog.funcs[p.1]? = some p.2 ∧ Callable Tryz.prog p.1 := List.forall_mem_cons.2 ⟨⟨Tryz.func13, c13⟩, List.forall_mem_cons.2 ⟨⟨Tryz.func45, c45⟩, List.forall_mem_cons.2 ⟨⟨Tryz.func15, c15⟩, List.forall_mem_cons.2 ⟨⟨Tryz.func144, c144⟩, List.forall_mem_cons.2 ⟨⟨Tryz.func89, c89⟩, List.forall_mem_cons.2 ⟨⟨Tryz.func139, c139⟩, List.forall_mem_cons.2 ⟨⟨Tryz.func142, c142⟩, List.forall_mem_cons.2 ⟨⟨Tryz.func145, c145⟩, List.forall_mem_cons.2 ⟨⟨Tryz.func54, c54⟩, List.forall_mem_cons.2 ⟨⟨Tryz.func180, c180⟩, List.forall_mem_cons.2 ⟨⟨Tryz.func136, c136⟩, List.forall_mem_cons.2 ⟨⟨Tryz.func137, c137⟩, List.forall_mem_cons.2 ⟨⟨Tryz.func177, c177⟩, List.forall_mem_cons.2 ⟨⟨Tryz.func92, c92⟩, List.forall_mem_cons.2 ⟨⟨Tryz.func93, c93⟩, List.forall_mem_cons.2 ⟨⟨Tryz.func94, c94⟩, List.forall_mem_cons.2 ⟨⟨Tryz.func95, c95⟩, List.forall_mem_cons.2 ⟨⟨Tryz.func96, c96⟩, List.forall_mem_cons.2 ⟨⟨Tryz.func97, c97⟩, List.forall_mem_cons.2 ⟨⟨Tryz.func120, c120⟩, List.forall_mem_cons.2 ⟨⟨Tryz.func134, c134⟩, List.forall_mem_cons.2 ⟨⟨Tryz.func133, c133⟩, List.forall_mem_cons.2 ⟨⟨Tryz.func146, c146⟩, List.forall_mem_cons.2 ⟨⟨Tryz.func122, c122⟩, List.forall_mem_cons.2 ⟨⟨Tryz.func147, c147⟩, List.forall_mem_cons.2 ⟨⟨Tryz.func148, c148⟩, List.forall_mem_cons.2 ⟨⟨Tryz.func149, c149⟩, List.forall_mem_cons.2 ⟨⟨Tryz.func130, c130⟩, List.forall_mem_cons.2 ⟨⟨Tryz.func192, c192⟩, List.forall_mem_cons.2 ⟨⟨Tryz.func168, c168⟩, List.forall_mem_cons.2 ⟨⟨Tryz.func165, c165⟩, List.forall_mem_cons.2 ⟨⟨Tryz.func166, c166⟩, List.forall_mem_cons.2 ⟨⟨Tryz.func167, c167⟩, List.forall_mem_cons.2 ⟨⟨Tryz.func79, c79⟩, List.forall_mem_cons.2 ⟨⟨Tryz.func208, c208⟩, List.forall_mem_cons.2 ⟨⟨Tryz.func169, c169⟩, List.forall_mem_cons.2 ⟨⟨Tryz.func220, c220⟩, List.forall_mem_cons.2 ⟨⟨Tryz.func80, c80⟩, List.forall_mem_cons.2 ⟨⟨Tryz.func124, c124⟩, List.forall_mem_cons.2 ⟨⟨Tryz.func125, c125⟩, List.forall_mem_cons.2 ⟨⟨Tryz.func126, c126⟩, List.forall_mem_cons.2 ⟨⟨Tryz.func127, c127⟩, List.forall_mem_cons.2 ⟨⟨Tryz.func128, c128⟩, List.forall_mem_cons.2 ⟨⟨Tryz.func129, c129⟩, List.forall_mem_cons.2 ⟨⟨Tryz.func156, c156⟩, List.forall_mem_cons.2 ⟨⟨Tryz.func158, c158⟩, List.forall_mem_cons.2 ⟨⟨Tryz.func159, c159⟩, List.forall_mem_cons.2 ⟨⟨Tryz.func160, c160⟩, List.forall_mem_cons.2 ⟨⟨Tryz.func161, c161⟩, List.forall_mem_cons.2 ⟨⟨Tryz.func162, c162⟩, List.forall_mem_cons.2 ⟨⟨Tryz.func164, c164⟩, List.forall_mem_cons.2 ⟨⟨Tryz.func184, c184⟩, List.forall_mem_cons.2 ⟨⟨Tryz.func185, c185⟩, List.forall_mem_cons.2 ⟨⟨Tryz.func187, c187⟩, List.forall_mem_cons.2 ⟨⟨Tryz.func205, c205⟩, List.forall_mem_cons.2 ⟨⟨Tryz.func207, c207⟩, List.forall_mem_cons.2 ⟨⟨Tryz.func191, c191⟩, List.forall_mem_cons.2 ⟨⟨Tryz.func21, c21⟩, List.forall_mem_cons.2 ⟨⟨Tryz.func63, c63⟩, List.forall_mem_cons.2 ⟨⟨Tryz.func106, c106⟩, List.forall_mem_cons.2 ⟨⟨Tryz.func107, c107⟩, List.forall_mem_cons.2 ⟨⟨Tryz.func152, c152⟩, List.forall_mem_cons.2 ⟨⟨Tryz.func82, c82⟩, List.forall_mem_cons.2 ⟨⟨Tryz.func76, c76⟩, List.forall_mem_cons.2 ⟨⟨Tryz.func186, c186⟩, List.forall_mem_cons.2 ⟨⟨Tryz.func163, c163⟩, fun _ h => by simp at h⟩⟩⟩⟩⟩⟩⟩⟩⟩⟩⟩⟩⟩⟩⟩⟩⟩⟩⟩⟩⟩⟩⟩⟩⟩⟩⟩⟩⟩⟩⟩⟩⟩⟩⟩⟩⟩⟩⟩⟩⟩⟩⟩⟩⟩⟩⟩⟩⟩⟩⟩⟩⟩⟩⟩⟩⟩⟩⟩⟩⟩⟩⟩⟩⟩⟩
noncomputable def envC : EEnv := ⟨G, mapsT, fnsO, kindsT, orcC, [159]⟩
theorem envC_good : envC.Good Tryz.prog := ⟨G_good, mapsT_ok, fnsO_ok, kindsT_ok, orcC_ok, by kernel_rfl, fun t h => by
 obtain rfl := List.mem_singleton.1 h
 exact ⟨_, Tryz.underlying159⟩⟩
def oG : ForM := ⟨[⟨0, ⟨#[]⟩, ⟨#[]⟩, ⟨#[]⟩, [], -1, [1], -1, -1, 0⟩, ⟨1, wDiv, ⟨#[]⟩, ⟨#[]⟩, [], 0, [2, 5], -1, -1, 0⟩, ⟨1, wForm, ⟨#[]⟩, ⟨#[]⟩, [⟨wId, wEf⟩], 1, [3], -1, -1, 0⟩, ⟨1, wPe, ⟨#[]⟩, ⟨#[]⟩, [], 2, [4], -1, -1, 0⟩, ⟨1, wInp, ⟨#[]⟩, ⟨#[]⟩, [], 3, [], -1, -1, 0⟩, ⟨1, wInp, ⟨#[]⟩, ⟨#[]⟩, [⟨wForm, wEf⟩], 1, [], -1, -1, 0⟩], 9⟩
theorem oF_small : SmallN oF.nodes := ⟨by decide, by decide, by decide, by decide⟩
theorem oG_small : SmallN oG.nodes := ⟨by decide, by decide, by decide, by decide⟩
def oA0 : Ans := ⟨104, [.live 10 [.agg [.lit (.int .i64 (0)), .lit (.string ⟨⟨[]⟩⟩), .lit (.string ⟨⟨[]⟩⟩), .lit (.string ⟨⟨[]⟩⟩), .sl 2 [], .lit (.int .i64 (-1)), .own 1 0 1, .lit (.int .i64 (-1)), .lit (.int .i64 (-1)), .lit (.int .i64 (0))], .agg [.lit (.int .i64 (1)), .lit (.string ⟨⟨[100, 105, 118]⟩⟩), .lit (.string ⟨⟨[]⟩⟩), .lit (.string ⟨⟨[]⟩⟩), .sl 2 [], .lit (.int .i64 (0)), .own 2 0 2, .lit (.int .i64 (-1)), .lit (.int .i64 (-1)), .lit (.int .i64 (0))], .agg [.lit (.int .i64 (1)), .lit (.string ⟨⟨[102, 111, 114, 109]⟩⟩), .lit (.string ⟨⟨[]⟩⟩), .lit (.string ⟨⟨[]⟩⟩), .sl 2 [.agg [.lit (.string ⟨⟨[105, 100]⟩⟩), .lit (.string ⟨⟨[102]⟩⟩)]], .lit (.int .i64 (1)), .own 3 0 1, .lit (.int .i64 (-1)), .lit (.int .i64 (-1)), .lit (.int .i64 (0))], .agg [.lit (.int .i64 (1)), .lit (.string ⟨⟨[112]⟩⟩), .lit (.string ⟨⟨[]⟩⟩), .lit (.string ⟨⟨[]⟩⟩), .sl 2 [], .lit (.int .i64 (2)), .own 4 0 1, .lit (.int .i64 (-1)), .lit (.int .i64 (-1)), .lit (.int .i64 (0))], .agg [.lit (.int .i64 (1)), .lit (.string ⟨⟨[105, 110, 112, 117, 116]⟩⟩), .lit (.string ⟨⟨[]⟩⟩), .lit (.string ⟨⟨[]⟩⟩), .sl 2 [], .lit (.int .i64 (3)), .own 5 0 0, .lit (.int .i64 (-1)), .lit (.int .i64 (-1)), .lit (.int .i64 (0))], .agg [.lit (.int .i64 (1)), .lit (.string ⟨⟨[105, 110, 112, 117, 116]⟩⟩), .lit (.string ⟨⟨[]⟩⟩), .lit (.string ⟨⟨[]⟩⟩), .sl 2 [.agg [.lit (.string ⟨⟨[102, 111, 114, 109]⟩⟩), .lit (.string ⟨⟨[102]⟩⟩)]], .lit (.int .i64 (1)), .own 6 0 0, .lit (.int .i64 (-1)), .lit (.int .i64 (-1)), .lit (.int .i64 (0))]] false, .live 1 [.lit (.int .i64 (1))] false, .live 1 [.lit (.int .i64 (2)), .lit (.int .i64 (5))] false, .live 1 [.lit (.int .i64 (3))] false, .live 1 [.lit (.int .i64 (4))] false, .live 1 [] false, .live 1 [] false], [.agg [.own 0 0 6, .lit (.int .i64 (9))], .lit (.int .i64 (1))], [.live 10 [.agg [.lit (.int .i64 (0)), .lit (.string ⟨⟨[]⟩⟩), .lit (.string ⟨⟨[]⟩⟩), .lit (.string ⟨⟨[]⟩⟩), .sl 2 [], .lit (.int .i64 (-1)), .own 1 0 1, .lit (.int .i64 (-1)), .lit (.int .i64 (-1)), .lit (.int .i64 (0))], .agg [.lit (.int .i64 (1)), .lit (.string ⟨⟨[100, 105, 118]⟩⟩), .lit (.string ⟨⟨[]⟩⟩), .lit (.string ⟨⟨[]⟩⟩), .sl 2 [], .lit (.int .i64 (0)), .own 2 0 2, .lit (.int .i64 (-1)), .lit (.int .i64 (-1)), .lit (.int .i64 (0))], .agg [.lit (.int .i64 (1)), .lit (.string ⟨⟨[102, 111, 114, 109]⟩⟩), .lit (.string ⟨⟨[]⟩⟩), .lit (.string ⟨⟨[]⟩⟩), .sl 2 [.agg [.lit (.string ⟨⟨[105, 100]⟩⟩), .lit (.string ⟨⟨[102]⟩⟩)]], .lit (.int .i64 (1)), .own 3 0 1, .lit (.int .i64 (-1)), .lit (.int .i64 (-1)), .lit (.int .i64 (0))], .agg [.lit (.int .i64 (1)), .lit (.string ⟨⟨[112]⟩⟩), .lit (.string ⟨⟨[]⟩⟩), .lit (.string ⟨⟨[]⟩⟩), .sl 2 [], .lit (.int .i64 (2)), .own 4 0 1, .lit (.int .i64 (-1)), .lit (.int .i64 (-1)), .lit (.int .i64 (0))], .agg [.lit (.int .i64 (1)), .lit (.string ⟨⟨[105, 110, 112, 117, 116]⟩⟩), .lit (.string ⟨⟨[]⟩⟩), .lit (.string ⟨⟨[]⟩⟩), .sl 2 [], .lit (.int .i64 (3)), .own 5 0 0, .lit (.int .i64 (-1)), .lit (.int .i64 (-1)), .lit (.int .i64 (0))], .agg [.lit (.int .i64 (1)), .lit (.string ⟨⟨[105, 110, 112, 117, 116]⟩⟩), .lit (.string ⟨⟨[]⟩⟩), .lit (.string ⟨⟨[]⟩⟩), .sl 2 [.agg [.lit (.string ⟨⟨[102, 111, 114, 109]⟩⟩), .lit (.string ⟨⟨[102]⟩⟩)]], .lit (.int .i64 (1)), .own 6 0 0, .lit (.int .i64 (-1)), .lit (.int .i64 (-1)), .lit (.int .i64 (0))]] false, .live 1 [.lit (.int .i64 (1))] false, .live 1 [.lit (.int .i64 (2)), .lit (.int .i64 (5))] false, .live 1 [.lit (.int .i64 (3))] false, .live 1 [.lit (.int .i64 (4))] false, .live 1 [] false, .live 1 [] false, .live 1 [.lit (.int .i64 (1)), .lit (.int .i64 (2)), .lit (.int .i64 (3)), .lit (.int .i64 (4)), .lit (.int .i64 (5))] false], .own 7 0 5⟩
theorem oA0_ok : oA0.OK Tryz.prog := by
 refine ⟨?_, c104⟩
 have h := f104_own oG oG_small 1 (by kernel_rfl)
 rw [show allU oG 1 = [1, 2, 3, 4, 5] from by kernel_rfl] at h
 have nil2 : ∀ wd, NilK (.sl wd []) := fun wd => .inr (.inr ⟨wd, rfl⟩)
 refine FnOK.thawNew (args' := oA0.args) (ins := oA0.ins) (objsR 0 oA0.ins) [0, 1, 2, 3, 4, 5, 6] ?_ h (by decide) ?_ ?_
 ·funext t
  match t with
  | 0 => rfl
  | 1 => rfl
  | 2 => rfl
  | 3 => rfl
  | 4 => rfl
  | 5 => rfl
  | 6 => rfl
  | n + 7 => rfl
 ·intro r hr cs e
  obtain ⟨n, _, hn⟩ := List.mem_map.1 (show r ∈ ([1, 2, 3, 4, 5] : List Int).map oInt from hr)
  rw [← hn] at e
  cases e
 ·refine ⟨⟨⟨10, _, _, _, rfl, rfl, rfl, by decide, rfl, RowsM.of ⟨?_, ?_, ?_, ?_, ?_, ?_, trivial⟩⟩, rfl, trivial⟩, rfl, trivial⟩
  ·exact ⟨rfl, rfl, rfl, rfl, rfl, rfl, ⟨1, _, _, _, rfl, rfl, rfl, by decide, rfl, RowsM.of ⟨rfl, trivial⟩⟩, rfl, rfl, rfl, trivial⟩
  ·exact ⟨rfl, rfl, rfl, rfl, rfl, rfl, ⟨1, _, _, _, rfl, rfl, rfl, by decide, rfl, RowsM.of ⟨rfl, rfl, trivial⟩⟩, rfl, rfl, rfl, trivial⟩
  ·exact ⟨rfl, rfl, rfl, rfl, rfl, rfl, ⟨1, _, _, _, rfl, rfl, rfl, by decide, rfl, RowsM.of ⟨rfl, trivial⟩⟩, rfl, rfl, rfl, trivial⟩
  ·exact ⟨rfl, rfl, rfl, rfl, rfl, rfl, ⟨1, _, _, _, rfl, rfl, rfl, by decide, rfl, RowsM.of ⟨rfl, trivial⟩⟩, rfl, rfl, rfl, trivial⟩
  ·exact ⟨rfl, rfl, rfl, rfl, rfl, rfl, ⟨1, _, _, _, rfl, rfl, rfl, by decide, rfl, RowsM.of trivial⟩, rfl, rfl, rfl, trivial⟩
  ·exact ⟨rfl, rfl, rfl, rfl, rfl, rfl, ⟨1, _, _, _, rfl, rfl, rfl, by decide, rfl, RowsM.of trivial⟩, rfl, rfl, rfl, trivial⟩
def oB0 : Ans := ⟨15, [], [.agg [.sl 10 [.agg [.lit (.int .i64 (0)), .lit (.string ⟨⟨[]⟩⟩), .lit (.string ⟨⟨[]⟩⟩), .lit (.string ⟨⟨[]⟩⟩), .sl 2 [], .lit (.int .i64 (-1)), .sl 1 [], .lit (.int .i64 (-1)), .lit (.int .i64 (-1)), .lit (.int .i64 (0))], .agg [.lit (.int .i64 (1)), .lit (.string ⟨⟨[100, 105, 118]⟩⟩), .lit (.string ⟨⟨[]⟩⟩), .lit (.string ⟨⟨[]⟩⟩), .sl 2 [], .lit (.int .i64 (-1)), .sl 1 [.lit (.int .i64 (2)), .lit (.int .i64 (5))], .lit (.int .i64 (-1)), .lit (.int .i64 (-1)), .lit (.int .i64 (0))], .agg [.lit (.int .i64 (1)), .lit (.string ⟨⟨[102, 111, 114, 109]⟩⟩), .lit (.string ⟨⟨[]⟩⟩), .lit (.string ⟨⟨[]⟩⟩), .sl 2 [.agg [.lit (.string ⟨⟨[105, 100]⟩⟩), .lit (.string ⟨⟨[102]⟩⟩)]], .lit (.int .i64 (1)), .sl 1 [.lit (.int .i64 (3))], .lit (.int .i64 (-1)), .lit (.int .i64 (-1)), .lit (.int .i64 (0))], .agg [.lit (.int .i64 (1)), .lit (.string ⟨⟨[112]⟩⟩), .lit (.string ⟨⟨[]⟩⟩), .lit (.string ⟨⟨[]⟩⟩), .sl 2 [], .lit (.int .i64 (2)), .sl 1 [.lit (.int .i64 (4))], .lit (.int .i64 (-1)), .lit (.int .i64 (-1)), .lit (.int .i64 (0))], .agg [.lit (.int .i64 (1)), .lit (.string ⟨⟨[105, 110, 112, 117, 116]⟩⟩), .lit (.string ⟨⟨[]⟩⟩), .lit (.string ⟨⟨[]⟩⟩), .sl 2 [], .lit (.int .i64 (3)), .sl 1 [], .lit (.int .i64 (-1)), .lit (.int .i64 (-1)), .lit (.int .i64 (0))], .agg [.lit (.int .i64 (1)), .lit (.string ⟨⟨[105, 110, 112, 117, 116]⟩⟩), .lit (.string ⟨⟨[]⟩⟩), .lit (.string ⟨⟨[]⟩⟩), .sl 2 [.agg [.lit (.string ⟨⟨[102, 111, 114, 109]⟩⟩), .lit (.string ⟨⟨[102]⟩⟩)]], .lit (.int .i64 (1)), .sl 1 [], .lit (.int .i64 (-1)), .lit (.int .i64 (-1)), .lit (.int .i64 (0))]], .lit (.int .i64 (9))]], [], .lit (.bool true)⟩
theorem oB0_ok : oB0.OK Tryz.prog := by
 refine ⟨?_, c15⟩
 have h := f15_ok oF oF_small
 rw [show rightF oF = true from by kernel_rfl] at h
 exact h
def oB1 : Ans := ⟨15, [.live 10 [.agg [.lit (.int .i64 (0)), .lit (.string ⟨⟨[]⟩⟩), .lit (.string ⟨⟨[]⟩⟩), .lit (.string ⟨⟨[]⟩⟩), .sl 2 [], .lit (.int .i64 (-1)), .own 1 0 0, .lit (.int .i64 (-1)), .lit (.int .i64 (-1)), .lit (.int .i64 (0))], .agg [.lit (.int .i64 (1)), .lit (.string ⟨⟨[100, 105, 118]⟩⟩), .lit (.string ⟨⟨[]⟩⟩), .lit (.string ⟨⟨[]⟩⟩), .sl 2 [], .lit (.int .i64 (-1)), .own 2 0 2, .lit (.int .i64 (-1)), .lit (.int .i64 (-1)), .lit (.int .i64 (0))], .agg [.lit (.int .i64 (1)), .lit (.string ⟨⟨[102, 111, 114, 109]⟩⟩), .lit (.string ⟨⟨[]⟩⟩), .lit (.string ⟨⟨[]⟩⟩), .sl 2 [.agg [.lit (.string ⟨⟨[105, 100]⟩⟩), .lit (.string ⟨⟨[102]⟩⟩)]], .lit (.int .i64 (1)), .own 3 0 1, .lit (.int .i64 (-1)), .lit (.int .i64 (-1)), .lit (.int .i64 (0))], .agg [.lit (.int .i64 (1)), .lit (.string ⟨⟨[112]⟩⟩), .lit (.string ⟨⟨[]⟩⟩), .lit (.string ⟨⟨[]⟩⟩), .sl 2 [], .lit (.int .i64 (2)), .own 4 0 1, .lit (.int .i64 (-1)), .lit (.int .i64 (-1)), .lit (.int .i64 (0))], .agg [.lit (.int .i64 (1)), .lit (.string ⟨⟨[105, 110, 112, 117, 116]⟩⟩), .lit (.string ⟨⟨[]⟩⟩), .lit (.string ⟨⟨[]⟩⟩), .sl 2 [], .lit (.int .i64 (3)), .own 5 0 0, .lit (.int .i64 (-1)), .lit (.int .i64 (-1)), .lit (.int .i64 (0))], .agg [.lit (.int .i64 (1)), .lit (.string ⟨⟨[105, 110, 112, 117, 116]⟩⟩), .lit (.string ⟨⟨[]⟩⟩), .lit (.string ⟨⟨[]⟩⟩), .sl 2 [.agg [.lit (.string ⟨⟨[102, 111, 114, 109]⟩⟩), .lit (.string ⟨⟨[102]⟩⟩)]], .lit (.int .i64 (1)), .own 6 0 0, .lit (.int .i64 (-1)), .lit (.int .i64 (-1)), .lit (.int .i64 (0))]] false, .live 1 [] false, .live 1 [.lit (.int .i64 (2)), .lit (.int .i64 (5))] false, .live 1 [.lit (.int .i64 (3))] false, .live 1 [.lit (.int .i64 (4))] false, .live 1 [] false, .live 1 [] false], [.agg [.own 0 0 6, .lit (.int .i64 (9))]], [.live 10 [.agg [.lit (.int .i64 (0)), .lit (.string ⟨⟨[]⟩⟩), .lit (.string ⟨⟨[]⟩⟩), .lit (.string ⟨⟨[]⟩⟩), .sl 2 [], .lit (.int .i64 (-1)), .own 1 0 0, .lit (.int .i64 (-1)), .lit (.int .i64 (-1)), .lit (.int .i64 (0))], .agg [.lit (.int .i64 (1)), .lit (.string ⟨⟨[100, 105, 118]⟩⟩), .lit (.string ⟨⟨[]⟩⟩), .lit (.string ⟨⟨[]⟩⟩), .sl 2 [], .lit (.int .i64 (-1)), .own 2 0 2, .lit (.int .i64 (-1)), .lit (.int .i64 (-1)), .lit (.int .i64 (0))], .agg [.lit (.int .i64 (1)), .lit (.string ⟨⟨[102, 111, 114, 109]⟩⟩), .lit (.string ⟨⟨[]⟩⟩), .lit (.string ⟨⟨[]⟩⟩), .sl 2 [.agg [.lit (.string ⟨⟨[105, 100]⟩⟩), .lit (.string ⟨⟨[102]⟩⟩)]], .lit (.int .i64 (1)), .own 3 0 1, .lit (.int .i64 (-1)), .lit (.int .i64 (-1)), .lit (.int .i64 (0))], .agg [.lit (.int .i64 (1)), .lit (.string ⟨⟨[112]⟩⟩), .lit (.string ⟨⟨[]⟩⟩), .lit (.string ⟨⟨[]⟩⟩), .sl 2 [], .lit (.int .i64 (2)), .own 4 0 1, .lit (.int .i64 (-1)), .lit (.int .i64 (-1)), .lit (.int .i64 (0))], .agg [.lit (.int .i64 (1)), .lit (.string ⟨⟨[105, 110, 112, 117, 116]⟩⟩), .lit (.string ⟨⟨[]⟩⟩), .lit (.string ⟨⟨[]⟩⟩), .sl 2 [], .lit (.int .i64 (3)), .own 5 0 0, .lit (.int .i64 (-1)), .lit (.int .i64 (-1)), .lit (.int .i64 (0))], .agg [.lit (.int .i64 (1)), .lit (.string ⟨⟨[105, 110, 112, 117, 116]⟩⟩), .lit (.string ⟨⟨[]⟩⟩), .lit (.string ⟨⟨[]⟩⟩), .sl 2 [.agg [.lit (.string ⟨⟨[102, 111, 114, 109]⟩⟩), .lit (.string ⟨⟨[102]⟩⟩)]], .lit (.int .i64 (1)), .own 6 0 0, .lit (.int .i64 (-1)), .lit (.int .i64 (-1)), .lit (.int .i64 (0))]] false, .live 1 [] false, .live 1 [.lit (.int .i64 (2)), .lit (.int .i64 (5))] false, .live 1 [.lit (.int .i64 (3))] false, .live 1 [.lit (.int .i64 (4))] false, .live 1 [] false, .live 1 [] false], .lit (.bool true)⟩
theorem oB1_ok : oB1.OK Tryz.prog := by
 refine ⟨?_, c15⟩
 have h := f15_ok oF oF_small
 rw [show rightF oF = true from by kernel_rfl] at h
 have nil2 : ∀ wd, NilK (.sl wd []) := fun wd => .inr (.inr ⟨wd, rfl⟩)
 refine FnOK.thaw (args' := oB1.args) (ins := oB1.ins) (objsR 0 oB1.ins) [0, 1, 2, 3, 4, 5, 6] ?_ h rfl ?_
 ·funext t
  match t with
  | 0 => rfl
  | 1 => rfl
  | 2 => rfl
  | 3 => rfl
  | 4 => rfl
  | 5 => rfl
  | 6 => rfl
  | n + 7 => rfl
 ·refine ⟨⟨⟨10, _, _, _, rfl, rfl, rfl, by decide, rfl, RowsM.of ⟨?_, ?_, ?_, ?_, ?_, ?_, trivial⟩⟩, rfl, trivial⟩, trivial⟩
  ·exact ⟨rfl, rfl, rfl, rfl, rfl, rfl, ⟨1, _, _, _, rfl, rfl, rfl, by decide, rfl, RowsM.of trivial⟩, rfl, rfl, rfl, trivial⟩
  ·exact ⟨rfl, rfl, rfl, rfl, rfl, rfl, ⟨1, _, _, _, rfl, rfl, rfl, by decide, rfl, RowsM.of ⟨rfl, rfl, trivial⟩⟩, rfl, rfl, rfl, trivial⟩
  ·exact ⟨rfl, rfl, rfl, rfl, rfl, rfl, ⟨1, _, _, _, rfl, rfl, rfl, by decide, rfl, RowsM.of ⟨rfl, trivial⟩⟩, rfl, rfl, rfl, trivial⟩
  ·exact ⟨rfl, rfl, rfl, rfl, rfl, rfl, ⟨1, _, _, _, rfl, rfl, rfl, by decide, rfl, RowsM.of ⟨rfl, trivial⟩⟩, rfl, rfl, rfl, trivial⟩
  ·exact ⟨rfl, rfl, rfl, rfl, rfl, rfl, ⟨1, _, _, _, rfl, rfl, rfl, by decide, rfl, RowsM.of trivial⟩, rfl, rfl, rfl, trivial⟩
  ·exact ⟨rfl, rfl, rfl, rfl, rfl, rfl, ⟨1, _, _, _, rfl, rfl, rfl, by decide, rfl, RowsM.of trivial⟩, rfl, rfl, rfl, trivial⟩
def oB2 : Ans := ⟨15, [.live 10 [.agg [.lit (.int .i64 (0)), .lit (.string ⟨⟨[]⟩⟩), .lit (.string ⟨⟨[]⟩⟩), .lit (.string ⟨⟨[]⟩⟩), .sl 2 [], .lit (.int .i64 (-1)), .own 1 0 1, .lit (.int .i64 (-1)), .lit (.int .i64 (-1)), .lit (.int .i64 (0))], .agg [.lit (.int .i64 (1)), .lit (.string ⟨⟨[100, 105, 118]⟩⟩), .lit (.string ⟨⟨[]⟩⟩), .lit (.string ⟨⟨[]⟩⟩), .sl 2 [], .lit (.int .i64 (0)), .own 2 0 2, .lit (.int .i64 (-1)), .lit (.int .i64 (-1)), .lit (.int .i64 (0))], .agg [.lit (.int .i64 (1)), .lit (.string ⟨⟨[102, 111, 114, 109]⟩⟩), .lit (.string ⟨⟨[]⟩⟩), .lit (.string ⟨⟨[]⟩⟩), .sl 2 [.agg [.lit (.string ⟨⟨[105, 100]⟩⟩), .lit (.string ⟨⟨[102]⟩⟩)]], .lit (.int .i64 (1)), .own 3 0 1, .lit (.int .i64 (-1)), .lit (.int .i64 (-1)), .lit (.int .i64 (0))], .agg [.lit (.int .i64 (1)), .lit (.string ⟨⟨[112]⟩⟩), .lit (.string ⟨⟨[]⟩⟩), .lit (.string ⟨⟨[]⟩⟩), .sl 2 [], .lit (.int .i64 (2)), .own 4 0 1, .lit (.int .i64 (-1)), .lit (.int .i64 (-1)), .lit (.int .i64 (0))], .agg [.lit (.int .i64 (1)), .lit (.string ⟨⟨[105, 110, 112, 117, 116]⟩⟩), .lit (.string ⟨⟨[]⟩⟩), .lit (.string ⟨⟨[]⟩⟩), .sl 2 [], .lit (.int .i64 (3)), .own 5 0 0, .lit (.int .i64 (-1)), .lit (.int .i64 (-1)), .lit (.int .i64 (0))], .agg [.lit (.int .i64 (1)), .lit (.string ⟨⟨[105, 110, 112, 117, 116]⟩⟩), .lit (.string ⟨⟨[]⟩⟩), .lit (.string ⟨⟨[]⟩⟩), .sl 2 [.agg [.lit (.string ⟨⟨[102, 111, 114, 109]⟩⟩), .lit (.string ⟨⟨[102]⟩⟩)]], .lit (.int .i64 (1)), .own 6 0 0, .lit (.int .i64 (-1)), .lit (.int .i64 (-1)), .lit (.int .i64 (0))]] false, .live 1 [.lit (.int .i64 (1))] false, .live 1 [.lit (.int .i64 (2)), .lit (.int .i64 (5))] false, .live 1 [.lit (.int .i64 (3))] false, .live 1 [.lit (.int .i64 (4))] false, .live 1 [] false, .live 1 [] false], [.agg [.own 0 0 6, .lit (.int .i64 (9))]], [.live 10 [.agg [.lit (.int .i64 (0)), .lit (.string ⟨⟨[]⟩⟩), .lit (.string ⟨⟨[]⟩⟩), .lit (.string ⟨⟨[]⟩⟩), .sl 2 [], .lit (.int .i64 (-1)), .own 1 0 1, .lit (.int .i64 (-1)), .lit (.int .i64 (-1)), .lit (.int .i64 (0))], .agg [.lit (.int .i64 (1)), .lit (.string ⟨⟨[100, 105, 118]⟩⟩), .lit (.string ⟨⟨[]⟩⟩), .lit (.string ⟨⟨[]⟩⟩), .sl 2 [], .lit (.int .i64 (0)), .own 2 0 2, .lit (.int .i64 (-1)), .lit (.int .i64 (-1)), .lit (.int .i64 (0))], .agg [.lit (.int .i64 (1)), .lit (.string ⟨⟨[102, 111, 114, 109]⟩⟩), .lit (.string ⟨⟨[]⟩⟩), .lit (.string ⟨⟨[]⟩⟩), .sl 2 [.agg [.lit (.string ⟨⟨[105, 100]⟩⟩), .lit (.string ⟨⟨[102]⟩⟩)]], .lit (.int .i64 (1)), .own 3 0 1, .lit (.int .i64 (-1)), .lit (.int .i64 (-1)), .lit (.int .i64 (0))], .agg [.lit (.int .i64 (1)), .lit (.string ⟨⟨[112]⟩⟩), .lit (.string ⟨⟨[]⟩⟩), .lit (.string ⟨⟨[]⟩⟩), .sl 2 [], .lit (.int .i64 (2)), .own 4 0 1, .lit (.int .i64 (-1)), .lit (.int .i64 (-1)), .lit (.int .i64 (0))], .agg [.lit (.int .i64 (1)), .lit (.string ⟨⟨[105, 110, 112, 117, 116]⟩⟩), .lit (.string ⟨⟨[]⟩⟩), .lit (.string ⟨⟨[]⟩⟩), .sl 2 [], .lit (.int .i64 (3)), .own 5 0 0, .lit (.int .i64 (-1)), .lit (.int .i64 (-1)), .lit (.int .i64 (0))], .agg [.lit (.int .i64 (1)), .lit (.string ⟨⟨[105, 110, 112, 117, 116]⟩⟩), .lit (.string ⟨⟨[]⟩⟩), .lit (.string ⟨⟨[]⟩⟩), .sl 2 [.agg [.lit (.string ⟨⟨[102, 111, 114, 109]⟩⟩), .lit (.string ⟨⟨[102]⟩⟩)]], .lit (.int .i64 (1)), .own 6 0 0, .lit (.int .i64 (-1)), .lit (.int .i64 (-1)), .lit (.int .i64 (0))]] false, .live 1 [.lit (.int .i64 (1))] false, .live 1 [.lit (.int .i64 (2)), .lit (.int .i64 (5))] false, .live 1 [.lit (.int .i64 (3))] false, .live 1 [.lit (.int .i64 (4))] false, .live 1 [] false, .live 1 [] false], .lit (.bool true)⟩
theorem oB2_ok : oB2.OK Tryz.prog := by
 refine ⟨?_, c15⟩
 have h := f15_ok oG oG_small
 rw [show rightF oG = true from by kernel_rfl] at h
 have nil2 : ∀ wd, NilK (.sl wd []) := fun wd => .inr (.inr ⟨wd, rfl⟩)
 refine FnOK.thaw (args' := oB2.args) (ins := oB2.ins) (objsR 0 oB2.ins) [0, 1, 2, 3, 4, 5, 6] ?_ h rfl ?_
 ·funext t
  match t with
  | 0 => rfl
  | 1 => rfl
  | 2 => rfl
  | 3 => rfl
  | 4 => rfl
  | 5 => rfl
  | 6 => rfl
  | n + 7 => rfl
 ·refine ⟨⟨⟨10, _, _, _, rfl, rfl, rfl, by decide, rfl, RowsM.of ⟨?_, ?_, ?_, ?_, ?_, ?_, trivial⟩⟩, rfl, trivial⟩, trivial⟩
  ·exact ⟨rfl, rfl, rfl, rfl, rfl, rfl, ⟨1, _, _, _, rfl, rfl, rfl, by decide, rfl, RowsM.of ⟨rfl, trivial⟩⟩, rfl, rfl, rfl, trivial⟩
  ·exact ⟨rfl, rfl, rfl, rfl, rfl, rfl, ⟨1, _, _, _, rfl, rfl, rfl, by decide, rfl, RowsM.of ⟨rfl, rfl, trivial⟩⟩, rfl, rfl, rfl, trivial⟩
  ·exact ⟨rfl, rfl, rfl, rfl, rfl, rfl, ⟨1, _, _, _, rfl, rfl, rfl, by decide, rfl, RowsM.of ⟨rfl, trivial⟩⟩, rfl, rfl, rfl, trivial⟩
  ·exact ⟨rfl, rfl, rfl, rfl, rfl, rfl, ⟨1, _, _, _, rfl, rfl, rfl, by decide, rfl, RowsM.of ⟨rfl, trivial⟩⟩, rfl, rfl, rfl, trivial⟩
  ·exact ⟨rfl, rfl, rfl, rfl, rfl, rfl, ⟨1, _, _, _, rfl, rfl, rfl, by decide, rfl, RowsM.of trivial⟩, rfl, rfl, rfl, trivial⟩
  ·exact ⟨rfl, rfl, rfl, rfl, rfl, rfl, ⟨1, _, _, _, rfl, rfl, rfl, by decide, rfl, RowsM.of trivial⟩, rfl, rfl, rfl, trivial⟩
theorem oA_ok : ∀ r ∈ [oA0, oB0, oB1, oB2], r.OK Tryz.prog := Ans.cons oA0_ok (Ans.cons oB0_ok (Ans.cons oB1_ok (Ans.cons oB2_ok (fun _ h => by cases h))))
def oS : Ans := ⟨80, [], [.agg [.sl 10 [.agg [.lit (.int .i64 (0)), .lit (.string ⟨⟨[]⟩⟩), .lit (.string ⟨⟨[]⟩⟩), .lit (.string ⟨⟨[]⟩⟩), .sl 2 [], .lit (.int .i64 (-1)), .sl 1 [], .lit (.int .i64 (-1)), .lit (.int .i64 (-1)), .lit (.int .i64 (0))], .agg [.lit (.int .i64 (1)), .lit (.string ⟨⟨[100, 105, 118]⟩⟩), .lit (.string ⟨⟨[]⟩⟩), .lit (.string ⟨⟨[]⟩⟩), .sl 2 [], .lit (.int .i64 (-1)), .sl 1 [.lit (.int .i64 (2)), .lit (.int .i64 (5))], .lit (.int .i64 (-1)), .lit (.int .i64 (-1)), .lit (.int .i64 (0))], .agg [.lit (.int .i64 (1)), .lit (.string ⟨⟨[102, 111, 114, 109]⟩⟩), .lit (.string ⟨⟨[]⟩⟩), .lit (.string ⟨⟨[]⟩⟩), .sl 2 [.agg [.lit (.string ⟨⟨[105, 100]⟩⟩), .lit (.string ⟨⟨[102]⟩⟩)]], .lit (.int .i64 (1)), .sl 1 [.lit (.int .i64 (3))], .lit (.int .i64 (-1)), .lit (.int .i64 (-1)), .lit (.int .i64 (0))], .agg [.lit (.int .i64 (1)), .lit (.string ⟨⟨[112]⟩⟩), .lit (.string ⟨⟨[]⟩⟩), .lit (.string ⟨⟨[]⟩⟩), .sl 2 [], .lit (.int .i64 (2)), .sl 1 [.lit (.int .i64 (4))], .lit (.int .i64 (-1)), .lit (.int .i64 (-1)), .lit (.int .i64 (0))], .agg [.lit (.int .i64 (1)), .lit (.string ⟨⟨[105, 110, 112, 117, 116]⟩⟩), .lit (.string ⟨⟨[]⟩⟩), .lit (.string ⟨⟨[]⟩⟩), .sl 2 [], .lit (.int .i64 (3)), .sl 1 [], .lit (.int .i64 (-1)), .lit (.int .i64 (-1)), .lit (.int .i64 (0))], .agg [.lit (.int .i64 (1)), .lit (.string ⟨⟨[105, 110, 112, 117, 116]⟩⟩), .lit (.string ⟨⟨[]⟩⟩), .lit (.string ⟨⟨[]⟩⟩), .sl 2 [.agg [.lit (.string ⟨⟨[102, 111, 114, 109]⟩⟩), .lit (.string ⟨⟨[102]⟩⟩)]], .lit (.int .i64 (1)), .sl 1 [], .lit (.int .i64 (-1)), .lit (.int .i64 (-1)), .lit (.int .i64 (0))]], .lit (.int .i64 (9))], .lit (.int .i64 (1)), .lit (.int .i64 (0)), .lit (.int .i64 (-1))], [.live 10 [.agg [.lit (.int .i64 (0)), .lit (.string ⟨⟨[]⟩⟩), .lit (.string ⟨⟨[]⟩⟩), .lit (.string ⟨⟨[]⟩⟩), .sl 2 [], .lit (.int .i64 (-1)), .own 2 0 1, .lit (.int .i64 (-1)), .lit (.int .i64 (-1)), .lit (.int .i64 (0))], .agg [.lit (.int .i64 (1)), .lit (.string ⟨⟨[100, 105, 118]⟩⟩), .lit (.string ⟨⟨[]⟩⟩), .lit (.string ⟨⟨[]⟩⟩), .sl 2 [], .lit (.int .i64 (0)), .own 3 0 2, .lit (.int .i64 (-1)), .lit (.int .i64 (-1)), .lit (.int .i64 (0))], .agg [.lit (.int .i64 (1)), .lit (.string ⟨⟨[102, 111, 114, 109]⟩⟩), .lit (.string ⟨⟨[]⟩⟩), .lit (.string ⟨⟨[]⟩⟩), .sl 2 [.agg [.lit (.string ⟨⟨[105, 100]⟩⟩), .lit (.string ⟨⟨[102]⟩⟩)]], .lit (.int .i64 (1)), .own 4 0 1, .lit (.int .i64 (-1)), .lit (.int .i64 (-1)), .lit (.int .i64 (0))], .agg [.lit (.int .i64 (1)), .lit (.string ⟨⟨[112]⟩⟩), .lit (.string ⟨⟨[]⟩⟩), .lit (.string ⟨⟨[]⟩⟩), .sl 2 [], .lit (.int .i64 (2)), .own 5 0 1, .lit (.int .i64 (-1)), .lit (.int .i64 (-1)), .lit (.int .i64 (0))], .agg [.lit (.int .i64 (1)), .lit (.string ⟨⟨[105, 110, 112, 117, 116]⟩⟩), .lit (.string ⟨⟨[]⟩⟩), .lit (.string ⟨⟨[]⟩⟩), .sl 2 [], .lit (.int .i64 (3)), .own 6 0 0, .lit (.int .i64 (-1)), .lit (.int .i64 (-1)), .lit (.int .i64 (0))], .agg [.lit (.int .i64 (1)), .lit (.string ⟨⟨[105, 110, 112, 117, 116]⟩⟩), .lit (.string ⟨⟨[]⟩⟩), .lit (.string ⟨⟨[]⟩⟩), .sl 2 [.agg [.lit (.string ⟨⟨[102, 111, 114, 109]⟩⟩), .lit (.string ⟨⟨[102]⟩⟩)]], .lit (.int .i64 (1)), .own 7 0 0, .lit (.int .i64 (-1)), .lit (.int .i64 (-1)), .lit (.int .i64 (0))]] false, .live 9 [.agg [.lit (.int .i64 (1)), .lit (.int .i64 (1)), .lit (.int .i64 (0)), .lit (.int .i64 (0)), .lit (.string ⟨⟨[]⟩⟩), .lit (.bool false), .lit (.bool false), .lit (.string ⟨⟨[]⟩⟩), .lit (.string ⟨⟨[]⟩⟩)], .agg [.lit (.int .i64 (1)), .lit (.int .i64 (2)), .lit (.int .i64 (0)), .lit (.int .i64 (0)), .lit (.string ⟨⟨[]⟩⟩), .lit (.bool false), .lit (.bool false), .lit (.string ⟨⟨[]⟩⟩), .lit (.string ⟨⟨[]⟩⟩)], .agg [.lit (.int .i64 (1)), .lit (.int .i64 (3)), .lit (.int .i64 (0)), .lit (.int .i64 (0)), .lit (.string ⟨⟨[]⟩⟩), .lit (.bool false), .lit (.bool false), .lit (.string ⟨⟨[]⟩⟩), .lit (.string ⟨⟨[]⟩⟩)], .agg [.lit (.int .i64 (1)), .lit (.int .i64 (4)), .lit (.int .i64 (0)), .lit (.int .i64 (0)), .lit (.string ⟨⟨[]⟩⟩), .lit (.bool false), .lit (.bool false), .lit (.string ⟨⟨[]⟩⟩), .lit (.string ⟨⟨[]⟩⟩)], .agg [.lit (.int .i64 (1)), .lit (.int .i64 (5)), .lit (.int .i64 (0)), .lit (.int .i64 (0)), .lit (.string ⟨⟨[]⟩⟩), .lit (.bool false), .lit (.bool false), .lit (.string ⟨⟨[]⟩⟩), .lit (.string ⟨⟨[]⟩⟩)]] false, .live 1 [.lit (.int .i64 (1))] false, .live 1 [.lit (.int .i64 (2)), .lit (.int .i64 (5))] false, .live 1 [.lit (.int .i64 (3))] false, .live 1 [.lit (.int .i64 (4))] false, .live 1 [] false, .live 1 [] false], .tup [.agg [.own 0 0 6, .lit (.int .i64 (9))], .own 1 0 5, .lit (.int .i64 (0))]⟩
theorem oS_run : runF (envC.moreS [oA0, oB0, oB1, oB2]) 1000 60 oS.g oS.ins oS.args = some (oS.outs, oS.res) := by kernel_rfl
theorem oS_ok : oS.OK Tryz.prog := Ans.of (EEnv.moreS_good envC_good oA_ok) oS_run
def oNo : AV := .sl 9 [.agg [.lit (.int .i64 (1)), .lit (.int .i64 (1)), .lit (.int .i64 (0)), .lit (.int .i64 (0)), .lit (.string ⟨⟨[]⟩⟩), .lit (.bool false), .lit (.bool false), .lit (.string ⟨⟨[]⟩⟩), .lit (.string ⟨⟨[]⟩⟩)], .agg [.lit (.int .i64 (1)), .lit (.int .i64 (2)), .lit (.int .i64 (0)), .lit (.int .i64 (0)), .lit (.string ⟨⟨[]⟩⟩), .lit (.bool false), .lit (.bool false), .lit (.string ⟨⟨[]⟩⟩), .lit (.string ⟨⟨[]⟩⟩)], .agg [.lit (.int .i64 (1)), .lit (.int .i64 (3)), .lit (.int .i64 (0)), .lit (.int .i64 (0)), .lit (.string ⟨⟨[]⟩⟩), .lit (.bool false), .lit (.bool false), .lit (.string ⟨⟨[]⟩⟩), .lit (.string ⟨⟨[]⟩⟩)], .agg [.lit (.int .i64 (1)), .lit (.int .i64 (4)), .lit (.int .i64 (0)), .lit (.int .i64 (0)), .lit (.string ⟨⟨[]⟩⟩), .lit (.bool false), .lit (.bool false), .lit (.string ⟨⟨[]⟩⟩), .lit (.string ⟨⟨[]⟩⟩)], .agg [.lit (.int .i64 (1)), .lit (.int .i64 (5)), .lit (.int .i64 (0)), .lit (.int .i64 (0)), .lit (.string ⟨⟨[]⟩⟩), .lit (.bool false), .lit (.bool false), .lit (.string ⟨⟨[]⟩⟩), .lit (.string ⟨⟨[]⟩⟩)]]
theorem oins_ok : FnOK Tryz.prog 80 [] [eFor oF, eInt 1, eInt 0, eInt (-1)] [] (.tup [eFor oG, oNo, eInt 0]) := by
 have h := oS_ok.1
 have nil2 : ∀ wd, NilK (.sl wd []) := fun wd => .inr (.inr ⟨wd, rfl⟩)
 refine FnOK.frozen (objsR 0 oS.outs) ?_ (by kernel_rfl) h ?_
 ·funext t
  match t with
  | 0 => rfl
  | 1 => rfl
  | 2 => rfl
  | 3 => rfl
  | 4 => rfl
  | 5 => rfl
  | 6 => rfl
  | 7 => rfl
  | n + 8 => rfl
 ·refine ⟨⟨⟨10, _, _, _, rfl, rfl, rfl, by decide, rfl, RowsM.of ⟨?_, ?_, ?_, ?_, ?_, ?_, trivial⟩⟩, rfl, trivial⟩, ⟨9, _, _, _, rfl, rfl, rfl, by decide, rfl, RowsM.of ⟨⟨rfl, rfl, rfl, rfl, rfl, rfl, rfl, rfl, rfl, trivial⟩, ⟨rfl, rfl, rfl, rfl, rfl, rfl, rfl, rfl, rfl, trivial⟩, ⟨rfl, rfl, rfl, rfl, rfl, rfl, rfl, rfl, rfl, trivial⟩, ⟨rfl, rfl, rfl, rfl, rfl, rfl, rfl, rfl, rfl, trivial⟩, ⟨rfl, rfl, rfl, rfl, rfl, rfl, rfl, rfl, rfl, trivial⟩, trivial⟩⟩, rfl, trivial⟩
  ·exact ⟨rfl, rfl, rfl, rfl, rfl, rfl, ⟨1, _, _, _, rfl, rfl, rfl, by decide, rfl, RowsM.of ⟨rfl, trivial⟩⟩, rfl, rfl, rfl, trivial⟩
  ·exact ⟨rfl, rfl, rfl, rfl, rfl, rfl, ⟨1, _, _, _, rfl, rfl, rfl, by decide, rfl, RowsM.of ⟨rfl, rfl, trivial⟩⟩, rfl, rfl, rfl, trivial⟩
  ·exact ⟨rfl, rfl, rfl, rfl, rfl, rfl, ⟨1, _, _, _, rfl, rfl, rfl, by decide, rfl, RowsM.of ⟨rfl, trivial⟩⟩, rfl, rfl, rfl, trivial⟩
  ·exact ⟨rfl, rfl, rfl, rfl, rfl, rfl, ⟨1, _, _, _, rfl, rfl, rfl, by decide, rfl, RowsM.of ⟨rfl, trivial⟩⟩, rfl, rfl, rfl, trivial⟩
  ·exact ⟨rfl, rfl, rfl, rfl, rfl, rfl, ⟨1, _, _, _, rfl, rfl, rfl, by decide, rfl, RowsM.of trivial⟩, rfl, rfl, rfl, trivial⟩
  ·exact ⟨rfl, rfl, rfl, rfl, rfl, rfl, ⟨1, _, _, _, rfl, rfl, rfl, by decide, rfl, RowsM.of trivial⟩, rfl, rfl, rfl, trivial⟩
end Go.Proofs.Heir
namespace Go.Proofs.Heir
open Go Go.Am Go.RowKit Go.Shelf
set_option maxRecDepth 100000
set_option maxHeartbeats 8000000

end Go.Proofs.Heir
namespace Go.Proofs.Heir
open Go Go.Am Go.RowKit Go.Lib
set_option maxRecDepth 100000
set_option maxHeartbeats 8000000
structure DefM where
 name : ByteArray
 locl : ByteArray
 cls : Int
 deriving DecidableEq
structure WaitM where
 name : ByteArray
 ticket : Int
 deriving DecidableEq
structure DeskM where
 defs : List DefM
 waits : List WaitM
 next : Int
 busy : Bool
 deriving DecidableEq
def knowS (s : ByteArray) : Bool := hasW knowL s
def localB (x : DefM) : Bool := decide (x.locl = x.name) || knowS x.locl
def goodD (x : DefM) : Bool := customS x.name && localB x && decide (0 ≤ x.cls) && decide (x.cls < 12)
def hasN (s : ByteArray) (x : DefM) : Bool := decide (x.name = s)
def ixI {α : Type} (p : α → Bool) (l : List α) : Int := match l.findIdx? p with
 | some k => (k : Int)
 | none => -1
def posN (l : List DefM) (s : ByteArray) : Int := ixI (hasN s) l
def okW (l : List DefM) (next : Int) (w : WaitM) (last : Int) : Bool := customS w.name && decide (posN l w.name = -1) && decide (last < w.ticket) && decide (w.ticket < next)
def waitsB (l : List DefM) (next : Int) : Int → List WaitM → Bool
 | _, [] => true
 | last, w :: r => okW l next w last && waitsB l next w.ticket r
def defsB (l : List DefM) : Bool := l.all goodD && decide ((l.map DefM.name).Nodup) && decide ((l.map DefM.cls).Nodup)
def rightD (d : DeskM) : Bool := defsB d.defs && waitsB d.defs d.next (-1) d.waits && decide (0 ≤ d.next) && decide (d.next ≤ 100000)
def emptyS : ByteArray := ⟨#[]⟩

def xk (k : Nat) : ByteArray := ⟨#[120, 45, UInt8.ofNat (97 + k)]⟩
structure TellInv (d : DeskM) (i : Nat) : Prop where
 right : rightD d = true
 busy : d.busy = false
 names : ∀ w ∈ d.waits, ∃ k < 6, w.name = xk k
 next : d.next ≤ i
section
variable {K : Type} [DecidableEq K] (key : DefM → K)
end
theorem map62 : MapTy Tryz.prog 134 .string (.int .i64 0) := ⟨9, 3, by kernel_rfl, by kernel_rfl, fun w => Tryz.zeroValue3 w⟩


section
variable {d : DeskM} {k c : Int} {s base : ByteArray}
structure MayR (d : DeskM) (k c : Int) : Prop where
 r : rightD d = true
 c0 : 0 ≤ c
 ck : c < k
 c12 : c < 12
end
theorem e0 : (emptyS = (⟨⟨[]⟩⟩ : ByteArray)) = True := eq_true rfl



end Go.Proofs.Heir
section
namespace Go.Proofs.Heir
open Go Go.Am Go.RowKit Go.Lib
set_option maxRecDepth 100000
set_option maxHeartbeats 8000000
theorem list_same {α : Type} {x y : List α} (hl : x.length = y.length) (h : ∀ j, j < x.length → x[j]? = y[j]?) : x = y := by
 refine List.ext_getElem? fun j => ?_
 rcases Nat.lt_or_ge j x.length with h6 | h6
 ·exact h j h6
 ·rw [List.getElem?_eq_none h6, List.getElem?_eq_none (by omega)]
theorem same_succ {α : Type} {x y : List α} {k : Nat} (h : ∀ j, j < k → x[j]? = y[j]?) (hk : x[k]? = y[k]?) : ∀ j, j < k + 1 → x[j]? = y[j]? := fun j hj => by
 by_cases e : j = k
 ·rw [e]; exact hk
 ·exact h j (by omega)
set_option maxHeartbeats 8000000
theorem f45_ok (a b : List Int) (ha : a.length ≤ 100000) : FnOK Tryz.prog 45 [] [eInts a, eInts b] [] (eBool (decide (a = b))) := by
 have hlm : (a.map oInt).length = a.length := List.length_map ..
 have hlm' : (b.map oInt).length = b.length := List.length_map ..
 refine FnOK.startC (rvs := [.tmp 4]) G G_good Tryz.func45 rfl Tryz.ntmps45 rfl rfl ?_; with_reducible refine wD ?_
 by_cases g1 : a.length = b.length
 ·(have fct := And.intro hlm (And.intro hlm' (g1)); (repeat' (first
  | refine gF ?_ | refine aE ?_ ?_
  | apply trivial)); all_goals clear fct)
  refine LoopK.use G G_good (fun (k : Nat) => [(0, eInts a), (1, eInts b), (5, eInt k)]) (fun _ => []) (fun k => k ≤ a.length ∧ ∀ j, j < k → a[j]? = b[j]?) (fun k => a.length - k) 0 ⟨Nat.zero_le _, fun j hj => by omega⟩
   ⟨⟨rfl, rfl⟩, ⟨rfl, rfl, rfl, trivial⟩, trivial⟩ ?_
  intro k ⟨hk, hno⟩
  with_reducible refine wK ?_
  refine IfK.mk (fun h1 => ?_) (fun h1 => ?_) <;> (try simp only [castN] at h1) <;> with_reducible refine wK ?_
  ·simp only [hlm, decide_eq_true_eq] at h1
   have hk' : k < a.length := by omega
   obtain ⟨x, hx⟩ : ∃ x, a[k]? = some x := ⟨_, List.getElem?_eq_getElem hk'⟩
   obtain ⟨y, hy⟩ : ∃ y, b[k]? = some y := ⟨_, List.getElem?_eq_getElem (by omega)⟩
   refine IdxK.mk k (eInt x) rfl (int_get hx) ?_; with_reducible refine wK ?_
   refine IdxK.mk k (eInt y) rfl (int_get hy) ?_; with_reducible refine wK ?_
   by_cases e : x = y
   ·(have fct := e; (repeat' (first
  | refine gF ?_ | refine aE ?_ ?_
  | (((with_reducible show NextK _ _); refine NextK.mk (k + 1) ⟨by omega, same_succ hno (by rw [hx, hy, e])⟩ (by omega) ⟨⟨rfl, rfl⟩, ⟨rfl, rfl, by show ((k + 1 : Nat) : Int) = (k : Int) + 1; omega, trivial⟩, trivial⟩) <;> with_reducible refine wK ?_)
  | apply trivial)); all_goals clear fct)
   ·rw [show decide (a = b) = false from decide_eq_false fun h => e (by rw [h] at hx; rw [hx] at hy; exact Option.some.inj hy)]
    (have fct := e; (repeat' (first
  | refine gF ?_ | refine aE ?_ ?_
  | apply trivial)); all_goals clear fct)
  ·have hkl : k = a.length := by simp only [hlm, decide_eq_false_iff_not] at h1; omega
   subst hkl
   rw [show decide (a = b) = true from decide_eq_true (list_same g1 hno)]
   (have fct := hlm; (repeat' (first
  | refine gF ?_ | refine aE ?_ ?_
  | apply trivial)); all_goals clear fct)
 ·rw [show decide (a = b) = false from decide_eq_false fun h => g1 (by rw [h])]
  (have fct := And.intro hlm (And.intro hlm' (g1)); (repeat' (first
  | refine gF ?_ | refine aE ?_ ?_
  | apply trivial)); all_goals clear fct)
end Go.Proofs.Heir
end
namespace Go.Proofs.Heir
open Go Go.Am Go.RowKit Go.Lib
set_option maxRecDepth 100000
set_option maxHeartbeats 8000000








def topN (l : List NodeM) (n : Int) : Int := ((U.wayN l n).getLast?).getD n
theorem top_top {l : List NodeM} (T : U.Tree l) {n : Int} (hn : thereN l n = true) (hp : upN (nd l n) = -1) : topN l n = n := by
 unfold topN; rw [U.way_top T hn hp]; rfl
theorem top_step {l : List NodeM} (T : U.Tree l) {n : Int} (hn : thereN l n = true) (hp : upN (nd l n) ≠ -1) (hu : thereN l (upN (nd l n)) = true) : topN l n = topN l (upN (nd l n)) := by
 obtain ⟨r, hr⟩ := U.way_head T hu
 unfold topN; rw [U.way_step T hn hp, hr, List.getLast?_cons_cons]
 cases h : (upN (nd l n) :: r).getLast? with
 | none => simp at h
 | some a => rfl
theorem up_there {l : List NodeM} (T : U.Tree l) : ∀ n, thereN l n = true → upN (nd l n) ≠ -1 → thereN l (upN (nd l n)) = true := by
 refine U.up_ind T (P := fun n => upN (nd l n) ≠ -1 → thereN l (upN (nd l n)) = true) (fun n hn h0 h => absurd h0 h) (fun n hn h0 h1 _ _ => h1)
theorem top_there {l : List NodeM} (T : U.Tree l) : ∀ n, thereN l n = true → thereN l (topN l n) = true := by
 refine U.up_ind T (fun n hn h => ?_) (fun n hn h hu ih => ?_)
 ·rw [top_top T hn h]; exact hn
 ·rw [top_step T hn h hu]; exact ih
theorem f107_ok (f : ForM) (k : Nat) (x : NodeM) (hx : f.nodes[k]? = some x) : FnOK Tryz.prog 107 [] [eFor f, eInt k] [] (eInt (upN x)) := by
 obtain ⟨l, m⟩ := f
 obtain ⟨a1, a2, a3, a4, a5, a6, a7, a8, a9, a10⟩ := x
 unfold upN
 refine FnOK.startC (rvs := [.tmp 4]) G G_good Tryz.func107 rfl Tryz.ntmps107 rfl rfl ?_; with_reducible refine wD ?_
 by_cases e : a6 = -1
 ·subst e
  rw [if_pos rfl]
  repeat' (first
  | refine gK ?_ | refine aE ?_ ?_
  | (((with_reducible show IdxK _ _ _ _ _); refine IdxK.mk k (eNode _) rfl (node_get hx) ?_) <;> with_reducible refine wK ?_)
  | apply trivial)
 ·rw [if_neg e]
  (have fct := (eq_false e); (repeat' (first
  | refine gF ?_ | refine aE ?_ ?_
  | (((with_reducible show IdxK _ _ _ _ _); refine IdxK.mk k (eNode _) rfl (node_get hx) ?_) <;> with_reducible refine wK ?_)
  | apply trivial)); all_goals clear fct)
def topF (f : ForM) (n : Int) : Int := if (rightF f && thereN f.nodes n) = true then topN f.nodes n else -1
theorem f63_ok (f : ForM) (hs : SmallN f.nodes) (n : Int) : FnOK Tryz.prog 63 [] [eFor f, eInt n] [] (eInt (topF f n)) := by
 have h86 := f106_ok f hs [n] (by simp)
 have e1 : (rightF f && !decide (0 ≤ idxI (fun n => !thereN f.nodes n) [n])) = (rightF f && thereN f.nodes n) := by
  congr 1
  unfold idxI
  cases h : thereN f.nodes n <;> simp [List.findIdx?_cons, h]
 rw [e1] at h86
 have h87 := fun k x hx => f107_ok f k x hx
 obtain ⟨l, m⟩ := f
 unfold topF
 simp only at h86 h87 ⊢
 refine FnOK.startC (rvs := [.tmp 4]) G G_good Tryz.func63 rfl Tryz.ntmps63 rfl rfl ?_; with_reducible refine wD ?_
 cases e0 : (rightF ⟨l, m⟩ && thereN l n) with
 | false =>
   rw [e0] at h86
   refine CallK.lit [71] h86 c106 ⟨⟨rfl, rfl, trivial⟩, frz_ints (l := [n]) rfl rfl rfl rfl, trivial⟩ rfl rfl ?_; with_reducible refine wK ?_
   repeat' (first
  | refine gK ?_ | refine aE ?_ ?_
  | apply trivial)
   all_goals rfl
 | true =>
   rw [e0] at h86
   refine CallK.lit [71] h86 c106 ⟨⟨rfl, rfl, trivial⟩, frz_ints (l := [n]) rfl rfl rfl rfl, trivial⟩ rfl rfl ?_; with_reducible refine wK ?_
   rw [if_pos rfl]
   obtain ⟨hr, hn⟩ : rightF ⟨l, m⟩ = true ∧ thereN l n = true := by simpa using e0
   have T := U.tree_of hr
   simp only at T
   repeat' (first
  | refine gK ?_ | refine aE ?_ ?_
  | apply trivial)
   refine LoopK.use G G_good (fun (c : Int) => [(1, eInt c), (2, .ptr 20 0 0)]) (fun c => [(20, .live 2 [eFor ⟨l, m⟩] false)])
    (fun c => thereN l c = true ∧ topN l c = topN l n) (fun c => (U.wayN l c).length) n ⟨hn, rfl⟩
    (by refine ⟨⟨rfl, rfl⟩, ⟨rfl, ⟨rfl, rfl⟩, trivial⟩, ⟨⟨rfl, rfl, trivial⟩, trivial⟩, trivial⟩) ?_
   rintro c ⟨hc, htop⟩
   with_reducible refine wK ?_
   obtain ⟨i, y, rfl, hy, hny⟩ := there_iff.1 hc
   have h := h87 i y hy
   by_cases e : upN y = -1
   ·rw [e] at h
    rw [top_top T hc (by rw [hny]; exact e)] at htop
    repeat' (first
  | refine gK ?_ | refine aE ?_ ?_
  | (((with_reducible refine kQ 107 ?_); refine cL h c107 ?_) <;> with_reducible refine wK ?_)
  | apply trivial)
    all_goals exact htop.symm
   ·have hu := up_there T _ hc (by rw [hny]; exact e)
    have hst := top_step T hc (by rw [hny]; exact e) hu
    have hway := U.way_step T hc (by rw [hny]; exact e)
    rw [hny] at hu hst hway
    generalize upN y = u at h e hu hst hway
    (have fct := (eq_false e); (repeat' (first
  | refine gF ?_ | refine aE ?_ ?_
  | (((with_reducible refine kQ 107 ?_); refine cL h c107 ?_) <;> with_reducible refine wK ?_)
  | apply trivial)); all_goals clear fct)
    refine NextK.mk u ⟨hu, by rw [← hst, htop]⟩ (by rw [hway]; simp) ⟨⟨rfl, rfl⟩, ⟨rfl, ⟨rfl, rfl⟩, trivial⟩, ⟨⟨rfl, rfl, trivial⟩, trivial⟩, trivial⟩
def conF (f : ForM) (n : Int) : Bool := (rightF f && thereN f.nodes n) && decide ((nd f.nodes (topN f.nodes n)).kind = 0)
theorem f21_ok (f : ForM) (hs : SmallN f.nodes) (n : Int) : FnOK Tryz.prog 21 [] [eFor f, eInt n] [] (eBool (conF f n)) := by
 have h63 := f63_ok f hs n
 unfold topF at h63
 unfold conF
 cases e0 : (rightF f && thereN f.nodes n) with
 | false =>
   rw [e0, if_neg (by simp)] at h63
   obtain ⟨l, m⟩ := f
   refine FnOK.startC (rvs := [.tmp 4]) G G_good Tryz.func21 rfl Tryz.ntmps21 rfl rfl ?_; with_reducible refine wD ?_
   repeat' (first
  | refine gK ?_ | refine aE ?_ ?_
  | (((with_reducible refine kQ 63 ?_); refine cL h63 c63 ?_) <;> with_reducible refine wK ?_)
  | apply trivial)
   all_goals rfl
 | true =>
   rw [e0, if_pos rfl] at h63
   obtain ⟨hr, hn⟩ : rightF f = true ∧ thereN f.nodes n = true := by simpa using e0
   have ht := top_there (U.tree_of hr) n hn
   obtain ⟨l, m⟩ := f
   simp only at h63 ht ⊢
   generalize topN l n = t at h63 ht ⊢
   obtain ⟨i, y, rfl, hy, hny⟩ := there_iff.1 ht
   rw [hny]
   obtain ⟨a1, a2, a3, a4, a5, a6, a7, a8, a9, a10⟩ := y
   refine FnOK.startC (rvs := [.tmp 4]) G G_good Tryz.func21 rfl Tryz.ntmps21 rfl rfl ?_; with_reducible refine wD ?_
   refine cL h63 c63 ?_; with_reducible refine wK ?_
   (have fct := (show ¬ (i : Int) = -1 by omega); (repeat' (first
  | refine gF ?_ | refine aE ?_ ?_
  | (((with_reducible show IdxK _ _ _ _ _); refine IdxK.mk i (eNode _) rfl (node_get hy) ?_) <;> with_reducible refine wK ?_)
  | apply trivial)); all_goals clear fct)
   all_goals simp
theorem f132_ok (f : ForM) (T : U.Tree f.nodes) : ∀ n, thereN f.nodes n = true → FnOK Tryz.prog 132 [] [eFor f, eInt n] [] (eInt (topN f.nodes n)) := by
 refine U.up_ind T (fun n hn h => ?_) (fun n hn h hu ih => ?_)
 ·rw [top_top T hn h]
  obtain ⟨i, y, rfl, hy, hny⟩ := there_iff.1 hn
  rw [hny] at h
  obtain ⟨l, m⟩ := f
  obtain ⟨a1, a2, a3, a4, a5, a6, a7, a8, a9, a10⟩ := y
  unfold upN at h
  simp only at h hy ⊢
  have e6 : a6 = -1 := by
   by_cases e : a6 = -1
   ·exact e
   ·rw [if_neg e] at h; exact h
  subst e6
  have e8 : a8 = -1 := by simpa using h
  subst e8
  refine FnOK.startC (rvs := [.tmp 4]) G G_good Tryz.func132 rfl Tryz.ntmps132 rfl rfl ?_; with_reducible refine wD ?_
  repeat' (first
  | refine gK ?_ | refine aE ?_ ?_
  | (((with_reducible show IdxK _ _ _ _ _); refine IdxK.mk i (eNode _) rfl (node_get hy) ?_) <;> with_reducible refine wK ?_)
  | apply trivial)
 ·rw [top_step T hn h hu]
  obtain ⟨i, y, rfl, hy, hny⟩ := there_iff.1 hn
  rw [hny] at h hu ih ⊢
  obtain ⟨l, m⟩ := f
  obtain ⟨a1, a2, a3, a4, a5, a6, a7, a8, a9, a10⟩ := y
  unfold upN at h hu ih ⊢
  simp only at h hu ih hy ⊢
  by_cases e : a6 = -1
  ·subst e
   rw [if_pos rfl] at h hu ih ⊢
   refine FnOK.startC (rvs := [.tmp 4]) G G_good Tryz.func132 rfl Tryz.ntmps132 rfl rfl ?_; with_reducible refine wD ?_
   (have fct := (eq_false h); (repeat' (first
  | refine gF ?_ | refine aE ?_ ?_
  | ((first
   | ((with_reducible show IdxK _ _ _ _ _); refine IdxK.mk i (eNode _) rfl (node_get hy) ?_)
   | ((with_reducible refine kQ 132 ?_); refine cL ih c132 ?_)) <;> with_reducible refine wK ?_)
  | apply trivial)); all_goals clear fct)
  ·rw [if_neg e] at h hu ih ⊢
   refine FnOK.startC (rvs := [.tmp 4]) G G_good Tryz.func132 rfl Tryz.ntmps132 rfl rfl ?_; with_reducible refine wD ?_
   (have fct := (eq_false e); (repeat' (first
  | refine gF ?_ | refine aE ?_ ?_
  | ((first
   | ((with_reducible show IdxK _ _ _ _ _); refine IdxK.mk i (eNode _) rfl (node_get hy) ?_)
   | ((with_reducible refine kQ 132 ?_); refine cL ih c132 ?_)) <;> with_reducible refine wK ?_)
  | apply trivial)); all_goals clear fct)
theorem f85_ok (f : ForM) (T : U.Tree f.nodes) (n : Int) (hn : thereN f.nodes n = true) : FnOK Tryz.prog 85 [] [eFor f, eInt n] [] (eBool (decide ((nd f.nodes (topN f.nodes n)).kind = 0))) := by
 have h84 := f132_ok f T n hn
 have ht := top_there T n hn
 obtain ⟨l, m⟩ := f
 simp only at h84 ht ⊢
 generalize topN l n = t at h84 ht ⊢
 obtain ⟨i, y, rfl, hy, hny⟩ := there_iff.1 ht
 rw [hny]
 obtain ⟨a1, a2, a3, a4, a5, a6, a7, a8, a9, a10⟩ := y
 refine FnOK.startC (rvs := [.tmp 4]) G G_good Tryz.func85 rfl Tryz.ntmps85 rfl rfl ?_; with_reducible refine wD ?_
 repeat' (first
  | refine gK ?_ | refine aE ?_ ?_
  | ((first
   | ((with_reducible show IdxK _ _ _ _ _); refine IdxK.mk i (eNode _) rfl (node_get hy) ?_)
   | ((with_reducible refine kQ 132 ?_); refine cL h84 c132 ?_)) <;> with_reducible refine wK ?_)
  | apply trivial)
end Go.Proofs.Heir
section
namespace Go.Proofs.Heir
open Go Go.Am Go.RowKit Go.Lib
set_option maxRecDepth 100000
set_option maxHeartbeats 8000000
@[reducible] def formW : ByteArray := ⟨⟨[102, 111, 114, 109]⟩⟩
@[reducible] def idW : ByteArray := ⟨⟨[105, 100]⟩⟩
def isForm (x : NodeM) : Bool := decide (x.kind = 1) && decide (x.name = formW)
def attV (x : NodeM) (w : ByteArray) : Option ByteArray := if 0 ≤ findP x.attrs w then some (getS x.attrs w) else none
def attR (x : NodeM) (w : ByteArray) : Option ByteArray := if 0 ≤ posA x.attrs w then some (((x.attrs[(posA x.attrs w).toNat]?).map AttrM.value).getD noS) else none
def nearBy (l : List NodeM) (q : Int → Bool) (n : Int) : Int := ((wayN l n).tail.find? q).getD (-1)
def nearN (l : List NodeM) (n : Int) : Int := nearBy l (fun p => isForm (nd l p)) n
def nearR (l : List NodeM) (n : Int) : Int := nearBy l (fun p => decide ((nd l p).name = formW)) n
def rootN (l : List NodeM) (n : Int) : Int := ((wayN l n).getLast?).getD n
def addId (l : List NodeM) (t : List (ByteArray × Int)) (k : Int) : List (ByteArray × Int) :=
 match attV (nd l k) idW with
 | some v => (match tget v t with
  | some _ => t
  | none => tput v k t)
 | none => t
def idTab (l : List NodeM) (r : Int) : List (ByteArray × Int) := (ordN l l.length r).foldl (addId l) []
def firstId (l : List NodeM) (r : Int) (v : ByteArray) : Option Int := (ordN l l.length r).find? fun k => decide (attV (nd l k) idW = some v)
def firstR (l : List NodeM) (r : Int) (v : ByteArray) : Option Int := (ordN l l.length r).find? fun k => decide (attR (nd l k) idW = some v)
def conN (l : List NodeM) (n : Int) : Bool := decide ((nd l (topN l n)).kind = 0)
def byId (l : List NodeM) (n : Int) (v : ByteArray) : Int :=
 match firstId l (rootN l n) v with
 | some k => if v ≠ ⟨#[]⟩ ∧ isForm (nd l k) = true then k else -1
 | none => -1
def ownN (l : List NodeM) (n : Int) : Int :=
 if (nd l n).kind = 1 then
  match attV (nd l n) formW with
  | some v => if conN l n = true then byId l n v else nearN l n
  | none => nearN l n
 else -1
def byIdR (l : List NodeM) (n : Int) (v : ByteArray) : Int :=
 if v = ⟨#[]⟩ then -1 else
 match firstR l (rootN l n) v with
 | some k => if (nd l k).name = formW then k else -1
 | none => -1
def ownR (l : List NodeM) (n : Int) : Int :=
 if (nd l n).kind = 1 then
  match attR (nd l n) formW with
  | some v => if conN l n = true then byIdR l n v else nearR l n
  | none => nearR l n
 else -1
theorem tget_fold (l : List NodeM) (v : ByteArray) : ∀ (ks : List Int) (t : List (ByteArray × Int)), tget v (ks.foldl (addId l) t) = match tget v t with
  | some x => some x
  | none => ks.find? fun k => decide (attV (nd l k) idW = some v)
 | [], t => by
   simp only [List.foldl_nil, List.find?_nil]
   cases tget v t <;> rfl
 | k :: r, t => by
   rw [List.foldl_cons, tget_fold l v r]
   rw [List.find?_cons]
   unfold addId
   cases ha : attV (nd l k) idW with
   | none => simp
   | some u =>
     dsimp only
     by_cases huv : u = v
     ·subst huv
      cases ht : tget u t with
      | some x => dsimp only; rw [ht]
      | none => dsimp only; rw [tget_put, if_pos rfl]; simp
     ·have hne : decide (some u = some v) = false := decide_eq_false fun h => huv (Option.some.inj h)
      rw [hne]
      cases ht : tget u t with
      | some x => rfl
      | none => dsimp only; rw [tget_put, if_neg huv]
theorem idTab_get (l : List NodeM) (r : Int) (v : ByteArray) : tget v (idTab l r) = firstId l r v := by
 unfold idTab; rw [tget_fold]; rfl
theorem addId_len (l : List NodeM) (t : List (ByteArray × Int)) (k : Int) : (addId l t k).length ≤ t.length + 1 := by
 unfold addId
 split
 ·split
  ·omega
  ·rw [tput_length]; split <;> omega
 ·omega
theorem fold_len (l : List NodeM) : ∀ (ks : List Int) (t : List (ByteArray × Int)), (ks.foldl (addId l) t).length ≤ t.length + ks.length
 | [], t => Nat.le_refl _
 | k :: r, t => by
   have h1 := fold_len l r (addId l t k)
   have h2 := addId_len l t k
   rw [List.foldl_cons, List.length_cons]; omega
variable {l : List NodeM}
theorem root_top (T : Tree l) {n : Int} (hn : thereN l n = true) (hp : (nd l n).parent = -1) : rootN l n = n := by
 unfold rootN; rw [way_top T hn hp]; rfl
theorem root_step (T : Tree l) {n : Int} (hn : thereN l n = true) (hp : (nd l n).parent ≠ -1) : rootN l n = rootN l (nd l n).parent := by
 obtain ⟨r, hr⟩ := way_head T (T.par n hn hp).1
 unfold rootN; rw [way_step T hn hp, hr, List.getLast?_cons_cons]
 cases h : ((nd l n).parent :: r).getLast? with
 | none => simp at h
 | some a => rfl
theorem root_there (T : Tree l) : ∀ n, thereN l n = true → thereN l (rootN l n) = true ∧ (nd l (rootN l n)).parent = -1 ∧ rootN l n ∈ wayN l n := by
 refine up_ind T (fun n hn h => ?_) (fun n hn h hu ih => ?_)
 ·rw [root_top T hn h]; exact ⟨hn, h, way_self T hn⟩
 ·rw [root_step T hn h]; exact ⟨ih.1, ih.2.1, by rw [way_step T hn h]; exact List.mem_cons_of_mem _ ih.2.2⟩
theorem root_way (T : Tree l) : ∀ n, thereN l n = true → ∀ a ∈ wayN l n, rootN l a = rootN l n := by
 refine up_ind T (fun n hn h a ha => ?_) (fun n hn h hu ih a ha => ?_)
 ·rw [way_top T hn h] at ha; rw [List.mem_singleton.1 ha]
 ·rw [way_step T hn h] at ha
  rcases List.mem_cons.1 ha with rfl | h'
  ·rfl
  ·rw [root_step T hn h]; exact ih a h'
theorem mem_root (T : Tree l) {n : Int} (hn : thereN l n = true) : n ∈ ordN l l.length (rootN l n) := by
 obtain ⟨h1, _, h3⟩ := root_there T n hn
 exact (ord_iff T h1 hn).2 h3
theorem ord_root (T : Tree l) {r n : Int} (hr : thereN l r = true) (h : n ∈ ordN l l.length r) : thereN l n = true ∧ r ∈ wayN l n ∧ rootN l n = rootN l r := by
 obtain ⟨h1, h2⟩ := ord_way T _ r hr n h
 exact ⟨h1, h2, (root_way T n h1 r h2).symm⟩
theorem root_self (T : Tree l) {n : Int} (hn : thereN l n = true) : rootN l (rootN l n) = rootN l n := by
 obtain ⟨h1, h2, _⟩ := root_there T n hn
 exact root_top T h1 h2
theorem find_step (T : Tree l) (q : Int → Bool) {n : Int} (hn : thereN l n = true) (hp : (nd l n).parent ≠ -1) : nearBy l q n = if q (nd l n).parent = true then (nd l n).parent else nearBy l q (nd l n).parent := by
 obtain ⟨r, hr⟩ := way_head T (T.par n hn hp).1
 unfold nearBy
 rw [way_step T hn hp, List.tail_cons, hr, List.find?_cons, List.tail_cons]
 cases h : q (nd l n).parent <;> simp
theorem find_top (T : Tree l) (q : Int → Bool) {n : Int} (hn : thereN l n = true) (hp : (nd l n).parent = -1) : nearBy l q n = -1 := by
 unfold nearBy; rw [way_top T hn hp]; rfl
theorem near_spec (T : Tree l) (q : Int → Bool) : ∀ n, thereN l n = true →
  (nearBy l q n = -1 ∧ ∀ a ∈ wayN l n, a ≠ n → q a = false) ∨
  (nearBy l q n ∈ wayN l n ∧ nearBy l q n ≠ n ∧ q (nearBy l q n) = true ∧ ∀ a ∈ wayN l n, a ≠ n → q a = true → a ∈ wayN l (nearBy l q n)) := by
 refine up_ind T (fun n hn h => ?_) (fun n hn h hu ih => ?_)
 ·left
  refine ⟨find_top T q hn h, fun a ha hne => ?_⟩
  rw [way_top T hn h] at ha
  exact absurd (List.mem_singleton.1 ha) hne
 ·have hne : ∀ a ∈ wayN l (nd l n).parent, a ≠ n := by
   intro a ha e
   subst e
   have h1 := way_step T hn h
   obtain ⟨t, ht⟩ := way_cut T _ hu a ha
   rw [ht] at h1
   have := congrArg List.length h1
   simp at this
   omega
  rw [find_step T q hn h]
  have hw := way_step T hn h
  cases hq : q (nd l n).parent with
  | true =>
    rw [if_pos rfl]
    right
    refine ⟨by rw [hw]; exact List.mem_cons_of_mem _ (way_self T hu), hne _ (way_self T hu), hq, fun a ha hna _ => ?_⟩
    rw [hw] at ha
    exact (List.mem_cons.1 ha).resolve_left hna
  | false =>
    rw [if_neg (by simp)]
    rcases ih with ⟨h1, h2⟩ | ⟨h1, h2, h3, h4⟩
    ·left
     refine ⟨h1, fun a ha hna => ?_⟩
     rw [hw] at ha
     have ha' := (List.mem_cons.1 ha).resolve_left hna
     by_cases e : a = (nd l n).parent
     ·rw [e]; exact hq
     ·exact h2 a ha' e
    ·right
     refine ⟨by rw [hw]; exact List.mem_cons_of_mem _ h1, hne _ h1, h3, fun a ha hna hqa => ?_⟩
     rw [hw] at ha
     have ha' := (List.mem_cons.1 ha).resolve_left hna
     refine h4 a ha' (fun e => ?_) hqa
     rw [e, hq] at hqa; cases hqa
theorem att_eq (T : Tree l) {n : Int} (hn : thereN l n = true) {w : ByteArray} (h1 : rightS w = true) (h2 : lowS w = w) : attV (nd l n) w = attR (nd l n) w := by
 unfold attV attR getS
 rcases nam_kind T hn with h | ⟨h3, h4, h5⟩
 ·have hr : rightA (nd l n).attrs = true := by
   have h2 := T.nam n hn
   unfold namedN at h2
   rw [if_pos h] at h2
   simp only [Bool.and_eq_true] at h2
   exact h2.2
  unfold findP; rw [hr, h1, h2]; simp only [Bool.and_self, if_true]
  by_cases h0 : 0 ≤ posA (nd l n).attrs w
  ·simp only [if_pos h0]
  ·simp only [if_neg h0]
 ·rw [h5]
  have e1 : posA [] w = -1 := rfl
  have e2 : findP [] w = -1 := by unfold findP; split <;> rfl
  rw [e1, e2]; rfl
theorem form_right : rightS formW = true := by decide +kernel
theorem form_low : lowS formW = formW := by decide +kernel
theorem id_right : rightS idW = true := by decide +kernel
theorem id_low : lowS idW = idW := by decide +kernel
theorem isForm_eq (T : Tree l) {n : Int} (hn : thereN l n = true) : isForm (nd l n) = decide ((nd l n).name = formW) := by
 unfold isForm
 rcases nam_kind T hn with h | ⟨h1, h2, _⟩
 ·rw [h]; simp
 ·rw [h2]; simp [h1]
theorem find_congr {α : Type} {p q : α → Bool} {ks : List α} (h : ∀ k ∈ ks, p k = q k) : ks.find? p = ks.find? q := by
 induction ks with
 | nil => rfl
 | cons a r ih => rw [List.find?_cons, List.find?_cons, h a List.mem_cons_self, ih fun k hk => h k (List.mem_cons_of_mem _ hk)]
theorem first_eq (T : Tree l) {r : Int} (hr : thereN l r = true) (v : ByteArray) : firstId l r v = firstR l r v := by
 refine find_congr fun k hk => ?_
 rw [att_eq T (ord_root T hr hk).1 id_right id_low]
theorem near_eq (T : Tree l) {n : Int} (hn : thereN l n = true) : nearN l n = nearR l n := by
 unfold nearN nearR nearBy
 rw [find_congr fun k hk => isForm_eq T (way_there T n hn k (List.mem_of_mem_tail hk))]
theorem first_some {r : Int} {v : ByteArray} {k : Int} (h : firstId l r v = some k) : k ∈ ordN l l.length r ∧ attV (nd l k) idW = some v :=
 ⟨List.mem_of_find?_eq_some h, by have := List.find?_some h; simpa using this⟩
theorem own_eq (T : Tree l) {n : Int} (hn : thereN l n = true) : ownN l n = ownR l n := by
 unfold ownN ownR
 rw [att_eq T hn form_right form_low, near_eq T hn]
 split
 ·cases attR (nd l n) formW with
  | none => rfl
  | some v =>
    simp only
    split
    ·unfold byId byIdR
     have hr := (root_there T n hn).1
     rw [← first_eq T hr]
     by_cases hv : v = ⟨#[]⟩
     ·rw [if_pos hv]
      cases firstId l (rootN l n) v with
      | none => rfl
      | some k => simp [hv]
     ·rw [if_neg hv]
      cases hf : firstId l (rootN l n) v with
      | none => rfl
      | some k =>
        have hk := (ord_root T hr (first_some hf).1).1
        simp only [isForm_eq T hk, decide_eq_true_eq]
        by_cases e : (nd l k).name = formW
        ·rw [if_pos ⟨hv, e⟩, if_pos e]
        ·rw [if_neg (fun h => e h.2), if_neg e]
    ·rfl
 ·rfl
theorem own_form (T : Tree l) {n : Int} (hn : thereN l n = true) (h : ownN l n ≠ -1) : thereN l (ownN l n) = true ∧ isForm (nd l (ownN l n)) = true ∧ rootN l (ownN l n) = rootN l n ∧ (nd l n).kind = 1 := by
 have hnear : nearN l n ≠ -1 → thereN l (nearN l n) = true ∧ isForm (nd l (nearN l n)) = true ∧ rootN l (nearN l n) = rootN l n := by
  intro h
  rcases near_spec T (fun p => isForm (nd l p)) n hn with ⟨h1, _⟩ | ⟨h1, _, h3, _⟩
  ·exact absurd h1 h
  ·exact ⟨way_there T n hn _ h1, h3, root_way T n hn _ h1⟩
 unfold ownN at h ⊢
 by_cases hk : (nd l n).kind = 1
 ·rw [if_pos hk] at h ⊢
  cases ha : attV (nd l n) formW with
  | none =>
    rw [ha] at h
    exact ⟨(hnear h).1, (hnear h).2.1, (hnear h).2.2, hk⟩
  | some v =>
    rw [ha] at h
    simp only at h ⊢
    by_cases hc : conN l n = true
    ·rw [if_pos hc] at h ⊢
     unfold byId at h ⊢
     cases hf : firstId l (rootN l n) v with
     | none => rw [hf] at h; exact absurd rfl h
     | some k =>
       rw [hf] at h
       simp only at h ⊢
       by_cases e : v ≠ ⟨#[]⟩ ∧ isForm (nd l k) = true
       ·rw [if_pos e] at h ⊢
        obtain ⟨h1, h2, h3⟩ := ord_root T (root_there T n hn).1 (first_some hf).1
        exact ⟨h1, e.2, by rw [h3, root_self T hn], hk⟩
       ·rw [if_neg e] at h; exact absurd rfl h
    ·rw [if_neg hc] at h ⊢
     exact ⟨(hnear h).1, (hnear h).2.1, (hnear h).2.2, hk⟩
 ·rw [if_neg hk] at h; exact absurd rfl h
def memN (l : List NodeM) (x : Int) : List Int := (ordN l l.length (rootN l x)).filter fun k => decide (ownN l k = x)
def memR (l : List NodeM) (x : Int) : List Int := (ordN l l.length (rootN l x)).filter fun k => decide (ownR l k = x)
theorem mem_eq' (T : Tree l) {x : Int} (hx : thereN l x = true) : memN l x = memR l x := by
 unfold memN memR
 refine List.filter_congr fun k hk => ?_
 rw [own_eq T (ord_root T (root_there T x hx).1 hk).1]
end Go.Proofs.Heir
end
section
namespace Go.Proofs.Heir
open Go Go.Am Go.RowKit Go.Lib
set_option maxRecDepth 100000
set_option maxHeartbeats 8000000
def ixN (ks : List Int) (n : Int) : Int := idxI (fun c => decide (c = n)) ks
theorem ix_cons (n a : Int) (r : List Int) : ixN (a :: r) n = if a = n then 0 else if ixN r n = -1 then -1 else ixN r n + 1 := by
 unfold ixN idxI
 rw [List.findIdx?_cons]
 by_cases h : a = n
 ·simp [h]
 ·simp only [h, decide_false, Bool.false_eq_true, if_false]
  cases List.findIdx? (fun c => decide (c = n)) r with
  | none => rfl
  | some k =>
    simp only [Option.map_some]
    rw [if_neg (by omega)]
    rfl
theorem ix_mem : ∀ {ks : List Int} {n : Int}, n ∈ ks → 0 ≤ ixN ks n
 | a :: r, n, h => by
   rw [ix_cons]
   split
   ·omega
   ·rename_i hne
    have := ix_mem ((List.mem_cons.1 h).resolve_left fun e => hne e.symm)
    split <;> omega
theorem ix_inj : ∀ {ks : List Int} {a b : Int}, a ∈ ks → b ∈ ks → ixN ks a = ixN ks b → a = b
 | c :: r, a, b, ha, hb, h => by
   rw [ix_cons, ix_cons] at h
   by_cases e1 : c = a
   ·by_cases e2 : c = b
    ·rw [← e1, e2]
    ·rw [if_pos e1, if_neg e2] at h
     have := ix_mem ((List.mem_cons.1 hb).resolve_left fun e => e2 e.symm)
     split at h <;> omega
   ·have ha' := (List.mem_cons.1 ha).resolve_left fun e => e1 e.symm
    have h1 := ix_mem ha'
    rw [if_neg e1, if_neg (by omega)] at h
    by_cases e2 : c = b
    ·rw [if_pos e2] at h; omega
    ·have hb' := (List.mem_cons.1 hb).resolve_left fun e => e2 e.symm
     have h2 := ix_mem hb'
     rw [if_neg e2, if_neg (by omega)] at h
     exact ix_inj ha' hb' (by omega)
theorem ix_first {q : Int → Bool} : ∀ {ks : List Int} {k : Int}, ks.find? q = some k → ∀ j ∈ ks, q j = true → ¬ ixN ks j < ixN ks k
 | a :: r, k, h, j, hj, hq => by
   rw [List.find?_cons] at h
   cases hqa : q a with
   | true =>
     rw [hqa] at h
     cases h
     have := ix_mem hj
     rw [ix_cons a a r, if_pos rfl]; omega
   | false =>
     rw [hqa] at h
     have hk := List.find?_some h
     have hja : ¬ a = j := fun e => by rw [e, hq] at hqa; cases hqa
     have hka : ¬ a = k := fun e => by rw [e, hk] at hqa; cases hqa
     have hj' := (List.mem_cons.1 hj).resolve_left fun e => hja e.symm
     have := ix_first h j hj' hq
     have h1 := ix_mem hj'
     have h2 := ix_mem (List.mem_of_find?_eq_some h)
     rw [ix_cons, ix_cons, if_neg hja, if_neg hka, if_neg (by omega), if_neg (by omega)]; omega
theorem ix_filter (q : Int → Bool) : ∀ {ks : List Int}, ks.Nodup → ∀ {i : Nat} {a b : Int}, (ks.filter q)[i]? = some a → (ks.filter q)[i + 1]? = some b → ixN ks a < ixN ks b
 | [], _, i, a, b, h, _ => by simp at h
 | c :: r, hn, i, a, b, ha, hb => by
   obtain ⟨hc, hn'⟩ := List.nodup_cons.1 hn
   rw [List.filter_cons] at ha hb
   have inr : ∀ {j : Nat} {x : Int}, (r.filter q)[j]? = some x → x ∈ r ∧ ¬ c = x := fun h => by
    have h1 := (List.mem_filter.1 (List.mem_of_getElem? h)).1
    exact ⟨h1, fun e => hc (e ▸ h1)⟩
   by_cases hq : q c = true
   ·rw [if_pos hq] at ha hb
    rw [List.getElem?_cons_succ] at hb
    obtain ⟨hb1, hb2⟩ := inr hb
    have h2 := ix_mem hb1
    rw [ix_cons b, if_neg hb2, if_neg (by omega)]
    cases i with
    | zero =>
      simp only [List.getElem?_cons_zero, Option.some.injEq] at ha
      subst ha
      rw [ix_cons, if_pos rfl]; omega
    | succ i =>
      rw [List.getElem?_cons_succ] at ha
      obtain ⟨ha1, ha2⟩ := inr ha
      have h1 := ix_mem ha1
      have := ix_filter q hn' ha hb
      rw [ix_cons a, if_neg ha2, if_neg (by omega)]; omega
   ·rw [if_neg hq] at ha hb
    obtain ⟨ha1, ha2⟩ := inr ha
    obtain ⟨hb1, hb2⟩ := inr hb
    have h1 := ix_mem ha1
    have h2 := ix_mem hb1
    have := ix_filter q hn' ha hb
    rw [ix_cons a, ix_cons b, if_neg ha2, if_neg hb2, if_neg (by omega), if_neg (by omega)]; omega
def aheadN (l : List NodeM) (a b : Int) : Bool := decide (rootN l a = rootN l b) && decide (ixN (ordN l l.length (rootN l a)) a < ixN (ordN l l.length (rootN l a)) b)
variable {l : List NodeM}
def byNear (l : List NodeM) (n : Int) : Prop := (nd l n).kind = 1 ∧ (attV (nd l n) formW = none ∨ conN l n = false)
theorem own_near {n : Int} (h : byNear l n) : ownN l n = nearN l n := by
 obtain ⟨h1, h2⟩ := h
 unfold ownN
 rw [if_pos h1]
 cases ha : attV (nd l n) formW with
 | none => rfl
 | some v =>
   rcases h2 with h2 | h2
   ·rw [ha] at h2; cases h2
   ·simp only [h2, Bool.false_eq_true, if_false]
def overF (l : List NodeM) (n k : Int) : Bool := decide ((nd l k).name = formW) && (!decide (k = n) && holdsN l k n)
theorem near_law (T : Tree l) {n : Int} (hn : thereN l n = true) (h : byNear l n) :
  (∀ k, thereN l k = true → overF l n k = true → ownN l n ≠ -1 ∧ holdsN l k (ownN l n) = true) ∧
  (ownN l n = -1 ∨ (thereN l (ownN l n) = true ∧ (nd l (ownN l n)).name = formW ∧ ownN l n ≠ n ∧ holdsN l (ownN l n) n = true)) := by
 rw [own_near h]
 rcases near_spec T (fun p => isForm (nd l p)) n hn with ⟨h1, h2⟩ | ⟨h1, h2, h3, h4⟩
 ·refine ⟨fun k hk ho => ?_, .inl h1⟩
  unfold overF holdsN at ho
  simp only [Bool.and_eq_true, Bool.not_eq_true', decide_eq_true_eq, decide_eq_false_iff_not] at ho
  have := h2 k ho.2.2 ho.2.1
  rw [isForm_eq T hk, decide_eq_true ho.1] at this; cases this
 ·rw [show nearBy l (fun p => isForm (nd l p)) n = nearN l n from rfl] at h1 h2 h3 h4
  have ht := way_there T n hn _ h1
  refine ⟨fun k hk ho => ?_, .inr ⟨ht, ?_, h2, by unfold holdsN; exact decide_eq_true h1⟩⟩
  ·unfold overF holdsN at ho
   simp only [Bool.and_eq_true, Bool.not_eq_true', decide_eq_true_eq, decide_eq_false_iff_not] at ho
   have h5 := h4 k ho.2.2 ho.2.1 (by show isForm (nd l k) = true; rw [isForm_eq T hk]; exact decide_eq_true ho.1)
   have h0 := there_pos ht
   exact ⟨fun e => by omega, by unfold holdsN; exact decide_eq_true h5⟩
  ·have h5 : isForm (nd l (nearN l n)) = true := h3
   rw [isForm_eq T ht] at h5; exact of_decide_eq_true h5
theorem own_named {n : Int} {v : ByteArray} (h1 : (nd l n).kind = 1) (h2 : attV (nd l n) formW = some v) (h3 : conN l n = true) : ownN l n = byId l n v := by
 unfold ownN; rw [if_pos h1, h2]; simp only [h3, if_true]
def foremost (l : List NodeM) (k : Int) (v : ByteArray) : Bool := (List.range l.length).all fun j => !(decide (attV (nd l (j : Int)) idW = some v) && aheadN l (j : Int) k)
theorem att_kind (T : Tree l) {n : Int} (hn : thereN l n = true) {w v : ByteArray} (h : attV (nd l n) w = some v) : (nd l n).kind = 1 := by
 rcases nam_kind T hn with h1 | ⟨_, _, h3⟩
 ·exact h1
 ·unfold attV at h; rw [h3] at h
  have : findP [] w = -1 := by unfold findP; split <;> rfl
  rw [this] at h; cases h
theorem named_law (T : Tree l) {n : Int} (hn : thereN l n = true) {v : ByteArray} (h2 : attV (nd l n) formW = some v) (h3 : conN l n = true) :
  (ownN l n ≠ -1 → thereN l (ownN l n) = true ∧ attV (nd l (ownN l n)) idW = some v ∧ v ≠ ⟨#[]⟩ ∧ (nd l (ownN l n)).name = formW ∧ rootN l (ownN l n) = rootN l n) ∧
  (∀ k, thereN l k = true → attV (nd l k) idW = some v → v ≠ ⟨#[]⟩ → rootN l k = rootN l n →
   (ownN l n ≠ -1 → aheadN l k (ownN l n) = false) ∧ (ownN l n = -1 → (nd l k).name = formW → foremost l k v = false)) := by
 have hk1 := att_kind T hn h2
 have hr := (root_there T n hn).1
 constructor
 ·intro h
  obtain ⟨a1, a2, a3, _⟩ := own_form T hn h
  rw [isForm_eq T a1] at a2
  refine ⟨a1, ?_, ?_, of_decide_eq_true a2, a3⟩
  all_goals
   rw [own_named hk1 h2 h3] at h
   try rw [own_named hk1 h2 h3]
   unfold byId at h
   try unfold byId
   cases hf : firstId l (rootN l n) v with
   | none => rw [hf] at h; exact absurd rfl h
   | some k =>
     rw [hf] at h
     simp only at h
     try simp only
     by_cases e : v ≠ ⟨#[]⟩ ∧ isForm (nd l k) = true
     ·first
       | (rw [if_pos e]; exact (first_some hf).2)
       | exact e.1
     ·rw [if_neg e] at h; exact absurd rfl h
 ·intro k hk hkv hv hkr
  have hmem : k ∈ ordN l l.length (rootN l n) := by rw [← hkr]; exact mem_root T hk
  rw [own_named hk1 h2 h3]
  have hex : firstId l (rootN l n) v ≠ none := fun e => by
   have := List.find?_eq_none.1 e k hmem
   simp [hkv] at this
  unfold byId
  cases hf : firstId l (rootN l n) v with
  | none => exact absurd hf hex
  | some k0 =>
    simp only
    obtain ⟨f1, f2⟩ := first_some hf
    obtain ⟨g1, _, g3⟩ := ord_root T hr f1
    rw [root_self T hn] at g3
    have hle := ix_first hf k hmem (by simp [hkv])
    by_cases e : v ≠ ⟨#[]⟩ ∧ isForm (nd l k0) = true
    ·rw [if_pos e]
     have h0 := there_pos g1
     refine ⟨fun _ => ?_, fun h => by omega⟩
     unfold aheadN
     rw [hkr, decide_eq_false hle, Bool.and_false]
    ·rw [if_neg e]
     refine ⟨fun h => absurd rfl h, fun _ hnm => ?_⟩
     have hne : k0 ≠ k := fun e' => e ⟨hv, by rw [e', isForm_eq T hk]; exact decide_eq_true hnm⟩
     have hlt : ixN (ordN l l.length (rootN l n)) k0 < ixN (ordN l l.length (rootN l n)) k := by
      have : ixN (ordN l l.length (rootN l n)) k0 ≠ ixN (ordN l l.length (rootN l n)) k := fun e' => hne (ix_inj f1 hmem e')
      omega
     obtain ⟨j, x, rfl, hx, _⟩ := there_iff.1 g1
     have hj := (List.getElem?_eq_some_iff.1 hx).1
     unfold foremost
     rw [Bool.eq_false_iff]
     intro hall
     have := List.all_eq_true.1 hall j (List.mem_range.2 hj)
     unfold aheadN at this
     rw [g3, hkr, decide_eq_true hlt, decide_eq_true f2] at this
     simp at this
def memF (l : List NodeM) (x : Int) : List Int := if isForm (nd l x) = true then memN l x else []
theorem mem_facts (T : Tree l) {x : Int} (hx : thereN l x = true) {c : Int} (h : c ∈ memF l x) : thereN l c = true ∧ ownN l c = x ∧ rootN l c = rootN l x ∧ (nd l x).name = formW := by
 unfold memF at h
 by_cases hf : isForm (nd l x) = true
 ·rw [if_pos hf] at h
  unfold memN at h
  obtain ⟨h1, h2⟩ := List.mem_filter.1 h
  obtain ⟨g1, _, g3⟩ := ord_root T (root_there T x hx).1 h1
  rw [root_self T hx] at g3
  rw [isForm_eq T hx] at hf
  exact ⟨g1, by simpa using h2, g3, of_decide_eq_true hf⟩
 ·rw [if_neg hf] at h; cases h
theorem mem_iff (T : Tree l) {x : Int} (hx : thereN l x = true) {c : Int} (hc : thereN l c = true) : c ∈ memF l x ↔ ownN l c = x := by
 constructor
 ·intro h; exact (mem_facts T hx h).2.1
 ·intro h
  have h0 := there_pos hx
  obtain ⟨_, a2, a3, _⟩ := own_form T hc (by omega)
  rw [h] at a2 a3
  unfold memF memN
  rw [if_pos a2, List.mem_filter, a3]
  exact ⟨mem_root T hc, by simpa using h⟩
theorem mem_nodup (T : Tree l) {x : Int} (hx : thereN l x = true) : (memF l x).Nodup := by
 unfold memF memN
 split
 ·exact (ord_nodup T _ _ (root_there T x hx).1).sublist List.filter_sublist
 ·exact .nil
theorem mem_len (T : Tree l) {x : Int} (hx : thereN l x = true) : (memF l x).length ≤ l.length := by
 unfold memF memN
 split
 ·exact Nat.le_trans (List.length_filter_le _ _) (ord_len T _ (root_there T x hx).1)
 ·simp
theorem mem_ahead (T : Tree l) {x : Int} (hx : thereN l x = true) {i : Nat} {a b : Int} (ha : (memF l x)[i]? = some a) (hb : (memF l x)[i + 1]? = some b) : aheadN l a b = true := by
 obtain ⟨_, _, a3, _⟩ := mem_facts T hx (List.mem_of_getElem? ha)
 obtain ⟨_, _, b3, _⟩ := mem_facts T hx (List.mem_of_getElem? hb)
 unfold memF at ha hb
 by_cases hf : isForm (nd l x) = true
 ·rw [if_pos hf] at ha hb
  unfold memN at ha hb
  have := ix_filter _ (ord_nodup T _ _ (root_there T x hx).1) ha hb
  unfold aheadN
  rw [a3, b3, decide_eq_true this]; simp
 ·rw [if_neg hf] at ha; simp at ha
theorem count_has (T : Tree l) {x : Int} (hx : thereN l x = true) {c : Int} (hc : thereN l c = true) : (memF l x).count c = if ownN l c = x then 1 else 0 := by
 by_cases h : ownN l c = x
 ·rw [if_pos h]
  have h1 := (mem_iff T hx hc).2 h
  have h2 := List.count_pos_iff.2 h1
  have h3 := List.nodup_iff_count.1 (mem_nodup T hx) c
  omega
 ·rw [if_neg h]
  exact List.count_eq_zero.2 fun h1 => h ((mem_iff T hx hc).1 h1)
end Go.Proofs.Heir
end
namespace Go.Proofs.Heir
open Go Go.Am Go.RowKit Go.Lib
set_option maxRecDepth 100000
set_option maxHeartbeats 8000000

theorem f81_ok (x : NodeM) : FnOK Tryz.prog 81 [] [eNode x] [] (eBool (isForm x)) := by
 obtain ⟨a1, a2, a3, a4, a5, a6, a7, a8, a9, a10⟩ := x
 unfold isForm
 refine FnOK.startC (rvs := [.tmp 2]) G G_good Tryz.func81 rfl Tryz.ntmps81 rfl rfl ?_; with_reducible refine wD ?_
 by_cases e : a1 = 1
 ·(have fct := (eq_true e); (repeat' (first
  | refine gF ?_ | refine aE ?_ ?_
  | apply trivial)); all_goals clear fct)
  all_goals simp [e]
 ·(have fct := (eq_false e); (repeat' (first
  | refine gF ?_ | refine aE ?_ ?_
  | apply trivial)); all_goals clear fct)
  all_goals simp [e]
theorem f77_ok (f : ForM) (T : Tree f.nodes) (n : Int) (hn : thereN f.nodes n = true) : FnOK Tryz.prog 77 [] [eFor f, eInt n] [] (eInt (rootN f.nodes n)) := by
 have hstep := fun n h1 h2 => root_step T (n := n) h1 h2
 have htop := fun n h1 h2 => root_top T (n := n) h1 h2
 have hwst := fun n h1 h2 => way_step T (n := n) h1 h2
 have hpar : ∀ n, thereN f.nodes n = true → (nd f.nodes n).parent = -1 ∨ thereN f.nodes (nd f.nodes n).parent = true := fun n hn => by
  by_cases h : (nd f.nodes n).parent = -1
  ·exact .inl h
  ·exact .inr (T.par n hn h).1
 obtain ⟨l, m⟩ := f
 simp only at hn hstep htop hpar hwst ⊢
 refine FnOK.startC (rvs := [.tmp 4]) G G_good Tryz.func77 rfl Tryz.ntmps77 rfl rfl ?_; with_reducible refine wD ?_
 refine LoopK.use G G_good (fun (c : Int) => [(1, eInt c), (2, .ptr 20 0 0)]) (fun _ => [(20, .live 2 [eFor ⟨l, m⟩] false)])
  (fun c => thereN l c = true ∧ rootN l c = rootN l n) (fun c => (wayN l c).length) n ⟨hn, rfl⟩
  ⟨⟨rfl, rfl⟩, ⟨rfl, ⟨rfl, rfl⟩, trivial⟩, ⟨⟨rfl, rfl, trivial⟩, trivial⟩, trivial⟩ ?_
 rintro c ⟨hc, hr⟩
 with_reducible refine wK ?_
 obtain ⟨i, y, e, hy, hny⟩ := there_iff.1 hc
 have hpc := hpar c hc
 have hst := hstep c hc
 have htp := htop c hc
 have hws := hwst c hc
 rw [hny] at hpc hst htp hws
 obtain ⟨b1, b2, b3, b4, b5, b6, b7, b8, b9, b10⟩ := y
 simp only at hpc hst htp hws
 by_cases e6 : b6 = -1
 ·rw [← hr, htp e6]
  (have fct := (eq_true e6); (repeat' (first
  | refine gF ?_ | refine aE ?_ ?_
  | ((refine IdxK.mk i (eNode _) e (node_get hy) ?_) <;> with_reducible refine wK ?_)
  | apply trivial)); all_goals clear fct)
  all_goals rfl
 ·(have fct := (eq_false e6); (repeat' (first
  | refine gF ?_ | refine aE ?_ ?_
  | ((first
   | (refine IdxK.mk i (eNode _) e (node_get hy) ?_)
   | ((with_reducible show NextK _ _); refine NextK.mk b6 ⟨hpc.resolve_left e6, by rw [← hst e6, hr]⟩ (by rw [hws e6]; simp) ⟨⟨rfl, rfl⟩, ⟨rfl, ⟨rfl, rfl⟩, trivial⟩, ⟨⟨rfl, rfl, trivial⟩, trivial⟩, trivial⟩)) <;> with_reducible refine wK ?_)
  | apply trivial)); all_goals clear fct)
theorem asked_one (f : ForM) (n : Int) : (rightF f && !decide (0 ≤ idxI (fun n => !thereN f.nodes n) [n])) = (rightF f && thereN f.nodes n) := by
 congr 1
 unfold idxI
 cases h : thereN f.nodes n <;> simp [List.findIdx?_cons, h]
theorem asked_two (f : ForM) (a b : Int) : (rightF f && !decide (0 ≤ idxI (fun n => !thereN f.nodes n) [a, b])) = (rightF f && (thereN f.nodes a && thereN f.nodes b)) := by
 congr 1
 unfold idxI
 cases h : thereN f.nodes a <;> cases h2 : thereN f.nodes b <;> simp [List.findIdx?_cons, h, h2]
theorem f48_ok (f : ForM) (hs : SmallN f.nodes) (hr : rightF f = true) (n : Int) (hn : thereN f.nodes n = true) : FnOK Tryz.prog 48 [] [eFor f, eInt n] [] (eInt (rootN f.nodes n)) := by
 have h76 := f76_ok f hs [n] (by simp)
 rw [asked_one, hr, hn] at h76
 have h77 := f77_ok f (tree_of hr) n hn
 obtain ⟨l, m⟩ := f
 refine FnOK.startC (rvs := [.tmp 4]) G G_good Tryz.func48 rfl Tryz.ntmps48 rfl rfl ?_; with_reducible refine wD ?_
 refine CallK.lit [71] h76 c76 ⟨⟨rfl, rfl, trivial⟩, frz_ints (l := [n]) rfl rfl rfl rfl, trivial⟩ rfl rfl ?_; with_reducible refine wK ?_
 repeat' (first
  | refine gK ?_ | refine aE ?_ ?_
  | (((with_reducible refine kQ 77 ?_); refine cL h77 c77 ?_) <;> with_reducible refine wK ?_)
  | apply trivial)
 all_goals rfl
end Go.Proofs.Heir
section
namespace Go.Proofs.Heir
open Go Go.Am Go.RowKit Go.Lib
set_option maxRecDepth 100000
set_option maxHeartbeats 8000000
namespace V
variable {l : List NodeM}
theorem ord_more (T : Tree l) : ∀ (m : Nat) (n : Int), thereN l n = true → l.length + 1 ≤ m + (wayN l n).length → ordN l (m + 1) n = ordN l m n
 | 0, n, _, h => by have := way_len (l := l) n; omega
 | m + 1, n, hn, h => by
   rw [ordN, ordN]
   congr 1
   refine flatMap_congrI fun k hk => ?_
   refine ord_more T m k (T.kid n hn k hk).1 ?_
   rw [way_kid T hn hk]; simp; omega
theorem ord_eq (T : Tree l) {n : Int} (hn : thereN l n = true) : ordN l l.length n = n :: (nd l n).kids.flatMap (ordN l l.length) := by
 have h0 := there_pos hn
 obtain ⟨m, hm⟩ : ∃ m, l.length = m + 1 := ⟨l.length - 1, by omega⟩
 have h1 : ∀ k ∈ (nd l n).kids, ordN l l.length k = ordN l m k := fun k hk => by
  rw [hm]
  refine ord_more T m k (T.kid n hn k hk).1 ?_
  obtain ⟨r, hr⟩ := way_head T hn
  rw [way_kid T hn hk, hr]; simp; omega
 conv => lhs; rw [hm, ordN]
 congr 1
 exact flatMap_congrI fun k hk => (h1 k hk).symm
def rest (l : List NodeM) (st : List Int) : List Int := st.reverse.flatMap (ordN l l.length)
theorem rest_pop (T : Tree l) {st : List Int} {t : Int} (ht : thereN l t = true) : rest l (st ++ [t]) = t :: rest l (st ++ (nd l t).kids.reverse) := by
 unfold rest
 rw [List.reverse_append, List.reverse_append, List.reverse_reverse]
 simp only [List.reverse_cons, List.reverse_nil, List.nil_append, List.cons_append, List.flatMap_cons, List.flatMap_append]
 rw [ord_eq T ht]; rfl
theorem rest_len (T : Tree l) : ∀ {st : List Int}, (∀ c ∈ st, thereN l c = true) → st.length ≤ (rest l st).length := by
 intro st h
 unfold rest
 have : ∀ s : List Int, (∀ c ∈ s, thereN l c = true) → s.length ≤ (s.flatMap (ordN l l.length)).length := by
  intro s
  induction s with
  | nil => intro _; exact Nat.le_refl _
  | cons a r ih =>
    intro h
    have h1 := ih fun c hc => h c (List.mem_cons_of_mem _ hc)
    rw [List.flatMap_cons, List.length_append, ord_eq T (h a List.mem_cons_self), List.length_cons, List.length_cons]
    omega
 have := this st.reverse fun c hc => h c (by simpa using hc)
 simpa using this
end V
def ordF (f : ForM) (n : Int) : List Int := if (rightF f && thereN f.nodes n) = true then ordN f.nodes f.nodes.length n else []
end Go.Proofs.Heir
end
namespace Go.Proofs.Heir
open Go Go.Am Go.RowKit Go.Lib
set_option maxRecDepth 100000
set_option maxHeartbeats 8000000
theorem f78_own (f : ForM) (hs : SmallN f.nodes) (n : Int) (e0 : (rightF f && thereN f.nodes n) = true) : FnOK Tryz.prog 78 [] [eFor f, eInt n] [rInts (ordN f.nodes f.nodes.length n)] (.own 0 0 (ordN f.nodes f.nodes.length n).length) := by
 have h76 := f76_ok f hs [n] (by simp)
 rw [asked_one] at h76
 obtain ⟨l, m⟩ := f
 simp only at h76 e0 ⊢
 have hlm : (l.map oNode).length = l.length := List.length_map ..
 refine FnOK.startC (rvs := [.tmp 4]) G G_good Tryz.func78 rfl Tryz.ntmps78 rfl rfl ?_; delta List.toArray; (with_reducible ((conv => whnf); (conv => congr <;> reduce); repeat ((first | refine hK ?_ | refine sK ?_); (conv => whnf); (conv => congr <;> reduce))))
 rw [e0] at h76
 refine CallK.lit [131] h76 c76 ⟨⟨rfl, rfl, trivial⟩, frz_ints (l := [n]) rfl rfl rfl rfl, trivial⟩ rfl rfl ?_; (with_reducible ((conv => whnf); (conv => congr <;> reduce); repeat ((first | refine hK ?_ | refine sK ?_); (conv => whnf); (conv => congr <;> reduce))))
 obtain ⟨hr, hn⟩ : rightF ⟨l, m⟩ = true ∧ thereN l n = true := by simpa using e0
 have T := tree_of hr
 have hol := ord_len T l.length hn
 simp only at T hol
 repeat' (first
  | (first
  | ((with_reducible show IfK _ _ _ _); first | refine IfK.ff ?_ | refine IfK.tt ?_ | refine IfK.no (by first | exact qA | ((try simp only [castN]); first | (simp []; done) | (simp []; omega))) ?_ | refine IfK.yes (by first | exact qA | ((try simp only [castN]); first | (simp []; done) | (simp []; omega))) ?_)
  | ((with_reducible show NeedK _ _ _ _); refine nK ?_)
  | ((with_reducible show DrawK _ _ _ _); refine dK ?_)) <;> (with_reducible ((conv => whnf); (conv => congr <;> reduce); repeat ((first | refine hK ?_ | refine sK ?_); (conv => whnf); (conv => congr <;> reduce))))
  | ((with_reducible show (_ ∧ _) ∧ _ ∧ _); refine ⟨⟨rfl, rfl⟩, ?_, ?_⟩ <;> with_reducible ((conv => whnf) <;> repeat' (first | exact trivial | (refine And.intro ?_ ?_ <;> (conv => whnf))))))
 refine LoopK.ghost 5 51 1 rfl rfl ?_
 refine LoopK.use G G_good (fun (i : List Int × List Int × List Int) => [(2, .ptr 20 0 0), (5, .own 51 0 i.1.length), (6, .ptr 60 0 0)])
  (fun i => [(20, .live 2 [eFor ⟨l, m⟩] false), (51, rInts i.1), (60, .live 1 [.own 171 0 i.2.1.length] false), (171, rInts (i.2.1 ++ i.2.2))])
  (fun i => ordN l l.length n = i.1 ++ V.rest l i.2.1 ∧ ∀ c ∈ i.2.1, thereN l c = true) (fun i => l.length - i.1.length) ([], [n], []) ⟨by simp [V.rest], fun c hc => by rw [List.mem_singleton] at hc; subst hc; exact hn⟩
  (by refine ⟨⟨rfl, rfl⟩, ⟨⟨rfl, rfl⟩, ⟨rfl, rfl⟩, ⟨rfl, rfl⟩, trivial⟩, ⟨⟨rfl, rfl, trivial⟩, trivial⟩, ⟨.refl rfl, noRef_ints _⟩, ⟨⟨rfl, rfl⟩, trivial⟩, ⟨.refl rfl, noRef_ints _⟩, trivial⟩) ?_
 rintro ⟨out, st, sp⟩ ⟨ho, hst⟩
 simp only at ho hst
 (with_reducible ((conv => whnf); (conv => congr <;> reduce); repeat ((first | refine hK ?_ | refine sK ?_); (conv => whnf); (conv => congr <;> reduce))))
 have hoL := congrArg List.length ho
 rw [List.length_append] at hoL
 have hol' : out.length = (out.map oInt).length := (List.length_map ..).symm
 have hrl := V.rest_len T hst
 have hl60 := hs.len
 simp only at hl60
 obtain h | ⟨st', t, h⟩ := List.eq_nil_or_concat st <;> (try rw [List.concat_eq_append] at h) <;> subst h
 ·repeat' (first
  | (first
  | ((with_reducible show IfK _ _ _ _); first | refine IfK.ff ?_ | refine IfK.tt ?_ | refine IfK.no (by first | exact qA | ((try simp only [castN]); first | (simp []; done) | (simp []; omega))) ?_ | refine IfK.yes (by first | exact qA | ((try simp only [castN]); first | (simp []; done) | (simp []; omega))) ?_)
  | ((with_reducible show NeedK _ _ _ _); refine nK ?_)
  | ((with_reducible show DrawK _ _ _ _); refine dK ?_)) <;> (with_reducible ((conv => whnf); (conv => congr <;> reduce); repeat ((first | refine hK ?_ | refine sK ?_); (conv => whnf); (conv => congr <;> reduce))))
  | ((with_reducible show (_ ∧ _) ∧ _ ∧ _); refine ⟨⟨rfl, rfl⟩, ?_, ?_⟩ <;> with_reducible ((conv => whnf) <;> repeat' (first | exact trivial | (refine And.intro ?_ ?_ <;> (conv => whnf))))))
  all_goals have ho' : ordN l l.length n = out := by rw [ho]; simp [V.rest]
  all_goals clear ho hoL
  all_goals subst ho'
  all_goals first
   | rfl
   | exact MFL_refl (noRef_ints _)
 ·have ht := hst t (by simp)
  have hlen : (st' ++ [t]).length = st'.length + 1 := by simp
  obtain ⟨k, x, rfl, hx, hnx⟩ := there_iff.1 ht
  rw [hlen]
  rw [hlen] at hrl
  repeat' (first
  | (first
  | ((with_reducible show IfK _ _ _ _); first | refine IfK.ff ?_ | refine IfK.tt ?_ | refine IfK.no (by first | exact qA | ((try simp only [castN]); first | (simp []; done) | (simp []; omega))) ?_ | refine IfK.yes (by first | exact qA | ((try simp only [castN]); first | (simp []; done) | (simp []; omega))) ?_)
  | ((with_reducible show NeedK _ _ _ _); refine nK ?_)
  | ((with_reducible show DrawK _ _ _ _); refine dK ?_)) <;> (with_reducible ((conv => whnf); (conv => congr <;> reduce); repeat ((first | refine hK ?_ | refine sK ?_); (conv => whnf); (conv => congr <;> reduce))))
  | ((with_reducible show (_ ∧ _) ∧ _ ∧ _); refine ⟨⟨rfl, rfl⟩, ?_, ?_⟩ <;> with_reducible ((conv => whnf) <;> repeat' (first | exact trivial | (refine And.intro ?_ ?_ <;> (conv => whnf))))))
  refine LtK.mk st'.length (by (try simp only [castN]); omega) (by omega) ?_; (with_reducible ((conv => whnf); (conv => congr <;> reduce); repeat ((first | refine hK ?_ | refine sK ?_); (conv => whnf); (conv => congr <;> reduce))))
  refine ElemK.mk (eInt (k : Int)) (by rw [Nat.zero_add, List.getElem?_map, List.append_assoc, List.getElem?_append_right (Nat.le_refl _), Nat.sub_self]; rfl) ?_; (with_reducible ((conv => whnf); (conv => congr <;> reduce); repeat ((first | refine hK ?_ | refine sK ?_); (conv => whnf); (conv => congr <;> reduce))))
  repeat' (first
  | (first
  | ((with_reducible show IfK _ _ _ _); first | refine IfK.ff ?_ | refine IfK.tt ?_ | refine IfK.no (by first | exact qA | ((try simp only [castN]); first | (simp []; done) | (simp []; omega))) ?_ | refine IfK.yes (by first | exact qA | ((try simp only [castN]); first | (simp []; done) | (simp []; omega))) ?_)
  | ((with_reducible show NeedK _ _ _ _); refine nK ?_)
  | ((with_reducible show DrawK _ _ _ _); refine dK ?_)) <;> (with_reducible ((conv => whnf); (conv => congr <;> reduce); repeat ((first | refine hK ?_ | refine sK ?_); (conv => whnf); (conv => congr <;> reduce))))
  | ((with_reducible show (_ ∧ _) ∧ _ ∧ _); refine ⟨⟨rfl, rfl⟩, ?_, ?_⟩ <;> with_reducible ((conv => whnf) <;> repeat' (first | exact trivial | (refine And.intro ?_ ?_ <;> (conv => whnf))))))
  refine CutK.mk 0 st'.length rfl (by (try simp only [castN]); omega) (by omega) ?_; (with_reducible ((conv => whnf); (conv => congr <;> reduce); repeat ((first | refine hK ?_ | refine sK ?_); (conv => whnf); (conv => congr <;> reduce))))
  repeat' (first
  | (first
  | ((with_reducible show IfK _ _ _ _); first | refine IfK.ff ?_ | refine IfK.tt ?_ | refine IfK.no (by first | exact qA | ((try simp only [castN]); first | (simp []; done) | (simp []; omega))) ?_ | refine IfK.yes (by first | exact qA | ((try simp only [castN]); first | (simp []; done) | (simp []; omega))) ?_)
  | ((with_reducible show NeedK _ _ _ _); refine nK ?_)
  | ((with_reducible show DrawK _ _ _ _); refine dK ?_)) <;> (with_reducible ((conv => whnf); (conv => congr <;> reduce); repeat ((first | refine hK ?_ | refine sK ?_); (conv => whnf); (conv => congr <;> reduce))))
  | ((with_reducible show (_ ∧ _) ∧ _ ∧ _); refine ⟨⟨rfl, rfl⟩, ?_, ?_⟩ <;> with_reducible ((conv => whnf) <;> repeat' (first | exact trivial | (refine And.intro ?_ ?_ <;> (conv => whnf))))))
  refine AppK.mk (out.map oInt) [eInt (k : Int)] ⟨rfl, hol', rfl⟩ ⟨rfl, rfl, rfl⟩ rfl (by simp; omega) (by simp; omega) ?_; (with_reducible ((conv => whnf); (conv => congr <;> reduce); repeat ((first | refine hK ?_ | refine sK ?_); (conv => whnf); (conv => congr <;> reduce))))
  repeat' (first
  | (first
  | ((with_reducible show IfK _ _ _ _); first | refine IfK.ff ?_ | refine IfK.tt ?_ | refine IfK.no (by first | exact qA | ((try simp only [castN]); first | (simp []; done) | (simp []; omega))) ?_ | refine IfK.yes (by first | exact qA | ((try simp only [castN]); first | (simp []; done) | (simp []; omega))) ?_)
  | ((with_reducible show NeedK _ _ _ _); refine nK ?_)
  | ((with_reducible show DrawK _ _ _ _); refine dK ?_)) <;> (with_reducible ((conv => whnf); (conv => congr <;> reduce); repeat ((first | refine hK ?_ | refine sK ?_); (conv => whnf); (conv => congr <;> reduce))))
  | ((with_reducible show (_ ∧ _) ∧ _ ∧ _); refine ⟨⟨rfl, rfl⟩, ?_, ?_⟩ <;> with_reducible ((conv => whnf) <;> repeat' (first | exact trivial | (refine And.intro ?_ ?_ <;> (conv => whnf))))))
  obtain ⟨a1, a2, a3, a4, a5, a6, a7, a8, a9, a10⟩ := x
  refine IdxK.mk k (eNode _) rfl (node_get hx) ?_; (with_reducible ((conv => whnf); (conv => congr <;> reduce); repeat ((first | refine hK ?_ | refine sK ?_); (conv => whnf); (conv => congr <;> reduce))))
  repeat' (first
  | (first
  | ((with_reducible show IfK _ _ _ _); first | refine IfK.ff ?_ | refine IfK.tt ?_ | refine IfK.no (by first | exact qA | ((try simp only [castN]); first | (simp []; done) | (simp []; omega))) ?_ | refine IfK.yes (by first | exact qA | ((try simp only [castN]); first | (simp []; done) | (simp []; omega))) ?_)
  | ((with_reducible show NeedK _ _ _ _); refine nK ?_)
  | ((with_reducible show DrawK _ _ _ _); refine dK ?_)) <;> (with_reducible ((conv => whnf); (conv => congr <;> reduce); repeat ((first | refine hK ?_ | refine sK ?_); (conv => whnf); (conv => congr <;> reduce))))
  | ((with_reducible show (_ ∧ _) ∧ _ ∧ _); refine ⟨⟨rfl, rfl⟩, ?_, ?_⟩ <;> with_reducible ((conv => whnf) <;> repeat' (first | exact trivial | (refine And.intro ?_ ?_ <;> (conv => whnf))))))
  refine cV (f123_ok a7) c123 ?_; (with_reducible ((conv => whnf); (conv => congr <;> reduce); repeat ((first | refine hK ?_ | refine sK ?_); (conv => whnf); (conv => congr <;> reduce))))
  repeat' (first
  | (first
  | ((with_reducible show IfK _ _ _ _); first | refine IfK.ff ?_ | refine IfK.tt ?_ | refine IfK.no (by first | exact qA | ((try simp only [castN]); first | (simp []; done) | (simp []; omega))) ?_ | refine IfK.yes (by first | exact qA | ((try simp only [castN]); first | (simp []; done) | (simp []; omega))) ?_)
  | ((with_reducible show NeedK _ _ _ _); refine nK ?_)
  | ((with_reducible show DrawK _ _ _ _); refine dK ?_)) <;> (with_reducible ((conv => whnf); (conv => congr <;> reduce); repeat ((first | refine hK ?_ | refine sK ?_); (conv => whnf); (conv => congr <;> reduce))))
  | ((with_reducible show (_ ∧ _) ∧ _ ∧ _); refine ⟨⟨rfl, rfl⟩, ?_, ?_⟩ <;> with_reducible ((conv => whnf) <;> repeat' (first | exact trivial | (refine And.intro ?_ ?_ <;> (conv => whnf))))))
  obtain ⟨spF, hs0, hs1⟩ : ∃ spF : Nat → List Int, spF 0 = (k : Int) :: sp ∧ ∀ j, spF (j + 1) = [] := ⟨fun j => match j with | 0 => (k : Int) :: sp | _ + 1 => [], rfl, fun _ => rfl⟩
  have hk7 := hs.kids _ (List.mem_of_getElem? hx)
  simp only at hk7
  refine LoopK.range G G_good 3 [(2, .ptr 1 0 0), (5, .own 2 0 (out.length + 1)), (6, .ptr 0 0 0), (41, .clo (.func 155) [] [.fptr (eInts a7) 0])]
   (fun j => [(0, .live 1 [.own 171 0 (st'.length + j)] false), (1, .live 2 [eFor ⟨l, m⟩] false), (2, rInts (out ++ [(k : Int)])), (171, rInts (st' ++ a7.reverse.take j ++ spF j))])
   (back_it a7 (by omega)) c155 ?_ rfl ⟨⟨rfl, rfl⟩, rfl⟩ (fun _ _ => rfl) (fun _ _ => rfl) ⟨⟨rfl, rfl⟩, rfl, rfl⟩ ?_ ?_
  ·refine ⟨⟨rfl, rfl⟩, ?_⟩
   (with_reducible conv => whnf)
   repeat' (first | (with_reducible exact trivial) | (with_reducible refine And.intro ?_ ?_ <;> with_reducible conv => whnf))
   all_goals try rfl
   ·simp
   ·exact ⟨.refl rfl, rfl⟩
   ·refine ⟨?_, noRef_ints _⟩
    rw [← show (out ++ [(k : Int)]).map oInt = out.map oInt ++ [AV.lit (.int .i64 k)] by simp; rfl]
    exact .refl (noRef_ints _)
   ·refine ⟨?_, noRef_ints _⟩
    rw [hs0, List.take_zero, List.append_nil, show st' ++ [(k : Int)] ++ sp = st' ++ (k : Int) :: sp by simp]; exact .refl (noRef_ints _)
  ·intro j hj
   (with_reducible ((conv => whnf); (conv => congr <;> reduce); repeat ((first | refine hK ?_ | refine sK ?_); (conv => whnf); (conv => congr <;> reduce))))
   refine BodyK.mk rfl ?_; (with_reducible ((conv => whnf); (conv => congr <;> reduce); repeat ((first | refine hK ?_ | refine sK ?_); (conv => whnf); (conv => congr <;> reduce))))
   repeat' (first
  | (first
  | ((with_reducible show IfK _ _ _ _); first | refine IfK.ff ?_ | refine IfK.tt ?_ | refine IfK.no (by first | exact qA | ((try simp only [castN]); first | (simp []; done) | (simp []; omega))) ?_ | refine IfK.yes (by first | exact qA | ((try simp only [castN]); first | (simp []; done) | (simp []; omega))) ?_)
  | ((with_reducible show NeedK _ _ _ _); refine nK ?_)
  | ((with_reducible show DrawK _ _ _ _); refine dK ?_)) <;> (with_reducible ((conv => whnf); (conv => congr <;> reduce); repeat ((first | refine hK ?_ | refine sK ?_); (conv => whnf); (conv => congr <;> reduce))))
  | ((with_reducible show (_ ∧ _) ∧ _ ∧ _); refine ⟨⟨rfl, rfl⟩, ?_, ?_⟩ <;> with_reducible ((conv => whnf) <;> repeat' (first | exact trivial | (refine And.intro ?_ ?_ <;> (conv => whnf))))))
   refine AppK.take ((st' ++ a7.reverse.take j).map oInt) [oInt ((a7.reverse[j]?).getD 0)] ⟨rfl, by simp; omega, by rw [List.map_append (l₂ := spF j), List.take_left' (by simp; omega)]⟩ ⟨rfl, rfl, rfl⟩ rfl (by simp; omega) (by simp; omega) ?_
   (with_reducible ((conv => whnf); (conv => congr <;> reduce); repeat ((first | refine hK ?_ | refine sK ?_); (conv => whnf); (conv => congr <;> reduce))))
   repeat' (first
  | (first
  | ((with_reducible show IfK _ _ _ _); first | refine IfK.ff ?_ | refine IfK.tt ?_ | refine IfK.no (by first | exact qA | ((try simp only [castN]); first | (simp []; done) | (simp []; omega))) ?_ | refine IfK.yes (by first | exact qA | ((try simp only [castN]); first | (simp []; done) | (simp []; omega))) ?_)
  | ((with_reducible show NeedK _ _ _ _); refine nK ?_)
  | ((with_reducible show DrawK _ _ _ _); refine dK ?_)) <;> (with_reducible ((conv => whnf); (conv => congr <;> reduce); repeat ((first | refine hK ?_ | refine sK ?_); (conv => whnf); (conv => congr <;> reduce))))
  | ((with_reducible show (_ ∧ _) ∧ _ ∧ _); refine ⟨⟨rfl, rfl⟩, ?_, ?_⟩ <;> with_reducible ((conv => whnf) <;> repeat' (first | exact trivial | (refine And.intro ?_ ?_ <;> (conv => whnf))))))
   refine TurnK.mk ?_
   obtain ⟨c, hc⟩ : ∃ c, a7.reverse[j]? = some c := ⟨_, List.getElem?_eq_getElem (by simpa using hj)⟩
   have htk : a7.reverse.take (j + 1) = a7.reverse.take j ++ [c] := by rw [List.take_add_one, hc]; rfl
   rw [hc, Option.getD_some]
   refine ⟨⟨rfl, rfl⟩, ?_⟩
   (with_reducible conv => whnf)
   repeat' (first | (with_reducible exact trivial) | (with_reducible refine And.intro ?_ ?_ <;> with_reducible conv => whnf))
   all_goals try rfl
   ·simp; omega
   ·exact ⟨.refl rfl, rfl⟩
   ·exact ⟨.refl (noRef_ints _), noRef_ints _⟩
   ·refine ⟨?_, noRef_ints _⟩
    rw [hs1, htk, List.append_nil, ← List.append_assoc, List.map_append (l₂ := [c])]; exact .refl (by rw [← List.map_append]; exact noRef_ints _)
  ·(with_reducible ((conv => whnf); (conv => congr <;> reduce); repeat ((first | refine hK ?_ | refine sK ?_); (conv => whnf); (conv => congr <;> reduce))))
   have hT : nd l k = ⟨a1, a2, a3, a4, a5, a6, a7, a8, a9, a10⟩ := hnx
   have hch : (nd l k).kids = a7 := by rw [hT]
   have hpop := V.rest_pop T (st := st') ht
   rw [hch] at hpop
   have hkid : ∀ c ∈ a7, thereN l c = true := fun c hc => (T.kid k ht c (by rw [hch]; exact hc)).1
   have hta : a7.reverse.take a7.length = a7.reverse := List.take_of_length_le (by simp)
   refine NextK.mk (out ++ [(k : Int)], st' ++ a7.reverse, spF a7.length) ⟨?_, ?_⟩ ?_ ?_
   ·rw [ho, hpop]; simp
   ·intro c hc
    rcases List.mem_append.1 hc with h | h
    ·exact hst c (by simp [h])
    ·exact hkid c (by simpa using h)
   ·simp only [List.length_append, List.length_singleton]; omega
   ·refine ⟨⟨rfl, rfl⟩, ?_⟩
    (with_reducible conv => whnf)
    repeat' (first | (with_reducible exact trivial) | (with_reducible refine And.intro ?_ ?_ <;> with_reducible conv => whnf))
    all_goals try rfl
    ·simp
    ·exact ⟨.refl (noRef_ints _), noRef_ints _⟩
    ·simp
    ·refine ⟨?_, noRef_ints _⟩
     rw [hta]; exact .refl (noRef_ints _)
theorem wide_ints (l : List Int) : wideM [(0, rInts l)] = true := by
 have : wideB 1 (l.map oInt) = true := List.all_eq_true.2 fun x hx => by
  obtain ⟨n, _, rfl⟩ := List.mem_map.1 hx; rfl
 show (wideB 1 (l.map oInt) && true) = true
 rw [this]; rfl
theorem f78_ok (f : ForM) (hs : SmallN f.nodes) (n : Int) : FnOK Tryz.prog 78 [] [eFor f, eInt n] [] (eInts (ordF f n)) := by
 cases e0 : (rightF f && thereN f.nodes n) with
 | true =>
   unfold ordF
   rw [if_pos e0]
   refine FnOK.frozen [(0, rInts (ordN f.nodes f.nodes.length n))] ?_ (wide_ints _) (f78_own f hs n e0) (frz_ints rfl rfl rfl rfl)
   funext t
   match t with
   | 0 => rfl
   | n + 1 => rfl
 | false =>
   have h76 := f76_ok f hs [n] (by simp)
   rw [asked_one, e0] at h76
   unfold ordF
   rw [e0]
   obtain ⟨l, m⟩ := f
   refine FnOK.startC (rvs := [.tmp 4]) G G_good Tryz.func78 rfl Tryz.ntmps78 rfl rfl ?_; delta List.toArray; (with_reducible ((conv => whnf); (conv => congr <;> reduce); repeat ((first | refine hK ?_ | refine sK ?_); (conv => whnf); (conv => congr <;> reduce))))
   refine CallK.lit [131] h76 c76 ⟨⟨rfl, rfl, trivial⟩, frz_ints (l := [n]) rfl rfl rfl rfl, trivial⟩ rfl rfl ?_; (with_reducible ((conv => whnf); (conv => congr <;> reduce); repeat ((first | refine hK ?_ | refine sK ?_); (conv => whnf); (conv => congr <;> reduce))))
   repeat' (first
  | (first
  | ((with_reducible show IfK _ _ _ _); first | refine IfK.ff ?_ | refine IfK.tt ?_ | refine IfK.no (by first | exact qA | ((try simp only [castN]); first | (simp []; done) | (simp []; omega))) ?_ | refine IfK.yes (by first | exact qA | ((try simp only [castN]); first | (simp []; done) | (simp []; omega))) ?_)
  | ((with_reducible show NeedK _ _ _ _); refine nK ?_)
  | ((with_reducible show DrawK _ _ _ _); refine dK ?_)) <;> (with_reducible ((conv => whnf); (conv => congr <;> reduce); repeat ((first | refine hK ?_ | refine sK ?_); (conv => whnf); (conv => congr <;> reduce))))
  | ((with_reducible show (_ ∧ _) ∧ _ ∧ _); refine ⟨⟨rfl, rfl⟩, ?_, ?_⟩ <;> with_reducible ((conv => whnf) <;> repeat' (first | exact trivial | (refine And.intro ?_ ?_ <;> (conv => whnf))))))
   all_goals exact .inr (.inr ⟨1, rfl⟩)
@[reducible] def eIds (t : List (ByteArray × Int)) : AV := .fmap (tRows Value.string oInt t)
def oIds (t : List (ByteArray × Int)) : AV := eIds t
@[reducible] def idRows (c : List (Int × List (ByteArray × Int))) : List AV := tRows vInt oIds c
@[reducible] def idsM (c : List (Int × List (ByteArray × Int))) : MS := .live 2 (idRows c) false
theorem mt114 : MapTy Tryz.prog 114 (.int .i64) (.map none) := ⟨3, 134, by kernel_rfl, by kernel_rfl, fun w => Tryz.zeroValue134 w⟩
theorem noRef_tRows {K α : Type} (kv : K → Value) (e : α → AV) (h : ∀ a, noRef (e a) = true) (l : List (K × α)) : noRefL (tRows kv e l) = true := by
 rw [noRefL_iff]; intro x hx
 obtain ⟨p, _, rfl⟩ := List.mem_map.1 hx
 simp [entry, noRef, noRefL, h]
theorem noRef_ids (c : List (Int × List (ByteArray × Int))) : noRefL (idRows c) = true := noRef_tRows _ _ (fun _ => rfl) c
theorem noRef_idT (t : List (ByteArray × Int)) : noRefL (tRows Value.string oInt t) = true := noRef_tRows _ _ (fun _ => rfl) t
structure IdsOK (l : List NodeM) (c : List (Int × List (ByteArray × Int))) : Prop where
 is : ∀ r t, tget r c = some t → t = idTab l r
 len : c.length ≤ 1000
def keepT (l : List NodeM) (c : List (Int × List (ByteArray × Int))) (r : Int) : List (Int × List (ByteArray × Int)) := match tget r c with
 | some _ => c
 | none => c ++ [(r, idTab l r)]
def stepC (l : List NodeM) (c : List (Int × List (ByteArray × Int))) (n : Int) : List (Int × List (ByteArray × Int)) :=
 if (nd l n).kind = 1 then
  match attV (nd l n) formW with
  | some _ => if conN l n = true then keepT l c (rootN l n) else c
  | none => c
 else c
theorem keepT_is {l : List NodeM} {c : List (Int × List (ByteArray × Int))} (h : ∀ r t, tget r c = some t → t = idTab l r) (r : Int) : ∀ q t, tget q (keepT l c r) = some t → t = idTab l q := by
 intro q t
 unfold keepT
 cases hg : tget r c with
 | some x => exact h q t
 | none =>
   rw [← tput_new hg, tget_put]
   by_cases e : r = q
   ·rw [if_pos e]; intro ht; cases ht; rw [e]
   ·rw [if_neg e]; exact h q t
theorem keepT_len (l : List NodeM) (c : List (Int × List (ByteArray × Int))) (r : Int) : (keepT l c r).length ≤ c.length + 1 := by
 unfold keepT; split <;> simp
theorem stepC_is {l : List NodeM} {c : List (Int × List (ByteArray × Int))} (h : ∀ r t, tget r c = some t → t = idTab l r) (n : Int) : ∀ q t, tget q (stepC l c n) = some t → t = idTab l q := by
 unfold stepC
 split
 ·split
  ·split
   ·exact keepT_is h _
   ·exact h
  ·exact h
 ·exact h
theorem stepC_len (l : List NodeM) (c : List (Int × List (ByteArray × Int))) (n : Int) : (stepC l c n).length ≤ c.length + 1 := by
 unfold stepC
 split
 ·split
  ·split
   ·exact keepT_len _ _ _
   ·omega
  ·omega
 ·omega
theorem f116_ok (l : List NodeM) (m : Int) (c : List (Int × List (ByteArray × Int))) (T : Tree l) (n : Int) (hn : thereN l n = true) :
  FnOK Tryz.prog 116 [] [.agg [eNodes l, eInt m, .fmap (idRows c)], eInt n] [] (eInt (nearN l n)) := by
 have hstep := fun n h1 h2 => find_step T (fun p => isForm (nd l p)) (n := n) h1 h2
 have htop := fun n h1 h2 => find_top T (fun p => isForm (nd l p)) (n := n) h1 h2
 have hwst := fun n h1 h2 => way_step T (n := n) h1 h2
 have hpar : ∀ n, thereN l n = true → (nd l n).parent = -1 ∨ thereN l (nd l n).parent = true := fun n hn => by
  by_cases h : (nd l n).parent = -1
  ·exact .inl h
  ·exact .inr (T.par n hn h).1
 unfold nearN
 obtain ⟨q, hq⟩ : ∃ q : Int → Bool, (fun p => isForm (nd l p)) = q := ⟨_, rfl⟩
 rw [hq] at hstep htop ⊢
 have hqe : ∀ p, q p = isForm (nd l p) := fun p => by rw [← hq]
 have step : ∀ p y, thereN l p = true → nd l p = y → (y.parent = -1 ∧ nearBy l q p = -1) ∨ (thereN l y.parent = true ∧ y.parent ≠ -1 ∧ (nearBy l q p = if isForm (nd l y.parent) = true then y.parent else nearBy l q y.parent) ∧ (wayN l y.parent).length < (wayN l p).length) := by
  rintro p y hp rfl
  by_cases e : (nd l p).parent = -1
  ·exact .inl ⟨e, htop p hp e⟩
  ·exact .inr ⟨(hpar p hp).resolve_left e, e, (hstep p hp e).trans (by first | rfl | rw [hqe]), by rw [hwst p hp e]; simp⟩
 clear hstep htop hwst hpar
 refine FnOK.startC (rvs := [.tmp 4]) G G_good Tryz.func116 rfl Tryz.ntmps116 rfl rfl ?_; with_reducible refine wD ?_
 obtain ⟨i, y, e, hy, hny⟩ := there_iff.1 hn
 have hst := step n y hn hny
 obtain ⟨b1, b2, b3, b4, b5, b6, b7, b8, b9, b10⟩ := y
 simp only at hst
 refine IdxK.mk i (eNode _) e (node_get hy) ?_; with_reducible refine wK ?_
 refine LoopK.use G G_good (fun (p : Int) => [(1, eInt p), (2, .ptr 20 0 0)]) (fun _ => [(20, .live 3 [.agg [eNodes l, eInt m, .fmap (idRows c)]] false)])
  (fun p => (p = -1 ∧ nearBy l q n = -1) ∨ (thereN l p = true ∧ p ≠ -1 ∧ nearBy l q n = if isForm (nd l p) = true then p else nearBy l q p)) (fun p => if p = -1 then 0 else (wayN l p).length) b6
  (by rcases hst with h | ⟨h1, h2, h3, _⟩; exact .inl h; exact .inr ⟨h1, h2, h3⟩) (by (refine fK ?_; (with_reducible repeat' (first | exact trivial | (show _ ∧ _; refine aK ?_ ?_))); (all_goals try rfl))) ?_
 intro p hp
 with_reducible refine wK ?_
 rcases hp with ⟨rfl, h1⟩ | ⟨h1, h2, h3⟩
 ·rw [h1]
  repeat' (first
  | refine gK ?_ | refine aE ?_ ?_
  | apply trivial)
  all_goals rfl
 ·obtain ⟨j, z, e', hz, hnz⟩ := there_iff.1 h1
  have hst := step p z h1 hnz
  rw [hnz] at h3
  have h81 := f81_ok z
  obtain ⟨c1, c2, c3, c4, c5, c6, c7, c8, c9, c10⟩ := z
  simp only at hst
  cases hf : isForm ⟨c1, c2, c3, c4, c5, c6, c7, c8, c9, c10⟩ with
  | true =>
    rw [hf] at h81 h3
    rw [h3, if_pos rfl]
    (have fct := (eq_false h2); (repeat' (first
  | refine gF ?_ | refine aE ?_ ?_
  | ((first
   | ((with_reducible refine kQ 81 ?_); refine cL h81 c81 ?_)
   | (refine IdxK.mk j (eNode ⟨c1, c2, c3, c4, c5, c6, c7, c8, c9, c10⟩) e' (node_get hz) ?_)) <;> with_reducible refine wK ?_)
  | apply trivial)); all_goals clear fct)
    all_goals rfl
  | false =>
    rw [hf] at h81 h3
    rw [if_neg (by simp)] at h3
    (have fct := (eq_false h2); (repeat' (first
  | refine gF ?_ | refine aE ?_ ?_
  | ((first
   | ((with_reducible refine kQ 81 ?_); refine cL h81 c81 ?_)
   | (refine IdxK.mk j (eNode ⟨c1, c2, c3, c4, c5, c6, c7, c8, c9, c10⟩) e' (node_get hz) ?_)) <;> with_reducible refine wK ?_)
  | apply trivial)); all_goals clear fct)
    refine NextK.mk c6 ?_ ?_ ?_
    ·rw [h3]
     rcases hst with h | ⟨g1, g2, g3, _⟩
     ·exact .inl h
     ·exact .inr ⟨g1, g2, g3⟩
    ·rw [if_neg h2]
     rcases hst with ⟨h, _⟩ | ⟨_, g2, _, g4⟩
     ·rw [if_pos h]
      obtain ⟨r, hr⟩ := way_head T h1
      rw [hr]; simp
     ·rw [if_neg g2]; exact g4
    ·(refine fK ?_; (with_reducible repeat' (first | exact trivial | (show _ ∧ _; refine aK ?_ ?_))); (all_goals try rfl))
theorem f73_ok (f : ForM) : FnOK Tryz.prog 73 [] [eFor f] [idsM []] (.agg [eNodes f.nodes, eInt f.most, .mapr 0]) := by
 obtain ⟨l, m⟩ := f
 refine FnOK.startC (rvs := [.cell 2 116]) G G_good Tryz.func73 rfl Tryz.ntmps73 rfl rfl ?_; with_reducible refine wD ?_
 repeat' (first
  | refine gK ?_ | refine aE ?_ ?_
  | apply trivial)
 all_goals first | rfl | trivial
theorem rows_snoc {R : AV → AV → Prop} {a b : List AV} {x y : AV} (h : RowsM R a b) (k : R x y) : RowsM R (a ++ [x]) (b ++ [y]) := by
 refine ⟨by simp [h.1], fun i u v hu hv => ?_⟩
 rw [List.getElem?_append] at hu hv
 rw [h.1] at hu
 by_cases hi : i < b.length
 ·rw [if_pos hi] at hu hv; exact h.2 i u v hu hv
 ·rw [if_neg hi] at hu hv
  rw [List.getElem?_singleton] at hu hv
  split at hu
  ·rename_i h0; rw [if_pos h0] at hv; cases hu; cases hv; exact k
  ·cases hu
theorem MFL_of {R : AV → AV → Prop} : ∀ {a b : List AV}, RowsM R a b → MFL R a b
 | [], [], _ => trivial
 | x :: xs, y :: ys, h => ⟨h.2 0 x y rfl rfl, MFL_of ⟨by have := h.1; simpa using this, fun i u v hu hv => h.2 (i + 1) u v (by simpa using hu) (by simpa using hv)⟩⟩
 | [], _ :: _, h => by have := h.1; simp at this
 | _ :: _, [], h => by have := h.1; simp at this
theorem ids_snoc (c : List (Int × List (ByteArray × Int))) (r : Int) (t : List (ByteArray × Int)) : idRows (c ++ [(r, t)]) = idRows c ++ [entry (vInt r) (eIds t)] := by
 unfold idRows tRows; rw [List.map_append]; rfl
theorem frz_idT {m : ML} {fz : Nat → Bool} {k : Nat} {ro : Bool} {rows : List AV} {t : List (ByteArray × Int)} (h1 : lkM m k = .live 2 rows ro) (h2 : fz k = true) (h3 : rows = tRows Value.string oInt t) : FrzMK m fz (eIds t) k := by
 subst h3
 refine ⟨2, _, ro, h1, h2, rfl, fun x hx => ?_⟩
 obtain ⟨p, _, rfl⟩ := List.mem_map.1 hx
 exact ⟨_, _, rfl, rfl⟩
theorem f117_ok (l : List NodeM) (m : Int) (hs : SmallN l) (hrt : rightF ⟨l, m⟩ = true) (c : List (Int × List (ByteArray × Int))) (hc : IdsOK l c) (r : Int) (hr : thereN l r = true) :
  FnOK Tryz.prog 117 [idsM c] [.agg [eNodes l, eInt m, .mapr 0], eInt r] [idsM (keepT l c r)] (eIds (idTab l r)) := by
 have T : Tree l := tree_of hrt
 have h78 := f78_ok ⟨l, m⟩ hs r
 have e78 : ordF ⟨l, m⟩ r = ordN l l.length r := by unfold ordF; rw [if_pos (by rw [hrt, hr]; rfl)]
 rw [e78] at h78
 have hol := ord_len T l.length hr
 have h60 := hs.len
 have hot : ∀ k ∈ ordN l l.length r, thereN l k = true := fun k hk => (ord_root T hr hk).1
 have hci := hc.is r
 have hcl := hc.len
 obtain ⟨kt, hkt⟩ : ∃ kt, keepT l c r = kt := ⟨_, rfl⟩
 rw [hkt]
 unfold keepT at hkt
 unfold idTab at hkt hci ⊢
 have hci := hci
 generalize ordN l l.length r = ks at h78 hol hot hci hkt ⊢
 have hkm : (ks.map oInt).length = ks.length := List.length_map ..
 refine FnOK.startC (rvs := [.tmp 4]) G G_good Tryz.func117 rfl Tryz.ntmps117 rfl rfl ?_; with_reducible refine wD ?_
 refine LookK.tab vInt oIds c (k := r) (zv := .lit (.map none)) mt114 ⟨_, _, rfl⟩ key_int inj_int rfl rfl (fun x hx => ?_) (fun hx => ?_)
 ·rw [hx] at hkt
  dsimp only at hkt
  subst hkt
  rw [show oIds x = eIds x from rfl]
  have hxe := hci x hx
  with_reducible refine wK ?_
  repeat' (first
  | refine gK ?_ | refine aE ?_ ?_
  | apply trivial)
  all_goals first
   | exact MFL_refl (noRef_ids c)
   | rfl
   | exact (congrArg eIds hxe).symm
   | skip
 ·rw [hx] at hkt
  dsimp only at hkt
  subst hkt
  with_reducible refine wK ?_
  repeat' (first
  | refine gK ?_ | refine aE ?_ ?_
  | (((with_reducible refine kQ 78 ?_); refine cV h78 c78 ?_) <;> with_reducible refine wK ?_)
  | apply trivial)
  refine LoopK.use G G_good (fun (j : Nat) => [(1, eInt r), (2, .ptr 20 0 0), (7, .mapr 71), (27, eInts ks), (28, eInt ks.length), (29, eInt j)])
   (fun j => [(0, idsM c), (20, .live 3 [.agg [eNodes l, eInt m, .mapr 0]] false), (71, .live 2 (tRows Value.string oInt ((ks.take j).foldl (addId l) [])) false)])
   (fun j => j ≤ ks.length) (fun j => ks.length - j) 0 (Nat.zero_le _) ?_ ?_
  ·(refine fK ?_; (with_reducible repeat' (first | exact trivial | (show _ ∧ _; refine aK ?_ ?_))); (all_goals try rfl))
   all_goals first
    | exact MFL_refl (noRef_ids c)
    | exact hkm
    | (show (ks.length : Int) = _; rw [hkm])
    | (show ObjK _ [] []; exact ⟨.refl rfl, rfl⟩)
    | skip
  intro j hj
  with_reducible refine wK ?_
  refine IfK.mk (fun h1 => ?_) (fun h1 => ?_) <;> (try simp only [castN] at h1) <;> with_reducible refine wK ?_
  ·have hj' : j < ks.length := by simp only [decide_eq_true_eq] at h1; omega
   obtain ⟨k, hk⟩ : ∃ k, ks[j]? = some k := ⟨_, List.getElem?_eq_getElem hj'⟩
   obtain ⟨i, y, e, hy, hny⟩ := there_iff.1 (hot k (List.mem_of_getElem? hk))
   have h47 := f47_ok y.attrs (by have := hs.attrs y (List.mem_of_getElem? hy); omega) idW
   have hst : (ks.take (j + 1)).foldl (addId l) [] = addId l ((ks.take j).foldl (addId l) []) k := by
    rw [List.take_add_one, hk, List.foldl_append]; rfl
   have hfl := fold_len l (ks.take j) []
   rw [List.length_nil, List.length_take] at hfl
   generalize (ks.take j).foldl (addId l) [] = t at hst hfl ⊢
   have ha : addId l t k = if 0 ≤ findP y.attrs idW ∧ tget (getS y.attrs idW) t = none then tput (getS y.attrs idW) k t else t := by
    unfold addId attV
    rw [hny]
    by_cases e1 : 0 ≤ findP y.attrs idW
    ·rw [if_pos e1]
     simp only
     cases e2 : tget (getS y.attrs idW) t with
     | none => rw [if_pos ⟨e1, rfl⟩]
     | some z => rw [if_neg (fun h => by cases h.2)]
    ·rw [if_neg e1, if_neg (fun h => e1 h.1)]
   rw [ha] at hst
   generalize hg : getS y.attrs idW = gs at h47 hst
   obtain ⟨ok, hok⟩ : ∃ ok, decide (0 ≤ findP y.attrs idW) = ok := ⟨_, rfl⟩
   rw [hok] at h47
   have hst' : (ks.take (j + 1)).foldl (addId l) [] = if ok = true ∧ tget gs t = none then tput gs k t else t := by rw [hst]; simp only [← hok, decide_eq_true_eq]
   clear ha hst hg hok
   obtain ⟨b1, b2, b3, b4, b5, b6, b7, b8, b9, b10⟩ := y
   simp only at h47
   refine IdxK.mk j (eInt k) rfl (int_get hk) ?_; with_reducible refine wK ?_
   refine IdxK.mk i (eNode _) e (node_get hy) ?_; with_reducible refine wK ?_
   refine cL h47 c47 ?_; with_reducible refine wK ?_
   refine LookK.tab Value.string oInt t (k := gs) (zv := eInt 0) map62 ⟨_, _, rfl⟩ key_str inj_str rfl rfl (fun x hx2 => ?_) (fun hx2 => ?_)
   ·rw [hx2, if_neg (fun h => by cases h.2)] at hst'
    rw [show oInt x = eInt x from rfl]
    with_reducible refine wK ?_
    cases ok <;> (
     repeat' (first
  | refine gK ?_ | refine aE ?_ ?_
  | apply trivial)
     refine NextK.mk (j + 1) (by omega) (by omega) ?_
     rw [hst']
     (refine fK ?_; (with_reducible repeat' (first | exact trivial | (show _ ∧ _; refine aK ?_ ?_))); (all_goals try rfl))
     all_goals first
      | exact MFL_refl (noRef_ids c)
      | exact ⟨.refl (noRef_idT t), noRef_idT t⟩
      | skip)
   ·rw [hx2] at hst'
    with_reducible refine wK ?_
    cases ok with
    | false =>
      rw [if_neg (fun h => by cases h.1)] at hst'
      repeat' (first
  | refine gK ?_ | refine aE ?_ ?_
  | apply trivial)
      refine NextK.mk (j + 1) (by omega) (by omega) ?_
      rw [hst']
      (refine fK ?_; (with_reducible repeat' (first | exact trivial | (show _ ∧ _; refine aK ?_ ?_))); (all_goals try rfl))
      all_goals first
       | exact MFL_refl (noRef_ids c)
       | exact ⟨.refl (noRef_idT t), noRef_idT t⟩
       | skip
    | true =>
      rw [if_pos ⟨rfl, rfl⟩] at hst'
      repeat' (first
  | refine gK ?_ | refine aE ?_ ?_
  | apply trivial)
      refine PutK.tab Value.string oInt t k map62 rfl key_str inj_str (by unfold maxLen; omega) rfl ?_; with_reducible refine wK ?_
      repeat' (first
  | refine gK ?_ | refine aE ?_ ?_
  | apply trivial)
      refine NextK.mk (j + 1) (by omega) (by omega) ?_
      rw [hst']
      (refine fK ?_; (with_reducible repeat' (first | exact trivial | (show _ ∧ _; refine aK ?_ ?_))); (all_goals try rfl))
      all_goals first
       | exact MFL_refl (noRef_ids c)
       | exact ⟨.refl (noRef_idT _), noRef_idT _⟩
       | skip
  ·have hjl : j = ks.length := by simp only [decide_eq_false_iff_not] at h1; omega
   subst hjl
   rw [List.take_length]
   generalize hT : ks.foldl (addId l) [] = t
   repeat' (first
  | refine gK ?_ | refine aE ?_ ?_
  | apply trivial)
   refine PutK.new mt114 rfl (key_int r) (tRows_ents key_int) (tRows_no inj_int hx) (by simp [idRows, tRows, maxLen]; omega) rfl rfl ?_; with_reducible refine wK ?_
   repeat' (first
  | refine gK ?_ | refine aE ?_ ?_
  | apply trivial)
   all_goals first
    | exact frz_idT rfl rfl rfl
    | skip
   rw [ids_snoc]
   refine MFL_of (rows_snoc (.refl (noRef_ids c)) ?_)
   exact ⟨rfl, ⟨frz_idT rfl rfl rfl, trivial⟩, trivial⟩
end Go.Proofs.Heir
