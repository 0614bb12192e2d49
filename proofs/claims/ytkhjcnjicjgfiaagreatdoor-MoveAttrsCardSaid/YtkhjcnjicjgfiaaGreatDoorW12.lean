/- Models, plain laws and contracts of functions of the given program; conditions as stated in each theorem. By an AI agent. -/
import Derived.Test.YtkhjcnjicjgfiaaGreatDoorW5
import Derived.Test.YtkhjcnjicjgfiaaGreatDoorW11
import Derived.Laws.Runes
import Derived.Shelf.Strings.Builder1
import Derived.Test.YtkhjcnjicjgfiaaGreatDoorChecked
import Derived.Test.YtkhjcnjicjgfiaaGreatDoorW8
import Derived.Tactics
import Derived.Test.YtkhjcnjicjgfiaaGreatDoorW4
set_option linter.unusedSimpArgs false
set_option linter.unusedVariables false
namespace Go.Proofs.Heir
open Go Go.Am
set_option maxRecDepth 100000
set_option maxHeartbeats 8000000
theorem mt78 : MapTy Tryz.prog 224 .string (.agg #[.string ByteArray.empty, .string ByteArray.empty]) := ⟨9, 90, by kernel_rfl, by kernel_rfl, fun w => Tryz.zeroValue90 w⟩
def kindsT : List (Nat × IntKind) := [(3, .i64), (5, .u8), (21, .i32), (28, .i64)]
theorem kindsT_ok : ∀ p ∈ kindsT, Tryz.prog.underlying p.1 = some (.int p.2) := List.forall_mem_cons.2 ⟨by kernel_rfl, List.forall_mem_cons.2 ⟨by kernel_rfl, List.forall_mem_cons.2 ⟨by kernel_rfl, List.forall_mem_cons.2 ⟨by kernel_rfl, fun _ h => by simp at h⟩⟩⟩⟩
def mapsT : MEnv := [(206, .int .i64, .int .i64 0), (224, .string, .agg #[.string ByteArray.empty, .string ByteArray.empty])]
theorem mapsT_ok : MEnv.Good Tryz.prog mapsT := List.forall_mem_cons.2 ⟨mt74, List.forall_mem_cons.2 ⟨mt78, fun _ h => by simp at h⟩⟩
end Go.Proofs.Heir
namespace Go.Proofs.Heir
open Go Go.Am Go.RowKit Go.Lib
set_option maxRecDepth 100000
set_option maxHeartbeats 8000000
theorem i32_run (s t : TypeId) (c : Int) (h1 : Tryz.prog.underlying s = some (.int .i32)) (h2 : Tryz.prog.underlying t = some .string) : ∀ w, (convert s t (.int .i32 c)).run Tryz.prog w = .ok (.string (Utf8.encode c)) w :=
  fun w => run_convert_int_string w s t .i32 c (by rw [h1]; rfl) h2
theorem enc_size (c : Int) : (Utf8.encode c).size ≤ 4 := by
  unfold Utf8.encode
  simp only
  repeat' split
  all_goals exact Nat.le_of_ble_eq_true rfl
@[reducible] def aB : ByteArray := ⟨#[97]⟩
def wordB (r : Nat) : Bool := !rightS (aB ++ Utf8.encode (r : Int))
theorem f232_ok (c : Int) : FnOK Tryz.prog 232 [] [eRune c] [] (eBool (!rightS (aB ++ Utf8.encode c))) := by
  have hsz := enc_size c
  have ha : aB.size = 1 := rfl
  refine FnOK.startC (rvs := [.tmp 2]) G G_good Tryz.func232 rfl Tryz.ntmps232 rfl rfl ?_; with_reducible refine wD ?_
  refine ConvK.mk _ (i32_run 21 9 c (by kernel_rfl) (by kernel_rfl)) ?_; with_reducible refine wK ?_
  refine NeedK.mk (by have := enc_size c; have h1 : (⟨⟨[97]⟩⟩ : ByteArray).size = 1 := rfl; omega) ?_; with_reducible refine wK ?_
  refine CallK.lit [] (f133_ok _) c133 ⟨rfl, trivial⟩ rfl rfl ?_; with_reducible refine wK ?_
  (refine eK ?_ ?_ <;> with_reducible repeat' (first | exact trivial | (show _ ∧ _; refine aK ?_ ?_)))
  all_goals first | rfl | trace_state
theorem f213_word (s : ByteArray) : FnOK Tryz.prog 213 [] [eStr s, .lit (.func (.func 232) #[] #[])] [] (eInt (Lib.idxFunc wordB true s)) :=
  FnOK.of_calls (vs := [.string s, .func (.func 232) #[] #[]]) fun w ht => f213_calls 232 c232 wordB s w ht fun W x ht _ => (f232_ok (x : Int)).below (vs := [.int .i32 (x : Int)]) W ht
theorem f220_nil : FnOK Tryz.prog 220 [.live 2 [.agg [.lit (.pointer none), .lit (.slice none 0 0)]] false] [.ptr 0 0 0] [.live 2 [.agg [.lit (.pointer none), .lit (.slice none 0 0)]] false] (eStr ⟨#[]⟩) := by
  refine FnOK.startC (rvs := [.tmp 2]) G G_good Tryz.func220 rfl Tryz.ntmps220 rfl rfl ?_; with_reducible refine wD ?_
  refine ⟨[], .lit (.pointer none), [], EffOK.lits (ρ := fun _ => .slice none 0 0) (r := .pointer none) (by simp) (fun y hy => ?_) (fun w => ?_) (dst_ok rfl), ?_⟩
  · simp [Op.operands, Call.operands] at hy
    subst hy
    rfl
  · kernel_rfl
  with_reducible refine wK ?_
  refine ⟨[], .lit (.string ⟨#[]⟩), [], EffOK.lits (ρ := fun y => match y with | .tmp 7 => .pointer none | _ => .int .i64 0) (r := .string ⟨#[]⟩) (by simp) (fun y hy => ?_) (fun w => ?_) (dst_ok rfl), ?_⟩
  · simp [Op.operands, Call.operands] at hy
    rcases hy with rfl | rfl <;> rfl
  · kernel_rfl
  with_reducible refine wK ?_
  refine dK ?_; with_reducible refine wK ?_
  (refine eK ?_ ?_ <;> with_reducible repeat' (first | exact trivial | (show _ ∧ _; refine aK ?_ ?_)))
  all_goals first | rfl | exact .inl rfl | exact ⟨rfl, rfl⟩ | trace_state
def orcA : CallT := fun g ins args => match g with
  | 174 => match ins, args with
    | [], [.lit (.string s)] => some ([], eBool (customS s))
    | _, _ => none
  | 133 => match ins, args with
    | [], [.lit (.string s)] => some ([], eBool (rightS s))
    | _, _ => none
  | 67 => match ins, args with
    | [], [.lit (.string s)] => some ([], .tup [eStr (if rightS s then lowS s else ⟨#[]⟩), eInt (if rightS s then 0 else 4)])
    | _, _ => none
  | 213 => match ins, args with
    | [], [.lit (.string s), .lit (.func (.func 232) a b)] => match a.toList, b.toList with
      | [], [] => some ([], eInt (Lib.idxFunc wordB true s))
      | _, _ => none
    | _, _ => none
  | 220 => match ins, args with
    | [.live 2 [.agg [.lit (.pointer none), .lit (.slice none 0 0)]] false], [.ptr 0 0 0] => some ([.live 2 [.agg [.lit (.pointer none), .lit (.slice none 0 0)]] false], eStr ⟨#[]⟩)
    | _, _ => none
  | _ => none
theorem orcA_ok : ∀ g ins args outs res, orcA g ins args = some (outs, res) → FnOK Tryz.prog g ins args outs res ∧ Callable Tryz.prog g := by
  intro g ins args outs res h
  unfold orcA at h
  split at h
  · split at h
    · cases h; exact ⟨f174_ok _, c174⟩
    · cases h
  · split at h
    · cases h; exact ⟨f133_ok _, c133⟩
    · cases h
  · split at h
    · cases h; exact ⟨f67_ok _, c67⟩
    · cases h
  · split at h
    · split at h
      · rename_i ha hb
        cases h
        rename_i a b _ _
        obtain rfl := (Array.ext' ha : _ = #[])
        obtain rfl := (Array.ext' hb : _ = #[])
        exact ⟨f213_word _, c213⟩
      · cases h
    · cases h
  · split at h
    · cases h; exact ⟨f220_nil, c220⟩
    · cases h
  · cases h
end Go.Proofs.Heir
namespace Go.Proofs
open Go.Shelf

end Go.Proofs
namespace Go.Proofs.Heir
open Go Go.Am Go.RowKit Go.Shelf
set_option maxRecDepth 100000
set_option maxHeartbeats 8000000


end Go.Proofs.Heir
namespace Go.Proofs.Heir
open Go Go.Am Go.RowKit Go.Lib
set_option maxRecDepth 100000
set_option maxHeartbeats 8000000
def rowsB (wd : Nat) (rows : List AV) : Bool := match rows with
  | [] => false
  | _ :: _ => Nat.ble rows.length 1000 && (noRefL rows && oneL (flat rows))
theorem rowsB_ok {wd : Nat} {rows : List AV} (h : rowsB wd rows = true) : rows ≠ [] ∧ rows.length ≤ 1000 ∧ noRefL rows = true ∧ oneL (flat rows) = true := by
  unfold rowsB at h
  split at h
  · cases h
  · simp only [Bool.and_eq_true] at h
    exact ⟨by simp, Nat.le_of_ble_eq_true h.1, h.2.1, h.2.2⟩
theorem f137_rows {rows : List AV} (h : rowsB 10 rows = true) : FnOK Tryz.prog 137 [] [.sl 10 rows] [.live 10 rows false] (.own 0 0 rows.length) := by
  obtain ⟨h1, h2, h3, h4⟩ := rowsB_ok h
  refine FnOK.startC (rvs := [.tmp 2]) G G_good Tryz.func137 rfl Tryz.ntmps137 rfl rfl ?_; with_reducible refine wD ?_
  refine GuessK.mk (fun h => ?_) (fun _ => ?_) <;> with_reducible refine wK ?_
  · exact absurd (by simpa using h) h1
  · refine AppK.mk [] rows ⟨rfl, rfl, rfl⟩ ⟨rfl, rfl, rfl⟩ h4 (by simp; omega) (by simp; omega) ?_; with_reducible refine wK ?_
    (refine eK ?_ ?_ <;> with_reducible repeat' (first | exact trivial | (show _ ∧ _; refine aK ?_ ?_)))
    all_goals first | rfl | exact MFL_refl h3 | trace_state
theorem f72_rows {rows : List AV} (h : rowsB 1 rows = true) : FnOK Tryz.prog 72 [] [.sl 1 rows] [.live 1 rows false] (.own 0 0 rows.length) := by
  obtain ⟨h1, h2, h3, h4⟩ := rowsB_ok h
  refine FnOK.startC (rvs := [.tmp 2]) G G_good Tryz.func72 rfl Tryz.ntmps72 rfl rfl ?_; with_reducible refine wD ?_
  refine GuessK.mk (fun h => ?_) (fun _ => ?_) <;> with_reducible refine wK ?_
  · exact absurd (by simpa using h) h1
  · refine AppK.mk [] rows ⟨rfl, rfl, rfl⟩ ⟨rfl, rfl, rfl⟩ h4 (by simp; omega) (by simp; omega) ?_; with_reducible refine wK ?_
    (refine eK ?_ ?_ <;> with_reducible repeat' (first | exact trivial | (show _ ∧ _; refine aK ?_ ?_)))
    all_goals first | rfl | exact MFL_refl h3 | trace_state
def orcB : CallT := fun g ins args => match g with
  | 137 => match ins, args with
    | [], [.sl 10 rows] => match rowsB 10 rows with
      | true => some ([.live 10 rows false], .own 0 0 rows.length)
      | false => none
    | _, _ => none
  | 72 => match ins, args with
    | [], [.sl 1 rows] => match rowsB 1 rows with
      | true => some ([.live 1 rows false], .own 0 0 rows.length)
      | false => none
    | _, _ => none
  | g => orcA g ins args
theorem orcB_ok : ∀ g ins args outs res, orcB g ins args = some (outs, res) → FnOK Tryz.prog g ins args outs res ∧ Callable Tryz.prog g := by
  intro g ins args outs res h
  unfold orcB at h
  split at h
  · split at h
    · split at h
      · rename_i hb; cases h; exact ⟨f137_rows hb, c137⟩
      · cases h
    · cases h
  · split at h
    · split at h
      · rename_i hb; cases h; exact ⟨f72_rows hb, c72⟩
      · cases h
    · cases h
  · exact orcA_ok _ _ _ _ _ h
theorem f140_nil (n : Int) : FnOK Tryz.prog 140 [.live 1 [eInt n] false] [.lit (.slice none 0 0), eInt 0, .own 0 0 1] [.live 1 [eInt n] false, .live 1 [eInt n] false] (.own 1 0 1) := by
  refine FnOK.startC (rvs := [.tmp 6]) G G_good Tryz.func140 rfl Tryz.ntmps140 rfl rfl ?_; with_reducible refine wD ?_
  refine ⟨[], .lit (.slice none 0 0), [], EffOK.lits (ρ := fun y => match y with | .tmp 10 => .slice none 0 0 | _ => .int .i64 0) (r := .slice none 0 0) (by simp) (fun y hy => ?_) (fun w => ?_) (dst_ok rfl), ?_⟩
  · simp [Op.operands] at hy
    rcases hy with rfl | rfl <;> rfl
  · kernel_rfl
  with_reducible refine wK ?_
  repeat' (first
    | refine gK ?_
    | (((with_reducible show AppK _ _ _ _ _ _ _ _ _ _); refine AppK.mk [] [eInt n] ⟨rfl, rfl, rfl⟩ ⟨rfl, rfl, rfl⟩ rfl (by simp) (by simp) ?_) <;> with_reducible refine wK ?_)
    | ((with_reducible show (_ ∧ _) ∧ _ ∧ _); (refine eK ?_ ?_ <;> with_reducible repeat' (first | exact trivial | (show _ ∧ _; refine aK ?_ ?_)))))
  all_goals first | rfl | exact ⟨.refl rfl, rfl⟩ | trace_state
theorem f72_emp : FnOK Tryz.prog 72 [] [.sl 1 []] [.live 1 [] false] (.own 0 0 0) := by
  refine FnOK.startC (rvs := [.tmp 2]) G G_good Tryz.func72 rfl Tryz.ntmps72 rfl rfl ?_; with_reducible refine wD ?_
  refine GuessK.mk (fun h => ?_) (fun _ => ?_) <;> with_reducible refine wK ?_
  · (refine eK ?_ ?_ <;> with_reducible repeat' (first | exact trivial | (show _ ∧ _; refine aK ?_ ?_)))
    all_goals first | rfl | exact ⟨.refl rfl, rfl⟩ | trivial | trace_state
  · refine AppK.mk [] [] ⟨rfl, rfl, rfl⟩ ⟨rfl, rfl, rfl⟩ rfl (by simp) (by simp) ?_; with_reducible refine wK ?_
    (refine eK ?_ ?_ <;> with_reducible repeat' (first | exact trivial | (show _ ∧ _; refine aK ?_ ?_)))
    all_goals first | rfl | exact ⟨.refl rfl, rfl⟩ | trivial | trace_state
def orcC : CallT := fun g ins args => match g with
  | 72 => match ins, args with
    | [], [.sl 1 []] => some ([.live 1 [] false], .own 0 0 0)
    | _, _ => orcB 72 ins args
  | 140 => match ins, args with
    | [.live 1 [.lit (.int .i64 n)] false], [.lit (.slice none 0 0), .lit (.int .i64 0), .own 0 0 1] => some ([.live 1 [eInt n] false, .live 1 [eInt n] false], .own 1 0 1)
    | _, _ => none
  | g => orcB g ins args
theorem orcC_ok : ∀ g ins args outs res, orcC g ins args = some (outs, res) → FnOK Tryz.prog g ins args outs res ∧ Callable Tryz.prog g := by
  intro g ins args outs res h
  unfold orcC at h
  split at h
  · split at h
    · cases h; exact ⟨f72_emp, c72⟩
    · exact orcB_ok _ _ _ _ _ h
  · split at h
    · cases h; exact ⟨f140_nil _, c140⟩
    · cases h
  · exact orcB_ok _ _ _ _ _ h
end Go.Proofs.Heir
