/- Contracts of the functions of attributes, part 2. By an AI agent. -/
import Derived.Test.YtcgiapfnjijfkaaAA
import Derived.Laws.StructEq
import Derived.Tactics
section
namespace Go.Proofs.Attr
open Go.Am Go.RowKit Go.Lib
set_option maxRecDepth 100000
def okA (a : AttrM) : Bool := rightS a.name && decide (lowS a.name = a.name) && decide (a.value.size ≤ 200)
theorem badA_eq (a : AttrM) : badA a = !okA a := rfl
def hasName (n : ByteArray) (a : AttrM) : Bool := decide (a.name = n)
def posA (l : List AttrM) (n : ByteArray) : Int := idxI (hasName n) l
def rightA (l : List AttrM) : Bool := decide (l.length ≤ 40) && l.all okA && decide ((l.map AttrM.name).Nodup)
/-! ### the table -/
def tabFrom (t : List (ByteArray × AttrM)) (l : List AttrM) : List (ByteArray × AttrM) := l.foldl (fun t a => tput a.name a t) t
def tabL (l : List AttrM) : List (ByteArray × AttrM) := tabFrom [] l
theorem tput_len {K α : Type} [DecidableEq K] (k : K) (x : α) : ∀ t : List (K × α), (tput k x t).length = if (tget k t).isSome then t.length else t.length + 1
  | [] => rfl
  | p :: r => by
    simp only [tput, tget]
    split
    · simp
    · rw [List.length_cons, tput_len k x r]; split <;> simp
theorem tabFrom_len : ∀ (l : List AttrM) (t : List (ByteArray × AttrM)), (tabFrom t l).length ≤ t.length + l.length ∧ ((tabFrom t l).length = t.length + l.length ↔ (l.map AttrM.name).Nodup ∧ ∀ a ∈ l, (tget a.name t).isSome = false)
  | [], t => by simp [tabFrom]
  | a :: r, t => by
    obtain ⟨h1, h2⟩ := tabFrom_len r (tput a.name a t)
    have hl := tput_len a.name a t
    show (tabFrom (tput a.name a t) r).length ≤ _ ∧ ((tabFrom (tput a.name a t) r).length = _ ↔ _)
    cases hg : (tget a.name t).isSome with
    | true =>
      rw [hg, if_pos rfl] at hl
      refine ⟨by simp only [List.length_cons]; omega, ⟨fun h => ?_, fun h => ?_⟩⟩
      · simp only [List.length_cons] at h; omega
      · have := h.2 a (by simp); rw [hg] at this; cases this
    | false =>
      rw [hg, if_neg (by simp)] at hl
      refine ⟨by simp only [List.length_cons]; omega, ?_⟩
      rw [show (tabFrom (tput a.name a t) r).length = t.length + (a :: r).length ↔ (tabFrom (tput a.name a t) r).length = (tput a.name a t).length + r.length from by rw [hl, List.length_cons]; omega, h2]
      simp only [List.map_cons, List.nodup_cons, List.mem_cons, forall_eq_or_imp]
      constructor
      · rintro ⟨k1, k2⟩
        refine ⟨⟨fun hm => ?_, k1⟩, hg, fun b hb => ?_⟩
        · obtain ⟨b, hb, he⟩ := List.mem_map.1 hm
          have := k2 b hb
          rw [tget_put, he, if_pos rfl] at this; cases this
        · have := k2 b hb
          rw [tget_put] at this
          split at this
          · cases this
          · exact this
      · rintro ⟨⟨k1, k2⟩, _, k3⟩
        refine ⟨k2, fun b hb => ?_⟩
        rw [tget_put, if_neg (fun e => k1 (List.mem_map.2 ⟨b, hb, e.symm⟩))]
        exact k3 b hb
theorem tabL_len (l : List AttrM) : (tabL l).length = l.length ↔ (l.map AttrM.name).Nodup := by
  have := (tabFrom_len l []).2
  simp only [List.length_nil, Nat.zero_add] at this
  exact this.trans ⟨fun h => h.1, fun h => ⟨h, fun _ _ => rfl⟩⟩
theorem tabL_le (l : List AttrM) : (tabL l).length ≤ l.length := by
  have := (tabFrom_len l []).1
  simp only [List.length_nil, Nat.zero_add] at this
  exact this
theorem tabL_snoc {l : List AttrM} {k : Nat} {a : AttrM} (h : l[k]? = some a) : tabL (l.take (k + 1)) = tput a.name a (tabL (l.take k)) := by
  have hk := (List.getElem?_eq_some_iff.1 h).1
  rw [List.take_succ_eq_append_getElem hk, (List.getElem?_eq_some_iff.1 h).2]
  simp [tabL, tabFrom, List.foldl_append]
@[reducible] def rTab (l : List AttrM) : MS := .live 2 (tRows Value.string oAttr (tabL l)) false
theorem noRef_tab (t : List (ByteArray × AttrM)) : noRefL (tRows Value.string oAttr t) = true := by
  rw [noRefL_iff]; intro x hx
  obtain ⟨a, _, rfl⟩ := List.mem_map.1 hx
  rfl
theorem map64 : MapTy Try.prog 64 .string (.agg #[.string ByteArray.empty, .string ByteArray.empty]) := ⟨9, 41, by kernel_rfl, by kernel_rfl, fun w => Try.zeroValue41 w⟩
/-- table -/
theorem f32_ok (l : List AttrM) (hl : l.length ≤ 100000) : FnOK Try.prog 32 [] [eAttrs l] [rTab l] (.mapr 0) := by
  have hlm : (l.map oAttr).length = l.length := List.length_map ..
  refine FnOK.startC (rvs := [.tmp 2]) G G_good Try.func32 rfl Try.ntmps32 rfl rfl ?_; delta List.toArray; ((with_reducible conv => whnf); (with_reducible conv => congr <;> reduce); repeat ((first | (with_reducible refine HaltK.mk ?_) | (with_reducible refine StopK.mk ?_)); (with_reducible conv => whnf); (with_reducible conv => congr <;> reduce)))
  refine LoopK.use G G_good (fun (k : Nat) => [(3, .mapr 61), (7, eAttrs l), (8, eInt l.length), (9, eInt k)]) (fun k => [(61, .live 2 (tRows Value.string oAttr (tabL (l.take k))) false)]) (fun k => k ≤ l.length) (fun k => l.length - k) 0 (Nat.zero_le _)
    ⟨⟨rfl, rfl⟩, ⟨trivial, rfl, by show (l.length : Int) = ((l.map oAttr).length : Int); rw [hlm], rfl, trivial⟩, ⟨.refl rfl, rfl⟩, trivial⟩ ?_
  intro k hk
  ((with_reducible conv => whnf); (with_reducible conv => congr <;> reduce); repeat ((first | (with_reducible refine HaltK.mk ?_) | (with_reducible refine StopK.mk ?_)); (with_reducible conv => whnf); (with_reducible conv => congr <;> reduce)))
  refine IfK.mk (fun h1 => ?_) (fun h1 => ?_) <;> (try simp only [castN] at h1) <;> ((with_reducible conv => whnf); (with_reducible conv => congr <;> reduce); repeat ((first | (with_reducible refine HaltK.mk ?_) | (with_reducible refine StopK.mk ?_)); (with_reducible conv => whnf); (with_reducible conv => congr <;> reduce)))
  · simp only [decide_eq_true_eq] at h1
    have hk' : k < l.length := by omega
    obtain ⟨a, ha⟩ : ∃ a, l[k]? = some a := ⟨_, List.getElem?_eq_getElem hk'⟩
    obtain ⟨n, v⟩ := a
    refine IdxK.mk k (eAttr ⟨n, v⟩) rfl (attr_get ha) ?_; ((with_reducible conv => whnf); (with_reducible conv => congr <;> reduce); repeat ((first | (with_reducible refine HaltK.mk ?_) | (with_reducible refine StopK.mk ?_)); (with_reducible conv => whnf); (with_reducible conv => congr <;> reduce)))
    have hle : (tabL (l.take k)).length ≤ k := Nat.le_trans (tabL_le _) (by simp; omega)
    refine PutK.tab Value.string oAttr (tabL (l.take k)) (k := n) ⟨n, v⟩ map64 rfl key_str inj_str (by unfold maxLen; omega) rfl ?_; ((with_reducible conv => whnf); (with_reducible conv => congr <;> reduce); repeat ((first | (with_reducible refine HaltK.mk ?_) | (with_reducible refine StopK.mk ?_)); (with_reducible conv => whnf); (with_reducible conv => congr <;> reduce)))
    refine NeedK.mk (by (try simp only [castN]); omega) ?_; ((with_reducible conv => whnf); (with_reducible conv => congr <;> reduce); repeat ((first | (with_reducible refine HaltK.mk ?_) | (with_reducible refine StopK.mk ?_)); (with_reducible conv => whnf); (with_reducible conv => congr <;> reduce)))
    refine NextK.mk (k + 1) (by omega) (by omega) ⟨⟨rfl, rfl⟩, ⟨trivial, rfl, rfl, by show ((k + 1 : Nat) : Int) = (k : Int) + 1; omega, trivial⟩, ⟨?_, ?_⟩, trivial⟩
    · rw [tabL_snoc ha]; exact .refl (noRef_tab _)
    · exact noRef_tab _
  · refine ⟨⟨rfl, rfl⟩, ?_, ?_⟩ <;> (with_reducible conv => whnf) <;> repeat' (first | (with_reducible exact trivial) | (with_reducible refine And.intro ?_ ?_ <;> with_reducible conv => whnf))
    have : k = l.length := by simp only [decide_eq_false_iff_not] at h1; omega
    rw [this, List.take_length]
    exact MFL_refl (noRef_tab _)
/-- A function that holds nothing is a known value, too. -/
theorem FnOK.fn1 {P : Program} {f g : FuncId} {a : AV} {outs : List MS} {res : AV} (h : FnOK P f [] [a, .clo (.func g) [] []] outs res) : FnOK P f [] [a, .lit (.func (.func g) #[] #[])] outs res := by
  intro w W0 L vs hL hs hr
  refine h w W0 L vs hL hs ⟨hr.1, fun j c v h1 h2 => ?_⟩
  match j with
  | 0 => exact hr.2 0 c v h1 h2
  | 1 =>
    have := hr.2 1 _ v rfl h2
    cases this
    simp at h1
    subst h1
    exact Rep.clo (va := []) (vb := []) rfl rfl (fun j c v h => by simp at h) (fun j c v h => by simp at h)
  | j + 2 => simp at h1
theorem right_bad (l : List AttrM) : l.any badA = !l.all okA := by
  induction l with
  | nil => rfl
  | cons a r ih => simp [List.any_cons, List.all_cons, ih, badA_eq]
theorem tab_outs (l : List AttrM) : okOuts [rTab l] := by
  refine ⟨Wide.of_mem fun r hr => ?_, noRef_tab _, trivial⟩
  obtain ⟨p, _, rfl⟩ := List.mem_map.1 hr
  rfl
theorem attrs_wide (l : List AttrM) : Wide 2 (l.map oAttr) := Wide.of_mem fun r hr => by
  obtain ⟨a, _, rfl⟩ := List.mem_map.1 hr
  rfl
theorem attrs_outs (l : List AttrM) : okOuts [rAttrs l] := ⟨attrs_wide l, noRef_attrs l, trivial⟩
/-- attr.Right -/
theorem f18_ok (l : List AttrM) (hl : l.length ≤ 100000) : FnOK Try.prog 18 [] [eAttrs l] [] (eBool (rightA l)) := by
  have hlm : (l.map oAttr).length = l.length := List.length_map ..
  refine FnOK.startC (rvs := [.tmp 2]) G G_good Try.func18 rfl Try.ntmps18 rfl rfl ?_; delta List.toArray; ((with_reducible conv => whnf); (with_reducible conv => congr <;> reduce); repeat ((first | (with_reducible refine HaltK.mk ?_) | (with_reducible refine StopK.mk ?_)); (with_reducible conv => whnf); (with_reducible conv => congr <;> reduce)))
  repeat' (first
    | ((with_reducible show IfK _ _ _ _); first
      | (refine IfK.yes (by assumption) ?_; ((with_reducible conv => whnf); (with_reducible conv => congr <;> reduce); repeat ((first | (with_reducible refine HaltK.mk ?_) | (with_reducible refine StopK.mk ?_)); (with_reducible conv => whnf); (with_reducible conv => congr <;> reduce))))
      | (refine IfK.no (by assumption) ?_; ((with_reducible conv => whnf); (with_reducible conv => congr <;> reduce); repeat ((first | (with_reducible refine HaltK.mk ?_) | (with_reducible refine StopK.mk ?_)); (with_reducible conv => whnf); (with_reducible conv => congr <;> reduce))))
      | (with_reducible refine IfK.yes Bool.not_false ?_; ((with_reducible conv => whnf); (with_reducible conv => congr <;> reduce); repeat ((first | (with_reducible refine HaltK.mk ?_) | (with_reducible refine StopK.mk ?_)); (with_reducible conv => whnf); (with_reducible conv => congr <;> reduce))))
      | (with_reducible refine IfK.no Bool.not_true ?_; ((with_reducible conv => whnf); (with_reducible conv => congr <;> reduce); repeat ((first | (with_reducible refine HaltK.mk ?_) | (with_reducible refine StopK.mk ?_)); (with_reducible conv => whnf); (with_reducible conv => congr <;> reduce))))
      | (with_reducible refine IfK.yes (nf (by assumption)) ?_; ((with_reducible conv => whnf); (with_reducible conv => congr <;> reduce); repeat ((first | (with_reducible refine HaltK.mk ?_) | (with_reducible refine StopK.mk ?_)); (with_reducible conv => whnf); (with_reducible conv => congr <;> reduce))))
      | (with_reducible refine IfK.no (nt (by assumption)) ?_; ((with_reducible conv => whnf); (with_reducible conv => congr <;> reduce); repeat ((first | (with_reducible refine HaltK.mk ?_) | (with_reducible refine StopK.mk ?_)); (with_reducible conv => whnf); (with_reducible conv => congr <;> reduce))))
      | (with_reducible refine IfK.tt ?_; ((with_reducible conv => whnf); (with_reducible conv => congr <;> reduce); repeat ((first | (with_reducible refine HaltK.mk ?_) | (with_reducible refine StopK.mk ?_)); (with_reducible conv => whnf); (with_reducible conv => congr <;> reduce))))
      | (with_reducible refine IfK.ff ?_; ((with_reducible conv => whnf); (with_reducible conv => congr <;> reduce); repeat ((first | (with_reducible refine HaltK.mk ?_) | (with_reducible refine StopK.mk ?_)); (with_reducible conv => whnf); (with_reducible conv => congr <;> reduce))))
      | (refine IfK.mk (fun _ => ?_) (fun _ => ?_) <;> ((with_reducible conv => whnf); (with_reducible conv => congr <;> reduce); repeat ((first | (with_reducible refine HaltK.mk ?_) | (with_reducible refine StopK.mk ?_)); (with_reducible conv => whnf); (with_reducible conv => congr <;> reduce)))))
    | ((with_reducible show CallK _ _ 31 _ _ _ _); refine CallK.lit [] (FnOK.fn1 (f31_ok 29 c29 [] rfl badA l hl fun a _ => f29_ok a)) c31 ⟨rfl, MF_refl 12 _ rfl, trivial⟩ rfl rfl ?_; ((with_reducible conv => whnf); (with_reducible conv => congr <;> reduce); repeat ((first | (with_reducible refine HaltK.mk ?_) | (with_reducible refine StopK.mk ?_)); (with_reducible conv => whnf); (with_reducible conv => congr <;> reduce))))
    | ((with_reducible show CallK _ _ 32 _ _ _ _); refine CallK.new 151 [] (f32_ok l hl) c32 ⟨rfl, trivial⟩ rfl rfl rfl (tab_outs l) rfl ?_; ((with_reducible conv => whnf); (with_reducible conv => congr <;> reduce); repeat ((first | (with_reducible refine HaltK.mk ?_) | (with_reducible refine StopK.mk ?_)); (with_reducible conv => whnf); (with_reducible conv => congr <;> reduce))))
    | ((with_reducible show CountK _ _ _ _ _ _ _); refine CountK.mk map64 ⟨_, _, rfl⟩ rfl ?_; ((with_reducible conv => whnf); (with_reducible conv => congr <;> reduce); repeat ((first | (with_reducible refine HaltK.mk ?_) | (with_reducible refine StopK.mk ?_)); (with_reducible conv => whnf); (with_reducible conv => congr <;> reduce))))
    | ((with_reducible show (_ ∧ _) ∧ _ ∧ _); refine ⟨⟨rfl, rfl⟩, ?_, ?_⟩ <;> (with_reducible conv => whnf) <;> repeat' (first | (with_reducible exact trivial) | (with_reducible refine And.intro ?_ ?_ <;> with_reducible conv => whnf))))
  · have h2 : l.all okA = true := by have := right_bad l; simp_all
    have e : (tRows Value.string oAttr (tabL l)).length = (tabL l).length := List.length_map ..
    have h3 : l.length ≤ 40 := by simp only [hlm, decide_eq_true_eq] at *; omega
    have h4 := tabL_len l
    unfold rightA
    rw [h2, decide_eq_true h3, e, hlm]
    by_cases hn : (l.map AttrM.name).Nodup
    · rw [decide_eq_true hn, h4.2 hn]; simp
    · rw [decide_eq_false hn]
      have : ¬ (tabL l).length = l.length := fun h => hn (h4.1 h)
      rw [decide_eq_false (by (try simp only [castN]); omega)]; rfl
  · have h2 : l.all okA = false := by have := right_bad l; simp_all
    unfold rightA; rw [h2]; simp
  · have h2 : decide (l.length ≤ 40) = false := by simp only [hlm, decide_eq_false_iff_not] at *; omega
    unfold rightA; rw [h2]; simp
end Go.Proofs.Attr
end
section
namespace Go.Proofs.Attr
open Go.Am Go.RowKit Go.Lib
set_option maxRecDepth 100000
def noS : ByteArray := ⟨#[]⟩
/-- Where a name stands in a list: the name's small form, the place, the error. -/
def findE (l : List AttrM) (n : ByteArray) : Int := if rightA l then (if rightS n then 0 else 4) else 1
def findS (l : List AttrM) (n : ByteArray) : ByteArray := if rightA l && rightS n then lowS n else noS
def findP (l : List AttrM) (n : ByteArray) : Int := if rightA l && rightS n then posA l (lowS n) else -1
theorem f24_ok (l : List AttrM) (hl : l.length ≤ 100000) (n : ByteArray) : FnOK Try.prog 24 [] [eAttrs l, eStr n] [] (.tup [eStr (findS l n), eInt (findP l n), eInt (findE l n)]) := by
  refine FnOK.startC (rvs := [.tmp 4, .tmp 5, .tmp 6]) G G_good Try.func24 rfl Try.ntmps24 rfl rfl ?_; delta List.toArray; ((with_reducible conv => whnf); (with_reducible conv => congr <;> reduce); repeat ((first | (with_reducible refine HaltK.mk ?_) | (with_reducible refine StopK.mk ?_)); (with_reducible conv => whnf); (with_reducible conv => congr <;> reduce)))
  repeat' (first
    | ((with_reducible show IfK _ _ _ _); first
      | (refine IfK.yes (by assumption) ?_; ((with_reducible conv => whnf); (with_reducible conv => congr <;> reduce); repeat ((first | (with_reducible refine HaltK.mk ?_) | (with_reducible refine StopK.mk ?_)); (with_reducible conv => whnf); (with_reducible conv => congr <;> reduce))))
      | (refine IfK.no (by assumption) ?_; ((with_reducible conv => whnf); (with_reducible conv => congr <;> reduce); repeat ((first | (with_reducible refine HaltK.mk ?_) | (with_reducible refine StopK.mk ?_)); (with_reducible conv => whnf); (with_reducible conv => congr <;> reduce))))
      | (with_reducible refine IfK.yes Bool.not_false ?_; ((with_reducible conv => whnf); (with_reducible conv => congr <;> reduce); repeat ((first | (with_reducible refine HaltK.mk ?_) | (with_reducible refine StopK.mk ?_)); (with_reducible conv => whnf); (with_reducible conv => congr <;> reduce))))
      | (with_reducible refine IfK.no Bool.not_true ?_; ((with_reducible conv => whnf); (with_reducible conv => congr <;> reduce); repeat ((first | (with_reducible refine HaltK.mk ?_) | (with_reducible refine StopK.mk ?_)); (with_reducible conv => whnf); (with_reducible conv => congr <;> reduce))))
      | (with_reducible refine IfK.yes (nf (by assumption)) ?_; ((with_reducible conv => whnf); (with_reducible conv => congr <;> reduce); repeat ((first | (with_reducible refine HaltK.mk ?_) | (with_reducible refine StopK.mk ?_)); (with_reducible conv => whnf); (with_reducible conv => congr <;> reduce))))
      | (with_reducible refine IfK.no (nt (by assumption)) ?_; ((with_reducible conv => whnf); (with_reducible conv => congr <;> reduce); repeat ((first | (with_reducible refine HaltK.mk ?_) | (with_reducible refine StopK.mk ?_)); (with_reducible conv => whnf); (with_reducible conv => congr <;> reduce))))
      | (with_reducible refine IfK.tt ?_; ((with_reducible conv => whnf); (with_reducible conv => congr <;> reduce); repeat ((first | (with_reducible refine HaltK.mk ?_) | (with_reducible refine StopK.mk ?_)); (with_reducible conv => whnf); (with_reducible conv => congr <;> reduce))))
      | (with_reducible refine IfK.ff ?_; ((with_reducible conv => whnf); (with_reducible conv => congr <;> reduce); repeat ((first | (with_reducible refine HaltK.mk ?_) | (with_reducible refine StopK.mk ?_)); (with_reducible conv => whnf); (with_reducible conv => congr <;> reduce))))
      | (refine IfK.mk (fun _ => ?_) (fun _ => ?_) <;> ((with_reducible conv => whnf); (with_reducible conv => congr <;> reduce); repeat ((first | (with_reducible refine HaltK.mk ?_) | (with_reducible refine StopK.mk ?_)); (with_reducible conv => whnf); (with_reducible conv => congr <;> reduce)))))
    | ((with_reducible show CallK _ _ 18 _ _ _ _); refine CallK.lit [] (f18_ok l hl) c18 ⟨rfl, trivial⟩ rfl rfl ?_; ((with_reducible conv => whnf); (with_reducible conv => congr <;> reduce); repeat ((first | (with_reducible refine HaltK.mk ?_) | (with_reducible refine StopK.mk ?_)); (with_reducible conv => whnf); (with_reducible conv => congr <;> reduce))))
    | ((with_reducible show CallK _ _ 30 _ _ _ _); refine CallK.lit [] (f30_ok _) c30 ⟨rfl, trivial⟩ rfl rfl ?_; ((with_reducible conv => whnf); (with_reducible conv => congr <;> reduce); repeat ((first | (with_reducible refine HaltK.mk ?_) | (with_reducible refine StopK.mk ?_)); (with_reducible conv => whnf); (with_reducible conv => congr <;> reduce))))
    | ((with_reducible show CallK _ _ 35 _ _ _ _); refine CallK.lit [] (f35_ok l hl _) c35 ⟨rfl, rfl, trivial⟩ rfl rfl ?_; ((with_reducible conv => whnf); (with_reducible conv => congr <;> reduce); repeat ((first | (with_reducible refine HaltK.mk ?_) | (with_reducible refine StopK.mk ?_)); (with_reducible conv => whnf); (with_reducible conv => congr <;> reduce))))
    | ((with_reducible show (_ ∧ _) ∧ _ ∧ _); refine ⟨⟨rfl, rfl⟩, ?_, ?_⟩ <;> (with_reducible conv => whnf) <;> repeat' (first | (with_reducible exact trivial) | (with_reducible refine And.intro ?_ ?_ <;> with_reducible conv => whnf))))
  all_goals (cases h1 : rightA l <;> cases h2 : rightS n <;> simp_all [findE, findS, findP, noS])
  rfl
def getS (l : List AttrM) (n : ByteArray) : ByteArray := if 0 ≤ findP l n then ((l[(findP l n).toNat]?).map AttrM.value).getD noS else noS
theorem idxI_cases {α : Type} (p : α → Bool) (l : List α) : idxI p l = -1 ∨ ∃ (k : Nat) (a : α), idxI p l = k ∧ l[k]? = some a ∧ p a = true := by
  unfold idxI
  cases h : l.findIdx? p with
  | none => exact .inl rfl
  | some k =>
    rw [List.findIdx?_eq_some_iff_getElem] at h
    obtain ⟨hk, h1, _⟩ := h
    exact .inr ⟨k, _, rfl, List.getElem?_eq_getElem hk, h1⟩
theorem findP_cases (l : List AttrM) (n : ByteArray) : findP l n = -1 ∨ ∃ (k : Nat) (a : AttrM), findP l n = k ∧ l[k]? = some a ∧ a.name = lowS n := by
  unfold findP
  split
  · rcases idxI_cases (hasName (lowS n)) l with h | ⟨k, a, h1, h2, h3⟩
    · exact .inl h
    · exact .inr ⟨k, a, h1, h2, by simpa [hasName] using h3⟩
  · exact .inl rfl
theorem findE_pos {l : List AttrM} {n : ByteArray} (h : 0 ≤ findP l n) : findE l n = 0 ∧ findS l n = lowS n := by
  unfold findP at h
  cases h1 : rightA l <;> cases h2 : rightS n <;> rw [h1, h2] at h <;> simp at h
  simp [findE, findS, h1, h2]
theorem findE_zero {l : List AttrM} {n : ByteArray} (h : findE l n = 0) : rightA l = true ∧ rightS n = true ∧ findS l n = lowS n := by
  unfold findE at h
  cases h1 : rightA l <;> cases h2 : rightS n <;> rw [h1, h2] at h <;> simp at h
  simp [findS, h1, h2]
theorem f10_ok (l : List AttrM) (hl : l.length ≤ 100000) (n : ByteArray) : FnOK Try.prog 10 [] [eAttrs l, eStr n] [] (.tup [eStr (getS l n), eBool (decide (0 ≤ findP l n))]) := by
  refine FnOK.startC (rvs := [.tmp 4, .tmp 5]) G G_good Try.func10 rfl Try.ntmps10 rfl rfl ?_; delta List.toArray; ((with_reducible conv => whnf); (with_reducible conv => congr <;> reduce); repeat ((first | (with_reducible refine HaltK.mk ?_) | (with_reducible refine StopK.mk ?_)); (with_reducible conv => whnf); (with_reducible conv => congr <;> reduce)))
  refine CallK.lit [] (f24_ok l hl n) c24 ⟨rfl, rfl, trivial⟩ rfl rfl ?_; ((with_reducible conv => whnf); (with_reducible conv => congr <;> reduce); repeat ((first | (with_reducible refine HaltK.mk ?_) | (with_reducible refine StopK.mk ?_)); (with_reducible conv => whnf); (with_reducible conv => congr <;> reduce)))
  rcases findP_cases l n with h | ⟨k, a, h, ha, hn⟩
  · simp only [h]
    refine IfK.yes rfl ?_; ((with_reducible conv => whnf); (with_reducible conv => congr <;> reduce); repeat ((first | (with_reducible refine HaltK.mk ?_) | (with_reducible refine StopK.mk ?_)); (with_reducible conv => whnf); (with_reducible conv => congr <;> reduce)))
    refine ⟨⟨rfl, rfl⟩, ?_, ?_⟩ <;> (with_reducible conv => whnf) <;> repeat' (first | (with_reducible exact trivial) | (with_reducible refine And.intro ?_ ?_ <;> with_reducible conv => whnf))
    · unfold getS; rw [h]; rfl
    · rfl
  · simp only [h]
    refine IfK.no (decide_eq_false (by (try simp only [castN]); omega)) ?_; ((with_reducible conv => whnf); (with_reducible conv => congr <;> reduce); repeat ((first | (with_reducible refine HaltK.mk ?_) | (with_reducible refine StopK.mk ?_)); (with_reducible conv => whnf); (with_reducible conv => congr <;> reduce)))
    refine IdxK.mk k (eAttr a) rfl (attr_get ha) ?_; ((with_reducible conv => whnf); (with_reducible conv => congr <;> reduce); repeat ((first | (with_reducible refine HaltK.mk ?_) | (with_reducible refine StopK.mk ?_)); (with_reducible conv => whnf); (with_reducible conv => congr <;> reduce)))
    refine ⟨⟨rfl, rfl⟩, ?_, ?_⟩ <;> (with_reducible conv => whnf) <;> repeat' (first | (with_reducible exact trivial) | (with_reducible refine And.intro ?_ ?_ <;> with_reducible conv => whnf))
    · unfold getS; rw [h, if_pos (by omega), Int.toNat_natCast, ha]; rfl
    · exact decide_eq_true (by omega)
theorem frz_attrs {m : ML} {fz : Nat → Bool} {tab : List (Nat × Nat)} {n t len : Nat} {ro : Bool} {rows : List AV} {l : List AttrM} (h1 : lkM m t = .live 2 rows ro) (h2 : fz t = true) (h3 : rows = l.map oAttr) (h4 : len = l.length) : FrzK m fz (MF tab fz m n) (eAttrs l) t 0 len := by
  subst h3; subst h4
  have e : (l.map oAttr).length = l.length := List.length_map ..
  exact .cut h1 h2 (by omega) (by rw [List.drop_zero, List.take_of_length_le (by omega)]) (noRef_attrs l)
def setA (l : List AttrM) (n v : ByteArray) : List AttrM × Int :=
  if findE l n = 0 then (if v.size ≤ 200 then (if 0 ≤ findP l n then (l.set (findP l n).toNat ⟨lowS n, v⟩, 0) else if l.length = 40 then (l, 3) else (l ++ [⟨lowS n, v⟩], 0)) else (l, 3)) else (l, findE l n)
theorem set_attrs (l : List AttrM) (k : Nat) (n v : ByteArray) : (l.map oAttr).set k (eAttr ⟨n, v⟩) = (l.set k ⟨n, v⟩).map oAttr := by rw [List.map_set]; rfl
theorem snoc_attrs (l : List AttrM) (n v : ByteArray) : l.map oAttr ++ [eAttr ⟨n, v⟩] = (l ++ [(⟨n, v⟩ : AttrM)]).map oAttr := by rw [List.map_append]; rfl
theorem f12_ok (l : List AttrM) (hl : l.length ≤ 100000) (n v : ByteArray) : FnOK Try.prog 12 [] [eAttrs l, eStr n, eStr v] [] (.tup [eAttrs (setA l n v).1, eInt (setA l n v).2]) := by
  have hlm : (l.map oAttr).length = l.length := List.length_map ..
  refine FnOK.startC (rvs := [.tmp 6, .tmp 7]) G G_good Try.func12 rfl Try.ntmps12 rfl rfl ?_; delta List.toArray; ((with_reducible conv => whnf); (with_reducible conv => congr <;> reduce); repeat ((first | (with_reducible refine HaltK.mk ?_) | (with_reducible refine StopK.mk ?_)); (with_reducible conv => whnf); (with_reducible conv => congr <;> reduce)))
  refine CallK.lit [] (f24_ok l hl n) c24 ⟨rfl, rfl, trivial⟩ rfl rfl ?_; ((with_reducible conv => whnf); (with_reducible conv => congr <;> reduce); repeat ((first | (with_reducible refine HaltK.mk ?_) | (with_reducible refine StopK.mk ?_)); (with_reducible conv => whnf); (with_reducible conv => congr <;> reduce)))
  refine CallK.new 201 [] (f27_ok l hl) c27 ⟨rfl, trivial⟩ rfl rfl rfl (attrs_outs l) rfl ?_; ((with_reducible conv => whnf); (with_reducible conv => congr <;> reduce); repeat ((first | (with_reducible refine HaltK.mk ?_) | (with_reducible refine StopK.mk ?_)); (with_reducible conv => whnf); (with_reducible conv => congr <;> reduce)))
  refine IfK.mk (fun h1 => ?_) (fun h1 => ?_) <;> (try simp only [castN] at h1) <;> ((with_reducible conv => whnf); (with_reducible conv => congr <;> reduce); repeat ((first | (with_reducible refine HaltK.mk ?_) | (with_reducible refine StopK.mk ?_)); (with_reducible conv => whnf); (with_reducible conv => congr <;> reduce)))
  · have e : setA l n v = (l, findE l n) := by unfold setA; rw [if_neg (by simpa using h1)]
    rw [e]
    refine ⟨⟨rfl, rfl⟩, ?_, ?_⟩ <;> (with_reducible conv => whnf) <;> repeat' (first | (with_reducible exact trivial) | (with_reducible refine And.intro ?_ ?_ <;> with_reducible conv => whnf))
    exact frz_attrs rfl rfl rfl rfl
  · have h1' : findE l n = 0 := by simpa using h1
    obtain ⟨hr, hn, hs⟩ := findE_zero h1'
    refine IfK.mk (fun h2 => ?_) (fun h2 => ?_) <;> (try simp only [castN] at h2) <;> ((with_reducible conv => whnf); (with_reducible conv => congr <;> reduce); repeat ((first | (with_reducible refine HaltK.mk ?_) | (with_reducible refine StopK.mk ?_)); (with_reducible conv => whnf); (with_reducible conv => congr <;> reduce)))
    · have e : setA l n v = (l, 3) := by unfold setA; rw [if_pos h1', if_neg (by simp only [decide_eq_true_eq] at h2; omega)]
      rw [e]
      refine ⟨⟨rfl, rfl⟩, ?_, ?_⟩ <;> (with_reducible conv => whnf) <;> repeat' (first | (with_reducible exact trivial) | (with_reducible refine And.intro ?_ ?_ <;> with_reducible conv => whnf))
      exact frz_attrs rfl rfl rfl rfl
    · have hv : v.size ≤ 200 := by simp only [decide_eq_false_iff_not] at h2; omega
      rcases findP_cases l n with h | ⟨k, a, h, ha, hnm⟩
      · simp only [h]
        refine IfK.no rfl ?_; ((with_reducible conv => whnf); (with_reducible conv => congr <;> reduce); repeat ((first | (with_reducible refine HaltK.mk ?_) | (with_reducible refine StopK.mk ?_)); (with_reducible conv => whnf); (with_reducible conv => congr <;> reduce)))
        refine IfK.mk (fun h3 => ?_) (fun h3 => ?_) <;> (try simp only [castN] at h3) <;> ((with_reducible conv => whnf); (with_reducible conv => congr <;> reduce); repeat ((first | (with_reducible refine HaltK.mk ?_) | (with_reducible refine StopK.mk ?_)); (with_reducible conv => whnf); (with_reducible conv => congr <;> reduce)))
        · have e : setA l n v = (l, 3) := by unfold setA; rw [if_pos h1', if_pos hv, h, if_neg (by decide), if_pos (by simp only [decide_eq_true_eq] at h3; omega)]
          rw [e]
          refine ⟨⟨rfl, rfl⟩, ?_, ?_⟩ <;> (with_reducible conv => whnf) <;> repeat' (first | (with_reducible exact trivial) | (with_reducible refine And.intro ?_ ?_ <;> with_reducible conv => whnf))
          exact frz_attrs rfl rfl rfl rfl
        · have e : setA l n v = (l ++ [⟨lowS n, v⟩], 0) := by unfold setA; rw [if_pos h1', if_pos hv, h, if_neg (by decide), if_neg (by simp only [decide_eq_false_iff_not] at h3; omega)]
          rw [e]
          simp only [hs]
          refine AppK.mk (l.map oAttr) [eAttr ⟨lowS n, v⟩] ⟨rfl, hlm.symm, rfl⟩ ⟨rfl, rfl, rfl⟩ rfl (by simp; omega) (by simp; omega) ?_; ((with_reducible conv => whnf); (with_reducible conv => congr <;> reduce); repeat ((first | (with_reducible refine HaltK.mk ?_) | (with_reducible refine StopK.mk ?_)); (with_reducible conv => whnf); (with_reducible conv => congr <;> reduce)))
          refine ⟨⟨rfl, rfl⟩, ?_, ?_⟩ <;> (with_reducible conv => whnf) <;> repeat' (first | (with_reducible exact trivial) | (with_reducible refine And.intro ?_ ?_ <;> with_reducible conv => whnf))
          exact frz_attrs rfl rfl (snoc_attrs l _ v) (by simp)
      · simp only [h]
        refine IfK.yes (decide_eq_true (by (try simp only [castN]); omega)) ?_; ((with_reducible conv => whnf); (with_reducible conv => congr <;> reduce); repeat ((first | (with_reducible refine HaltK.mk ?_) | (with_reducible refine StopK.mk ?_)); (with_reducible conv => whnf); (with_reducible conv => congr <;> reduce)))
        have hk := (List.getElem?_eq_some_iff.1 ha).1
        have e : setA l n v = (l.set k ⟨lowS n, v⟩, 0) := by unfold setA; rw [if_pos h1', if_pos hv, h, if_pos (by omega), Int.toNat_natCast]
        rw [e]
        refine LtK.mk k rfl hk ?_; ((with_reducible conv => whnf); (with_reducible conv => congr <;> reduce); repeat ((first | (with_reducible refine HaltK.mk ?_) | (with_reducible refine StopK.mk ?_)); (with_reducible conv => whnf); (with_reducible conv => congr <;> reduce)))
        obtain ⟨an, av⟩ := a
        refine ElemK.mk (eAttr ⟨an, av⟩) (by rw [Nat.zero_add]; exact attr_get ha) ?_; ((with_reducible conv => whnf); (with_reducible conv => congr <;> reduce); repeat ((first | (with_reducible refine HaltK.mk ?_) | (with_reducible refine StopK.mk ?_)); (with_reducible conv => whnf); (with_reducible conv => congr <;> reduce)))
        refine ⟨⟨rfl, rfl⟩, ?_, ?_⟩ <;> (with_reducible conv => whnf) <;> repeat' (first | (with_reducible exact trivial) | (with_reducible refine And.intro ?_ ?_ <;> with_reducible conv => whnf))
        simp only at hnm
        subst hnm
        exact frz_attrs rfl rfl (by rw [Nat.zero_add]; exact set_attrs l k _ v) (by simp)
end Go.Proofs.Attr
end
section
namespace Go.Proofs.Attr
open Go.Am Go.RowKit Go.Lib
set_option maxRecDepth 100000
def cutA (l : List AttrM) (k : Nat) : List AttrM := l.take k ++ l.drop (k + 1)
def removeA (l : List AttrM) (n : ByteArray) : List AttrM × Bool := if 0 ≤ findP l n then (cutA l (findP l n).toNat, true) else (l, false)
theorem cut_attrs (l : List AttrM) (k : Nat) : (l.map oAttr).take k ++ (l.map oAttr).drop (k + 1) = (cutA l k).map oAttr := by rw [cutA, List.map_append, List.map_take, List.map_drop]
theorem cutA_len {l : List AttrM} {k : Nat} (hk : k < l.length) : (cutA l k).length = k + (l.length - (k + 1)) := by simp [cutA]; omega
theorem f14_ok (l : List AttrM) (hl : l.length ≤ 100000) (n : ByteArray) : FnOK Try.prog 14 [] [eAttrs l, eStr n] [] (.tup [eAttrs (removeA l n).1, eBool (removeA l n).2]) := by
  have hlm : (l.map oAttr).length = l.length := List.length_map ..
  refine FnOK.startC (rvs := [.tmp 4, .tmp 5]) G G_good Try.func14 rfl Try.ntmps14 rfl rfl ?_; delta List.toArray; ((with_reducible conv => whnf); (with_reducible conv => congr <;> reduce); repeat ((first | (with_reducible refine HaltK.mk ?_) | (with_reducible refine StopK.mk ?_)); (with_reducible conv => whnf); (with_reducible conv => congr <;> reduce)))
  refine CallK.lit [] (f24_ok l hl n) c24 ⟨rfl, rfl, trivial⟩ rfl rfl ?_; ((with_reducible conv => whnf); (with_reducible conv => congr <;> reduce); repeat ((first | (with_reducible refine HaltK.mk ?_) | (with_reducible refine StopK.mk ?_)); (with_reducible conv => whnf); (with_reducible conv => congr <;> reduce)))
  refine CallK.new 181 [] (f27_ok l hl) c27 ⟨rfl, trivial⟩ rfl rfl rfl (attrs_outs l) rfl ?_; ((with_reducible conv => whnf); (with_reducible conv => congr <;> reduce); repeat ((first | (with_reducible refine HaltK.mk ?_) | (with_reducible refine StopK.mk ?_)); (with_reducible conv => whnf); (with_reducible conv => congr <;> reduce)))
  rcases findP_cases l n with h | ⟨k, a, h, ha, hnm⟩
  · simp only [h]
    refine IfK.yes rfl ?_; ((with_reducible conv => whnf); (with_reducible conv => congr <;> reduce); repeat ((first | (with_reducible refine HaltK.mk ?_) | (with_reducible refine StopK.mk ?_)); (with_reducible conv => whnf); (with_reducible conv => congr <;> reduce)))
    have e : removeA l n = (l, false) := by unfold removeA; rw [h, if_neg (by decide)]
    rw [e]
    refine ⟨⟨rfl, rfl⟩, ?_, ?_⟩ <;> (with_reducible conv => whnf) <;> repeat' (first | (with_reducible exact trivial) | (with_reducible refine And.intro ?_ ?_ <;> with_reducible conv => whnf))
    exact frz_attrs rfl rfl rfl rfl
  · simp only [h]
    have hk := (List.getElem?_eq_some_iff.1 ha).1
    refine IfK.no (decide_eq_false (by (try simp only [castN]); omega)) ?_; ((with_reducible conv => whnf); (with_reducible conv => congr <;> reduce); repeat ((first | (with_reducible refine HaltK.mk ?_) | (with_reducible refine StopK.mk ?_)); (with_reducible conv => whnf); (with_reducible conv => congr <;> reduce)))
    have e : removeA l n = (cutA l k, true) := by unfold removeA; rw [h, if_pos (by omega), Int.toNat_natCast]
    rw [e]
    refine NeedK.mk (by (try simp only [castN]); omega) ?_; ((with_reducible conv => whnf); (with_reducible conv => congr <;> reduce); repeat ((first | (with_reducible refine HaltK.mk ?_) | (with_reducible refine StopK.mk ?_)); (with_reducible conv => whnf); (with_reducible conv => congr <;> reduce)))
    refine CallK.lend (news := [.dead, .live 2 ((cutA l k).map oAttr) false]) [181, 261] [] (delete_ok (rows := l.map oAttr) (one_attrs l) k (k + 1) (by omega) (by omega)) c28 ⟨⟨rfl, hlm⟩, rfl, by show ((k + 1 : Nat) : Int) = (k : Int) + 1; omega, trivial⟩ ⟨⟨rfl, .inl ⟨rfl, noRef_attrs l⟩⟩, trivial⟩ rfl ⟨⟨rfl, rfl⟩, rfl⟩ rfl
      ⟨⟨rfl, .inl ⟨(cut_attrs l k).symm, by rw [cut_attrs]; exact noRef_attrs _⟩⟩, trivial⟩ rfl rfl ?_; ((with_reducible conv => whnf); (with_reducible conv => congr <;> reduce); repeat ((first | (with_reducible refine HaltK.mk ?_) | (with_reducible refine StopK.mk ?_)); (with_reducible conv => whnf); (with_reducible conv => congr <;> reduce)))
    refine ⟨⟨rfl, rfl⟩, ?_, ?_⟩ <;> (with_reducible conv => whnf) <;> repeat' (first | (with_reducible exact trivial) | (with_reducible refine And.intro ?_ ?_ <;> with_reducible conv => whnf))
    exact frz_attrs rfl rfl rfl (by rw [cutA_len hk, hlm])
def wantA (l : List AttrM) (n : ByteArray) (f : Int) : Bool := decide (0 < f) || (decide (f = 0) && !decide (0 ≤ findP l n))
def toggleA (l : List AttrM) (n : ByteArray) (f : Int) : List AttrM × Bool × Int :=
  if findE l n = 0 then
    (if wantA l n f = decide (0 ≤ findP l n) then (l, decide (0 ≤ findP l n), 0)
     else if wantA l n f = true then ((setA l n noS).1, decide ((setA l n noS).2 = 0), (setA l n noS).2) else ((removeA l n).1, false, 0))
  else (l, false, findE l n)
set_option maxHeartbeats 1000000 in
theorem f16_ok (l : List AttrM) (hl : l.length ≤ 100000) (n : ByteArray) (f : Int) : FnOK Try.prog 16 [] [eAttrs l, eStr n, eInt f] [] (.tup [eAttrs (toggleA l n f).1, eBool (toggleA l n f).2.1, eInt (toggleA l n f).2.2]) := by
  have hlm : (l.map oAttr).length = l.length := List.length_map ..
  refine FnOK.startC (rvs := [.tmp 6, .tmp 7, .tmp 8]) G G_good Try.func16 rfl Try.ntmps16 rfl rfl ?_; delta List.toArray; ((with_reducible conv => whnf); (with_reducible conv => congr <;> reduce); repeat ((first | (with_reducible refine HaltK.mk ?_) | (with_reducible refine StopK.mk ?_)); (with_reducible conv => whnf); (with_reducible conv => congr <;> reduce)))
  refine CallK.lit [] (f24_ok l hl n) c24 ⟨rfl, rfl, trivial⟩ rfl rfl ?_; ((with_reducible conv => whnf); (with_reducible conv => congr <;> reduce); repeat ((first | (with_reducible refine HaltK.mk ?_) | (with_reducible refine StopK.mk ?_)); (with_reducible conv => whnf); (with_reducible conv => congr <;> reduce)))
  obtain ⟨P, hP⟩ : ∃ P, decide (0 ≤ findP l n) = P := ⟨_, rfl⟩
  obtain ⟨E, hE⟩ : ∃ E, decide (findE l n = 0) = E := ⟨_, rfl⟩
  obtain ⟨F0, h0⟩ : ∃ F0, decide (0 < f) = F0 := ⟨_, rfl⟩
  obtain ⟨Fz, hz⟩ : ∃ Fz, decide (f = 0) = Fz := ⟨_, rfl⟩
  have b1 : (!decide (findE l n = 0)) = !E := by rw [hE]
  have b2 : (!decide (0 ≤ findP l n)) = !P := by rw [hP]
  have b3 : (true == decide (0 ≤ findP l n)) = P := by rw [hP]; cases P <;> rfl
  have b4 : (false == decide (0 ≤ findP l n)) = !P := by rw [hP]; cases P <;> rfl
  have b5 : ((!decide (0 ≤ findP l n)) == decide (0 ≤ findP l n)) = false := by rw [hP]; cases P <;> rfl
  have hw : wantA l n f = (F0 || (Fz && !P)) := by unfold wantA; rw [h0, hz, hP]
  have ht : toggleA l n f = if E = true then (if (F0 || (Fz && !P)) = P then (l, P, 0) else if (F0 || (Fz && !P)) = true then ((setA l n noS).1, decide ((setA l n noS).2 = 0), (setA l n noS).2) else ((removeA l n).1, false, 0)) else (l, false, findE l n) := by
    unfold toggleA
    rw [hw, hP]
    cases E with
    | true => rw [if_pos (of_decide_eq_true hE), if_pos rfl]
    | false => rw [if_neg (of_decide_eq_false hE), if_neg (by decide)]
  rw [ht]
  clear ht hw
  cases E <;> cases P <;> cases F0 <;> cases Fz
  all_goals first
    | (exfalso; simp only [decide_eq_true_eq] at h0 hz; omega)
    | skip
  all_goals (repeat' (first
    | ((with_reducible show IfK _ _ _ _); first
      | (refine IfK.yes (by assumption) ?_; ((with_reducible conv => whnf); (with_reducible conv => congr <;> reduce); repeat ((first | (with_reducible refine HaltK.mk ?_) | (with_reducible refine StopK.mk ?_)); (with_reducible conv => whnf); (with_reducible conv => congr <;> reduce))))
      | (refine IfK.no (by assumption) ?_; ((with_reducible conv => whnf); (with_reducible conv => congr <;> reduce); repeat ((first | (with_reducible refine HaltK.mk ?_) | (with_reducible refine StopK.mk ?_)); (with_reducible conv => whnf); (with_reducible conv => congr <;> reduce))))
      | (with_reducible refine IfK.yes Bool.not_false ?_; ((with_reducible conv => whnf); (with_reducible conv => congr <;> reduce); repeat ((first | (with_reducible refine HaltK.mk ?_) | (with_reducible refine StopK.mk ?_)); (with_reducible conv => whnf); (with_reducible conv => congr <;> reduce))))
      | (with_reducible refine IfK.no Bool.not_true ?_; ((with_reducible conv => whnf); (with_reducible conv => congr <;> reduce); repeat ((first | (with_reducible refine HaltK.mk ?_) | (with_reducible refine StopK.mk ?_)); (with_reducible conv => whnf); (with_reducible conv => congr <;> reduce))))
      | (with_reducible refine IfK.yes (nf (by assumption)) ?_; ((with_reducible conv => whnf); (with_reducible conv => congr <;> reduce); repeat ((first | (with_reducible refine HaltK.mk ?_) | (with_reducible refine StopK.mk ?_)); (with_reducible conv => whnf); (with_reducible conv => congr <;> reduce))))
      | (with_reducible refine IfK.no (nt (by assumption)) ?_; ((with_reducible conv => whnf); (with_reducible conv => congr <;> reduce); repeat ((first | (with_reducible refine HaltK.mk ?_) | (with_reducible refine StopK.mk ?_)); (with_reducible conv => whnf); (with_reducible conv => congr <;> reduce))))
      | (with_reducible refine IfK.tt ?_; ((with_reducible conv => whnf); (with_reducible conv => congr <;> reduce); repeat ((first | (with_reducible refine HaltK.mk ?_) | (with_reducible refine StopK.mk ?_)); (with_reducible conv => whnf); (with_reducible conv => congr <;> reduce))))
      | (with_reducible refine IfK.ff ?_; ((with_reducible conv => whnf); (with_reducible conv => congr <;> reduce); repeat ((first | (with_reducible refine HaltK.mk ?_) | (with_reducible refine StopK.mk ?_)); (with_reducible conv => whnf); (with_reducible conv => congr <;> reduce))))
      | (refine IfK.mk (fun _ => ?_) (fun _ => ?_) <;> ((with_reducible conv => whnf); (with_reducible conv => congr <;> reduce); repeat ((first | (with_reducible refine HaltK.mk ?_) | (with_reducible refine StopK.mk ?_)); (with_reducible conv => whnf); (with_reducible conv => congr <;> reduce)))))
    | ((with_reducible show CallK _ _ 27 _ _ _ _); refine CallK.new 411 [] (f27_ok l hl) c27 ⟨rfl, trivial⟩ rfl rfl rfl (attrs_outs l) rfl ?_; ((with_reducible conv => whnf); (with_reducible conv => congr <;> reduce); repeat ((first | (with_reducible refine HaltK.mk ?_) | (with_reducible refine StopK.mk ?_)); (with_reducible conv => whnf); (with_reducible conv => congr <;> reduce))))
    | ((with_reducible show CallK _ _ 12 _ _ _ _); refine CallK.val [] (f12_ok l hl n noS) c12 ⟨rfl, rfl, rfl, trivial⟩ rfl rfl rfl ?_; ((with_reducible conv => whnf); (with_reducible conv => congr <;> reduce); repeat ((first | (with_reducible refine HaltK.mk ?_) | (with_reducible refine StopK.mk ?_)); (with_reducible conv => whnf); (with_reducible conv => congr <;> reduce))))
    | ((with_reducible show CallK _ _ 14 _ _ _ _); refine CallK.val [] (f14_ok l hl n) c14 ⟨rfl, rfl, trivial⟩ rfl rfl rfl ?_; ((with_reducible conv => whnf); (with_reducible conv => congr <;> reduce); repeat ((first | (with_reducible refine HaltK.mk ?_) | (with_reducible refine StopK.mk ?_)); (with_reducible conv => whnf); (with_reducible conv => congr <;> reduce))))
    | ((with_reducible show (_ ∧ _) ∧ _ ∧ _); refine ⟨⟨rfl, rfl⟩, ?_, ?_⟩ <;> (with_reducible conv => whnf) <;> repeat' (first | (with_reducible exact trivial) | (with_reducible refine And.intro ?_ ?_ <;> with_reducible conv => whnf)))))
  all_goals first
    | exact frz_attrs rfl rfl rfl rfl
    | rfl
    | assumption
    | exact hP.symm
    | exact hP
    | trace_state
end Go.Proofs.Attr
end
section
namespace Go.Proofs.Attr
open Go.Am Go.RowKit Go.Lib
set_option maxRecDepth 100000
/-- ref.At -/
theorem f21_ok (l : List AttrM) (hl : l.length ≤ 100000) (n : ByteArray) : FnOK Try.prog 21 [] [eAttrs l, eStr n] [] (eInt (posA l n)) := by
  have hlm : (l.map oAttr).length = l.length := List.length_map ..
  refine FnOK.startC (rvs := [.tmp 4]) G G_good Try.func21 rfl Try.ntmps21 rfl rfl ?_; delta List.toArray; ((with_reducible conv => whnf); (with_reducible conv => congr <;> reduce); repeat ((first | (with_reducible refine HaltK.mk ?_) | (with_reducible refine StopK.mk ?_)); (with_reducible conv => whnf); (with_reducible conv => congr <;> reduce)))
  refine LoopK.use G G_good (fun (k : Nat) => [(0, eAttrs l), (1, eStr n), (5, eInt k)]) (fun _ => []) (fun k => k ≤ l.length ∧ ∀ j x, j < k → l[j]? = some x → hasName n x = false) (fun k => l.length - k) 0 ⟨Nat.zero_le _, fun j x h => by omega⟩
    ⟨⟨rfl, rfl⟩, ⟨rfl, rfl, rfl, trivial⟩, trivial⟩ ?_
  rintro k ⟨hk, hno⟩
  ((with_reducible conv => whnf); (with_reducible conv => congr <;> reduce); repeat ((first | (with_reducible refine HaltK.mk ?_) | (with_reducible refine StopK.mk ?_)); (with_reducible conv => whnf); (with_reducible conv => congr <;> reduce)))
  refine IfK.mk (fun h1 => ?_) (fun h1 => ?_) <;> (try simp only [castN] at h1) <;> ((with_reducible conv => whnf); (with_reducible conv => congr <;> reduce); repeat ((first | (with_reducible refine HaltK.mk ?_) | (with_reducible refine StopK.mk ?_)); (with_reducible conv => whnf); (with_reducible conv => congr <;> reduce)))
  · simp only [decide_eq_true_eq] at h1
    have hk' : k < l.length := by omega
    obtain ⟨⟨an, av⟩, ha⟩ : ∃ a, l[k]? = some a := ⟨_, List.getElem?_eq_getElem hk'⟩
    refine IdxK.mk k (eAttr ⟨an, av⟩) rfl (attr_get ha) ?_; ((with_reducible conv => whnf); (with_reducible conv => congr <;> reduce); repeat ((first | (with_reducible refine HaltK.mk ?_) | (with_reducible refine StopK.mk ?_)); (with_reducible conv => whnf); (with_reducible conv => congr <;> reduce)))
    refine IfK.mk (fun h2 => ?_) (fun h2 => ?_) <;> (try simp only [castN] at h2) <;> ((with_reducible conv => whnf); (with_reducible conv => congr <;> reduce); repeat ((first | (with_reducible refine HaltK.mk ?_) | (with_reducible refine StopK.mk ?_)); (with_reducible conv => whnf); (with_reducible conv => congr <;> reduce)))
    · refine ⟨⟨rfl, rfl⟩, ?_, ?_⟩ <;> (with_reducible conv => whnf) <;> repeat' (first | (with_reducible exact trivial) | (with_reducible refine And.intro ?_ ?_ <;> with_reducible conv => whnf))
      exact idxI_hit (p := hasName n) ha h2 hno
    · refine NeedK.mk (by (try simp only [castN]); omega) ?_; ((with_reducible conv => whnf); (with_reducible conv => congr <;> reduce); repeat ((first | (with_reducible refine HaltK.mk ?_) | (with_reducible refine StopK.mk ?_)); (with_reducible conv => whnf); (with_reducible conv => congr <;> reduce)))
      refine NextK.mk (k + 1) ⟨by omega, fun j x hj hx => ?_⟩ (by omega) ⟨⟨rfl, rfl⟩, ⟨rfl, rfl, by show ((k + 1 : Nat) : Int) = (k : Int) + 1; omega, trivial⟩, trivial⟩
      rcases Nat.lt_or_ge j k with h6 | h6
      · exact hno j x h6 hx
      · have : j = k := by omega
        subst this
        rw [ha] at hx; cases hx; exact h2
  · refine ⟨⟨rfl, rfl⟩, ?_, ?_⟩ <;> (with_reducible conv => whnf) <;> repeat' (first | (with_reducible exact trivial) | (with_reducible refine And.intro ?_ ?_ <;> with_reducible conv => whnf))
    have : k = l.length := by simp only [decide_eq_false_iff_not] at h1; omega
    exact idxI_none fun j x hx => hno j x (by have := (List.getElem?_eq_some_iff.1 hx).1; omega) hx
/-- An attribute that may stand at place i. -/
def goodAt (l : List AttrM) (i : Nat) (a : AttrM) : Bool := okA a && decide (posA l a.name = (i : Int))
theorem nodup_pos (l : List AttrM) : (l.map AttrM.name).Nodup ↔ ∀ (i : Nat) (a : AttrM), l[i]? = some a → posA l a.name = (i : Int) := by
  constructor
  · intro hn i a ha
    refine idxI_hit ha (by simp [hasName]) fun j x hj hx => ?_
    simp only [hasName, decide_eq_false_iff_not]
    intro e
    have h1 : (l.map AttrM.name)[j]? = some x.name := by rw [List.getElem?_map, hx]; rfl
    have h2 : (l.map AttrM.name)[i]? = some a.name := by rw [List.getElem?_map, ha]; rfl
    have hjl := (List.getElem?_eq_some_iff.1 h1).1
    have := (List.getElem?_inj hjl hn (j := i)).1 (h1.trans ((congrArg some e).trans h2.symm))
    omega
  · intro h
    rw [List.nodup_iff_pairwise_ne, List.pairwise_iff_getElem]
    intro i j hi hj hij e
    rw [List.length_map] at hi hj
    have h1 := h i _ (List.getElem?_eq_getElem hi)
    have h2 := h j _ (List.getElem?_eq_getElem hj)
    rw [List.getElem_map, List.getElem_map] at e
    rw [e, h2] at h1
    omega
theorem rightA_iff (l : List AttrM) (h : l.length ≤ 40) : rightA l = true ↔ ∀ (i : Nat) (a : AttrM), l[i]? = some a → goodAt l i a = true := by
  unfold rightA goodAt
  rw [decide_eq_true h]
  simp only [Bool.true_and, Bool.and_eq_true, List.all_eq_true, decide_eq_true_eq]
  rw [nodup_pos]
  constructor
  · rintro ⟨h1, h2⟩ i a ha
    exact ⟨h1 a (List.mem_of_getElem? ha), h2 i a ha⟩
  · intro h
    refine ⟨fun a ha => ?_, fun i a ha => (h i a ha).2⟩
    obtain ⟨i, hi⟩ := List.getElem?_of_mem ha
    exact (h i a hi).1
/-- ref.Right -/
theorem f19_ok (l : List AttrM) (hl : l.length ≤ 100000) : FnOK Try.prog 19 [] [eAttrs l] [] (eBool (rightA l)) := by
  have hlm : (l.map oAttr).length = l.length := List.length_map ..
  refine FnOK.startC (rvs := [.tmp 2]) G G_good Try.func19 rfl Try.ntmps19 rfl rfl ?_; delta List.toArray; ((with_reducible conv => whnf); (with_reducible conv => congr <;> reduce); repeat ((first | (with_reducible refine HaltK.mk ?_) | (with_reducible refine StopK.mk ?_)); (with_reducible conv => whnf); (with_reducible conv => congr <;> reduce)))
  refine IfK.mk (fun h0 => ?_) (fun h0 => ?_) <;> (try simp only [castN] at h0) <;> ((with_reducible conv => whnf); (with_reducible conv => congr <;> reduce); repeat ((first | (with_reducible refine HaltK.mk ?_) | (with_reducible refine StopK.mk ?_)); (with_reducible conv => whnf); (with_reducible conv => congr <;> reduce)))
  · refine ⟨⟨rfl, rfl⟩, ?_, ?_⟩ <;> (with_reducible conv => whnf) <;> repeat' (first | (with_reducible exact trivial) | (with_reducible refine And.intro ?_ ?_ <;> with_reducible conv => whnf))
    simp only [hlm, decide_eq_true_eq] at h0
    unfold rightA; rw [decide_eq_false (by omega)]; rfl
  · simp only [hlm, decide_eq_false_iff_not] at h0
    have hr := rightA_iff l (by omega)
    refine LoopK.use G G_good (fun (k : Nat) => [(0, eAttrs l), (3, eInt k)]) (fun _ => []) (fun k => k ≤ l.length ∧ ∀ j x, j < k → l[j]? = some x → goodAt l j x = true) (fun k => l.length - k) 0 ⟨Nat.zero_le _, fun j x h => by omega⟩
      ⟨⟨rfl, rfl⟩, ⟨rfl, rfl, trivial⟩, trivial⟩ ?_
    rintro k ⟨hk, hok⟩
    ((with_reducible conv => whnf); (with_reducible conv => congr <;> reduce); repeat ((first | (with_reducible refine HaltK.mk ?_) | (with_reducible refine StopK.mk ?_)); (with_reducible conv => whnf); (with_reducible conv => congr <;> reduce)))
    refine IfK.mk (fun h1 => ?_) (fun h1 => ?_) <;> (try simp only [castN] at h1) <;> ((with_reducible conv => whnf); (with_reducible conv => congr <;> reduce); repeat ((first | (with_reducible refine HaltK.mk ?_) | (with_reducible refine StopK.mk ?_)); (with_reducible conv => whnf); (with_reducible conv => congr <;> reduce)))
    · simp only [decide_eq_true_eq] at h1
      have hk' : k < l.length := by omega
      obtain ⟨⟨an, av⟩, ha⟩ : ∃ a, l[k]? = some a := ⟨_, List.getElem?_eq_getElem hk'⟩
      have next : goodAt l k ⟨an, av⟩ = true → ∀ j x, j < k + 1 → l[j]? = some x → goodAt l j x = true := by
        intro h j x hj hx
        rcases Nat.lt_or_ge j k with h6 | h6
        · exact hok j x h6 hx
        · have : j = k := by omega
          subst this
          rw [ha] at hx; cases hx; exact h
      have no : goodAt l k ⟨an, av⟩ = false → rightA l = false := by
        intro h
        cases h' : rightA l with
        | false => rfl
        | true => rw [hr.1 h' k _ ha] at h; cases h
      repeat' (first
    | ((with_reducible show IfK _ _ _ _); first
      | (refine IfK.yes (by assumption) ?_; ((with_reducible conv => whnf); (with_reducible conv => congr <;> reduce); repeat ((first | (with_reducible refine HaltK.mk ?_) | (with_reducible refine StopK.mk ?_)); (with_reducible conv => whnf); (with_reducible conv => congr <;> reduce))))
      | (refine IfK.no (by assumption) ?_; ((with_reducible conv => whnf); (with_reducible conv => congr <;> reduce); repeat ((first | (with_reducible refine HaltK.mk ?_) | (with_reducible refine StopK.mk ?_)); (with_reducible conv => whnf); (with_reducible conv => congr <;> reduce))))
      | (with_reducible refine IfK.yes Bool.not_false ?_; ((with_reducible conv => whnf); (with_reducible conv => congr <;> reduce); repeat ((first | (with_reducible refine HaltK.mk ?_) | (with_reducible refine StopK.mk ?_)); (with_reducible conv => whnf); (with_reducible conv => congr <;> reduce))))
      | (with_reducible refine IfK.no Bool.not_true ?_; ((with_reducible conv => whnf); (with_reducible conv => congr <;> reduce); repeat ((first | (with_reducible refine HaltK.mk ?_) | (with_reducible refine StopK.mk ?_)); (with_reducible conv => whnf); (with_reducible conv => congr <;> reduce))))
      | (with_reducible refine IfK.yes (nf (by assumption)) ?_; ((with_reducible conv => whnf); (with_reducible conv => congr <;> reduce); repeat ((first | (with_reducible refine HaltK.mk ?_) | (with_reducible refine StopK.mk ?_)); (with_reducible conv => whnf); (with_reducible conv => congr <;> reduce))))
      | (with_reducible refine IfK.no (nt (by assumption)) ?_; ((with_reducible conv => whnf); (with_reducible conv => congr <;> reduce); repeat ((first | (with_reducible refine HaltK.mk ?_) | (with_reducible refine StopK.mk ?_)); (with_reducible conv => whnf); (with_reducible conv => congr <;> reduce))))
      | (with_reducible refine IfK.tt ?_; ((with_reducible conv => whnf); (with_reducible conv => congr <;> reduce); repeat ((first | (with_reducible refine HaltK.mk ?_) | (with_reducible refine StopK.mk ?_)); (with_reducible conv => whnf); (with_reducible conv => congr <;> reduce))))
      | (with_reducible refine IfK.ff ?_; ((with_reducible conv => whnf); (with_reducible conv => congr <;> reduce); repeat ((first | (with_reducible refine HaltK.mk ?_) | (with_reducible refine StopK.mk ?_)); (with_reducible conv => whnf); (with_reducible conv => congr <;> reduce))))
      | (refine IfK.mk (fun _ => ?_) (fun _ => ?_) <;> ((with_reducible conv => whnf); (with_reducible conv => congr <;> reduce); repeat ((first | (with_reducible refine HaltK.mk ?_) | (with_reducible refine StopK.mk ?_)); (with_reducible conv => whnf); (with_reducible conv => congr <;> reduce)))))
    | ((with_reducible show IdxK _ _ _ _ _); refine IdxK.mk k (eAttr ⟨an, av⟩) rfl (attr_get ha) ?_; ((with_reducible conv => whnf); (with_reducible conv => congr <;> reduce); repeat ((first | (with_reducible refine HaltK.mk ?_) | (with_reducible refine StopK.mk ?_)); (with_reducible conv => whnf); (with_reducible conv => congr <;> reduce))))
    | ((with_reducible show CallK _ _ 25 _ _ _ _); refine CallK.lit [] (f25_ok _) c25 ⟨rfl, trivial⟩ rfl rfl ?_; ((with_reducible conv => whnf); (with_reducible conv => congr <;> reduce); repeat ((first | (with_reducible refine HaltK.mk ?_) | (with_reducible refine StopK.mk ?_)); (with_reducible conv => whnf); (with_reducible conv => congr <;> reduce))))
    | ((with_reducible show CallK _ _ 26 _ _ _ _); refine CallK.lit [] (f26_ok _ (right_small (by assumption))) c26 ⟨rfl, trivial⟩ rfl rfl ?_; ((with_reducible conv => whnf); (with_reducible conv => congr <;> reduce); repeat ((first | (with_reducible refine HaltK.mk ?_) | (with_reducible refine StopK.mk ?_)); (with_reducible conv => whnf); (with_reducible conv => congr <;> reduce))))
    | ((with_reducible show CallK _ _ 21 _ _ _ _); refine CallK.lit [] (f21_ok l hl _) c21 ⟨rfl, rfl, trivial⟩ rfl rfl ?_; ((with_reducible conv => whnf); (with_reducible conv => congr <;> reduce); repeat ((first | (with_reducible refine HaltK.mk ?_) | (with_reducible refine StopK.mk ?_)); (with_reducible conv => whnf); (with_reducible conv => congr <;> reduce))))
    | ((with_reducible show DrawK _ _ _ _); refine DrawK.mk (by kernel_rfl) (by kernel_rfl) (by kernel_rfl) ?_; ((with_reducible conv => whnf); (with_reducible conv => congr <;> reduce); repeat ((first | (with_reducible refine HaltK.mk ?_) | (with_reducible refine StopK.mk ?_)); (with_reducible conv => whnf); (with_reducible conv => congr <;> reduce))))
    | ((with_reducible show NeedK _ _ _ _); refine NeedK.mk (by (try simp only [castN]); omega) ?_; ((with_reducible conv => whnf); (with_reducible conv => congr <;> reduce); repeat ((first | (with_reducible refine HaltK.mk ?_) | (with_reducible refine StopK.mk ?_)); (with_reducible conv => whnf); (with_reducible conv => congr <;> reduce))))
    | ((with_reducible show NextK _ _); refine NextK.mk (k + 1) ⟨by omega, next ?_⟩ (by omega) ⟨⟨rfl, rfl⟩, ⟨rfl, by show ((k + 1 : Nat) : Int) = (k : Int) + 1; omega, trivial⟩, trivial⟩)
    | ((with_reducible show (_ ∧ _) ∧ _ ∧ _); refine ⟨⟨rfl, rfl⟩, ?_, ?_⟩ <;> (with_reducible conv => whnf) <;> repeat' (first | (with_reducible exact trivial) | (with_reducible refine And.intro ?_ ?_ <;> with_reducible conv => whnf))))
      all_goals first
        | (refine no ?_; unfold goodAt okA; (try simp only [castN] at *); simp_all <;> omega)
        | (unfold goodAt okA; (try simp only [castN] at *); simp_all <;> omega)
    · refine ⟨⟨rfl, rfl⟩, ?_, ?_⟩ <;> (with_reducible conv => whnf) <;> repeat' (first | (with_reducible exact trivial) | (with_reducible refine And.intro ?_ ?_ <;> with_reducible conv => whnf))
      refine hr.2 fun j x hx => hok j x ?_ hx
      have := (List.getElem?_eq_some_iff.1 hx).1
      simp only [decide_eq_false_iff_not] at h1; omega
theorem findP_ref {l : List AttrM} {n : ByteArray} (h1 : rightA l = true) (h2 : rightS n = true) : findP l n = posA l (lowS n) := by unfold findP; rw [h1, h2]; rfl
theorem findP_bad {l : List AttrM} {n : ByteArray} (h : rightA l = false ∨ rightS n = false) : findP l n = -1 := by
  unfold findP
  rcases h with h | h <;> rw [h] <;> simp
/-- ref.Get -/
theorem f11_ok (l : List AttrM) (hl : l.length ≤ 100000) (n : ByteArray) : FnOK Try.prog 11 [] [eAttrs l, eStr n] [] (.tup [eStr (getS l n), eBool (decide (0 ≤ findP l n))]) := by
  have hlm : (l.map oAttr).length = l.length := List.length_map ..
  refine FnOK.startC (rvs := [.tmp 4, .tmp 5]) G G_good Try.func11 rfl Try.ntmps11 rfl rfl ?_; delta List.toArray; ((with_reducible conv => whnf); (with_reducible conv => congr <;> reduce); repeat ((first | (with_reducible refine HaltK.mk ?_) | (with_reducible refine StopK.mk ?_)); (with_reducible conv => whnf); (with_reducible conv => congr <;> reduce)))
  refine CallK.lit [] (f19_ok l hl) c19 ⟨rfl, trivial⟩ rfl rfl ?_; ((with_reducible conv => whnf); (with_reducible conv => congr <;> reduce); repeat ((first | (with_reducible refine HaltK.mk ?_) | (with_reducible refine StopK.mk ?_)); (with_reducible conv => whnf); (with_reducible conv => congr <;> reduce)))
  have bad : findP l n = -1 → getS l n = noS ∧ decide (0 ≤ findP l n) = false := by
    intro h
    unfold getS
    rw [h]
    exact ⟨rfl, rfl⟩
  have cs : findP l n = -1 ∨ ∃ (k : Nat) (a : AttrM), findP l n = k ∧ l[k]? = some a ∧ a.name = lowS n := findP_cases l n
  cases h1 : rightA l with
  | false =>
    have b := bad (findP_bad (.inl h1))
    rw [b.1, b.2]
    repeat' (first
    | ((with_reducible show IfK _ _ _ _); first
      | (refine IfK.yes (by assumption) ?_; ((with_reducible conv => whnf); (with_reducible conv => congr <;> reduce); repeat ((first | (with_reducible refine HaltK.mk ?_) | (with_reducible refine StopK.mk ?_)); (with_reducible conv => whnf); (with_reducible conv => congr <;> reduce))))
      | (refine IfK.no (by assumption) ?_; ((with_reducible conv => whnf); (with_reducible conv => congr <;> reduce); repeat ((first | (with_reducible refine HaltK.mk ?_) | (with_reducible refine StopK.mk ?_)); (with_reducible conv => whnf); (with_reducible conv => congr <;> reduce))))
      | (with_reducible refine IfK.yes Bool.not_false ?_; ((with_reducible conv => whnf); (with_reducible conv => congr <;> reduce); repeat ((first | (with_reducible refine HaltK.mk ?_) | (with_reducible refine StopK.mk ?_)); (with_reducible conv => whnf); (with_reducible conv => congr <;> reduce))))
      | (with_reducible refine IfK.no Bool.not_true ?_; ((with_reducible conv => whnf); (with_reducible conv => congr <;> reduce); repeat ((first | (with_reducible refine HaltK.mk ?_) | (with_reducible refine StopK.mk ?_)); (with_reducible conv => whnf); (with_reducible conv => congr <;> reduce))))
      | (with_reducible refine IfK.yes (nf (by assumption)) ?_; ((with_reducible conv => whnf); (with_reducible conv => congr <;> reduce); repeat ((first | (with_reducible refine HaltK.mk ?_) | (with_reducible refine StopK.mk ?_)); (with_reducible conv => whnf); (with_reducible conv => congr <;> reduce))))
      | (with_reducible refine IfK.no (nt (by assumption)) ?_; ((with_reducible conv => whnf); (with_reducible conv => congr <;> reduce); repeat ((first | (with_reducible refine HaltK.mk ?_) | (with_reducible refine StopK.mk ?_)); (with_reducible conv => whnf); (with_reducible conv => congr <;> reduce))))
      | (with_reducible refine IfK.tt ?_; ((with_reducible conv => whnf); (with_reducible conv => congr <;> reduce); repeat ((first | (with_reducible refine HaltK.mk ?_) | (with_reducible refine StopK.mk ?_)); (with_reducible conv => whnf); (with_reducible conv => congr <;> reduce))))
      | (with_reducible refine IfK.ff ?_; ((with_reducible conv => whnf); (with_reducible conv => congr <;> reduce); repeat ((first | (with_reducible refine HaltK.mk ?_) | (with_reducible refine StopK.mk ?_)); (with_reducible conv => whnf); (with_reducible conv => congr <;> reduce))))
      | (refine IfK.mk (fun _ => ?_) (fun _ => ?_) <;> ((with_reducible conv => whnf); (with_reducible conv => congr <;> reduce); repeat ((first | (with_reducible refine HaltK.mk ?_) | (with_reducible refine StopK.mk ?_)); (with_reducible conv => whnf); (with_reducible conv => congr <;> reduce)))))
    | ((with_reducible show (_ ∧ _) ∧ _ ∧ _); refine ⟨⟨rfl, rfl⟩, ?_, ?_⟩ <;> (with_reducible conv => whnf) <;> repeat' (first | (with_reducible exact trivial) | (with_reducible refine And.intro ?_ ?_ <;> with_reducible conv => whnf))))
    all_goals rfl
  | true =>
    cases h2 : rightS n with
    | false =>
      have b := bad (findP_bad (.inr h2))
      rw [b.1, b.2]
      repeat' (first
    | ((with_reducible show IfK _ _ _ _); first
      | (refine IfK.yes (by assumption) ?_; ((with_reducible conv => whnf); (with_reducible conv => congr <;> reduce); repeat ((first | (with_reducible refine HaltK.mk ?_) | (with_reducible refine StopK.mk ?_)); (with_reducible conv => whnf); (with_reducible conv => congr <;> reduce))))
      | (refine IfK.no (by assumption) ?_; ((with_reducible conv => whnf); (with_reducible conv => congr <;> reduce); repeat ((first | (with_reducible refine HaltK.mk ?_) | (with_reducible refine StopK.mk ?_)); (with_reducible conv => whnf); (with_reducible conv => congr <;> reduce))))
      | (with_reducible refine IfK.yes Bool.not_false ?_; ((with_reducible conv => whnf); (with_reducible conv => congr <;> reduce); repeat ((first | (with_reducible refine HaltK.mk ?_) | (with_reducible refine StopK.mk ?_)); (with_reducible conv => whnf); (with_reducible conv => congr <;> reduce))))
      | (with_reducible refine IfK.no Bool.not_true ?_; ((with_reducible conv => whnf); (with_reducible conv => congr <;> reduce); repeat ((first | (with_reducible refine HaltK.mk ?_) | (with_reducible refine StopK.mk ?_)); (with_reducible conv => whnf); (with_reducible conv => congr <;> reduce))))
      | (with_reducible refine IfK.yes (nf (by assumption)) ?_; ((with_reducible conv => whnf); (with_reducible conv => congr <;> reduce); repeat ((first | (with_reducible refine HaltK.mk ?_) | (with_reducible refine StopK.mk ?_)); (with_reducible conv => whnf); (with_reducible conv => congr <;> reduce))))
      | (with_reducible refine IfK.no (nt (by assumption)) ?_; ((with_reducible conv => whnf); (with_reducible conv => congr <;> reduce); repeat ((first | (with_reducible refine HaltK.mk ?_) | (with_reducible refine StopK.mk ?_)); (with_reducible conv => whnf); (with_reducible conv => congr <;> reduce))))
      | (with_reducible refine IfK.tt ?_; ((with_reducible conv => whnf); (with_reducible conv => congr <;> reduce); repeat ((first | (with_reducible refine HaltK.mk ?_) | (with_reducible refine StopK.mk ?_)); (with_reducible conv => whnf); (with_reducible conv => congr <;> reduce))))
      | (with_reducible refine IfK.ff ?_; ((with_reducible conv => whnf); (with_reducible conv => congr <;> reduce); repeat ((first | (with_reducible refine HaltK.mk ?_) | (with_reducible refine StopK.mk ?_)); (with_reducible conv => whnf); (with_reducible conv => congr <;> reduce))))
      | (refine IfK.mk (fun _ => ?_) (fun _ => ?_) <;> ((with_reducible conv => whnf); (with_reducible conv => congr <;> reduce); repeat ((first | (with_reducible refine HaltK.mk ?_) | (with_reducible refine StopK.mk ?_)); (with_reducible conv => whnf); (with_reducible conv => congr <;> reduce)))))
    | ((with_reducible show CallK _ _ 25 _ _ _ _); refine CallK.lit [] (f25_ok _) c25 ⟨rfl, trivial⟩ rfl rfl ?_; ((with_reducible conv => whnf); (with_reducible conv => congr <;> reduce); repeat ((first | (with_reducible refine HaltK.mk ?_) | (with_reducible refine StopK.mk ?_)); (with_reducible conv => whnf); (with_reducible conv => congr <;> reduce))))
    | ((with_reducible show (_ ∧ _) ∧ _ ∧ _); refine ⟨⟨rfl, rfl⟩, ?_, ?_⟩ <;> (with_reducible conv => whnf) <;> repeat' (first | (with_reducible exact trivial) | (with_reducible refine And.intro ?_ ?_ <;> with_reducible conv => whnf))))
      all_goals rfl
    | true =>
      have hsm := right_small (s := n) (by rw [h2]; rfl)
      have hp := findP_ref h1 h2
      rcases cs with h | ⟨k, a, h, ha, hn⟩
      · have b := bad h
        rw [b.1, b.2]
        have hq : decide (posA l (lowS n) < 0) = true := by rw [← hp, h]; rfl
        repeat' (first
    | ((with_reducible show IfK _ _ _ _); first
      | (refine IfK.yes (by assumption) ?_; ((with_reducible conv => whnf); (with_reducible conv => congr <;> reduce); repeat ((first | (with_reducible refine HaltK.mk ?_) | (with_reducible refine StopK.mk ?_)); (with_reducible conv => whnf); (with_reducible conv => congr <;> reduce))))
      | (refine IfK.no (by assumption) ?_; ((with_reducible conv => whnf); (with_reducible conv => congr <;> reduce); repeat ((first | (with_reducible refine HaltK.mk ?_) | (with_reducible refine StopK.mk ?_)); (with_reducible conv => whnf); (with_reducible conv => congr <;> reduce))))
      | (with_reducible refine IfK.yes Bool.not_false ?_; ((with_reducible conv => whnf); (with_reducible conv => congr <;> reduce); repeat ((first | (with_reducible refine HaltK.mk ?_) | (with_reducible refine StopK.mk ?_)); (with_reducible conv => whnf); (with_reducible conv => congr <;> reduce))))
      | (with_reducible refine IfK.no Bool.not_true ?_; ((with_reducible conv => whnf); (with_reducible conv => congr <;> reduce); repeat ((first | (with_reducible refine HaltK.mk ?_) | (with_reducible refine StopK.mk ?_)); (with_reducible conv => whnf); (with_reducible conv => congr <;> reduce))))
      | (with_reducible refine IfK.yes (nf (by assumption)) ?_; ((with_reducible conv => whnf); (with_reducible conv => congr <;> reduce); repeat ((first | (with_reducible refine HaltK.mk ?_) | (with_reducible refine StopK.mk ?_)); (with_reducible conv => whnf); (with_reducible conv => congr <;> reduce))))
      | (with_reducible refine IfK.no (nt (by assumption)) ?_; ((with_reducible conv => whnf); (with_reducible conv => congr <;> reduce); repeat ((first | (with_reducible refine HaltK.mk ?_) | (with_reducible refine StopK.mk ?_)); (with_reducible conv => whnf); (with_reducible conv => congr <;> reduce))))
      | (with_reducible refine IfK.tt ?_; ((with_reducible conv => whnf); (with_reducible conv => congr <;> reduce); repeat ((first | (with_reducible refine HaltK.mk ?_) | (with_reducible refine StopK.mk ?_)); (with_reducible conv => whnf); (with_reducible conv => congr <;> reduce))))
      | (with_reducible refine IfK.ff ?_; ((with_reducible conv => whnf); (with_reducible conv => congr <;> reduce); repeat ((first | (with_reducible refine HaltK.mk ?_) | (with_reducible refine StopK.mk ?_)); (with_reducible conv => whnf); (with_reducible conv => congr <;> reduce))))
      | (refine IfK.mk (fun _ => ?_) (fun _ => ?_) <;> ((with_reducible conv => whnf); (with_reducible conv => congr <;> reduce); repeat ((first | (with_reducible refine HaltK.mk ?_) | (with_reducible refine StopK.mk ?_)); (with_reducible conv => whnf); (with_reducible conv => congr <;> reduce)))))
    | ((with_reducible show CallK _ _ 25 _ _ _ _); refine CallK.lit [] (f25_ok _) c25 ⟨rfl, trivial⟩ rfl rfl ?_; ((with_reducible conv => whnf); (with_reducible conv => congr <;> reduce); repeat ((first | (with_reducible refine HaltK.mk ?_) | (with_reducible refine StopK.mk ?_)); (with_reducible conv => whnf); (with_reducible conv => congr <;> reduce))))
    | ((with_reducible show CallK _ _ 26 _ _ _ _); refine CallK.lit [] (f26_ok _ hsm) c26 ⟨rfl, trivial⟩ rfl rfl ?_; ((with_reducible conv => whnf); (with_reducible conv => congr <;> reduce); repeat ((first | (with_reducible refine HaltK.mk ?_) | (with_reducible refine StopK.mk ?_)); (with_reducible conv => whnf); (with_reducible conv => congr <;> reduce))))
    | ((with_reducible show CallK _ _ 21 _ _ _ _); refine CallK.lit [] (f21_ok l hl _) c21 ⟨rfl, rfl, trivial⟩ rfl rfl ?_; ((with_reducible conv => whnf); (with_reducible conv => congr <;> reduce); repeat ((first | (with_reducible refine HaltK.mk ?_) | (with_reducible refine StopK.mk ?_)); (with_reducible conv => whnf); (with_reducible conv => congr <;> reduce))))
    | ((with_reducible show (_ ∧ _) ∧ _ ∧ _); refine ⟨⟨rfl, rfl⟩, ?_, ?_⟩ <;> (with_reducible conv => whnf) <;> repeat' (first | (with_reducible exact trivial) | (with_reducible refine And.intro ?_ ?_ <;> with_reducible conv => whnf))))
        all_goals rfl
      · have hq : decide (posA l (lowS n) < 0) = false := by rw [← hp, h]; exact decide_eq_false (by omega)
        have e1 : getS l n = a.value := by unfold getS; rw [h, if_pos (by omega), Int.toNat_natCast, ha]; rfl
        have e2 : decide (0 ≤ findP l n) = true := by rw [h]; exact decide_eq_true (by omega)
        rw [e1, e2]
        have hk : posA l (lowS n) = (k : Int) := by rw [← hp, h]
        obtain ⟨an, av⟩ := a
        repeat' (first
    | ((with_reducible show IfK _ _ _ _); first
      | (refine IfK.yes (by assumption) ?_; ((with_reducible conv => whnf); (with_reducible conv => congr <;> reduce); repeat ((first | (with_reducible refine HaltK.mk ?_) | (with_reducible refine StopK.mk ?_)); (with_reducible conv => whnf); (with_reducible conv => congr <;> reduce))))
      | (refine IfK.no (by assumption) ?_; ((with_reducible conv => whnf); (with_reducible conv => congr <;> reduce); repeat ((first | (with_reducible refine HaltK.mk ?_) | (with_reducible refine StopK.mk ?_)); (with_reducible conv => whnf); (with_reducible conv => congr <;> reduce))))
      | (with_reducible refine IfK.yes Bool.not_false ?_; ((with_reducible conv => whnf); (with_reducible conv => congr <;> reduce); repeat ((first | (with_reducible refine HaltK.mk ?_) | (with_reducible refine StopK.mk ?_)); (with_reducible conv => whnf); (with_reducible conv => congr <;> reduce))))
      | (with_reducible refine IfK.no Bool.not_true ?_; ((with_reducible conv => whnf); (with_reducible conv => congr <;> reduce); repeat ((first | (with_reducible refine HaltK.mk ?_) | (with_reducible refine StopK.mk ?_)); (with_reducible conv => whnf); (with_reducible conv => congr <;> reduce))))
      | (with_reducible refine IfK.yes (nf (by assumption)) ?_; ((with_reducible conv => whnf); (with_reducible conv => congr <;> reduce); repeat ((first | (with_reducible refine HaltK.mk ?_) | (with_reducible refine StopK.mk ?_)); (with_reducible conv => whnf); (with_reducible conv => congr <;> reduce))))
      | (with_reducible refine IfK.no (nt (by assumption)) ?_; ((with_reducible conv => whnf); (with_reducible conv => congr <;> reduce); repeat ((first | (with_reducible refine HaltK.mk ?_) | (with_reducible refine StopK.mk ?_)); (with_reducible conv => whnf); (with_reducible conv => congr <;> reduce))))
      | (with_reducible refine IfK.tt ?_; ((with_reducible conv => whnf); (with_reducible conv => congr <;> reduce); repeat ((first | (with_reducible refine HaltK.mk ?_) | (with_reducible refine StopK.mk ?_)); (with_reducible conv => whnf); (with_reducible conv => congr <;> reduce))))
      | (with_reducible refine IfK.ff ?_; ((with_reducible conv => whnf); (with_reducible conv => congr <;> reduce); repeat ((first | (with_reducible refine HaltK.mk ?_) | (with_reducible refine StopK.mk ?_)); (with_reducible conv => whnf); (with_reducible conv => congr <;> reduce))))
      | (refine IfK.mk (fun _ => ?_) (fun _ => ?_) <;> ((with_reducible conv => whnf); (with_reducible conv => congr <;> reduce); repeat ((first | (with_reducible refine HaltK.mk ?_) | (with_reducible refine StopK.mk ?_)); (with_reducible conv => whnf); (with_reducible conv => congr <;> reduce)))))
    | ((with_reducible show CallK _ _ 25 _ _ _ _); refine CallK.lit [] (f25_ok _) c25 ⟨rfl, trivial⟩ rfl rfl ?_; ((with_reducible conv => whnf); (with_reducible conv => congr <;> reduce); repeat ((first | (with_reducible refine HaltK.mk ?_) | (with_reducible refine StopK.mk ?_)); (with_reducible conv => whnf); (with_reducible conv => congr <;> reduce))))
    | ((with_reducible show CallK _ _ 26 _ _ _ _); refine CallK.lit [] (f26_ok _ hsm) c26 ⟨rfl, trivial⟩ rfl rfl ?_; ((with_reducible conv => whnf); (with_reducible conv => congr <;> reduce); repeat ((first | (with_reducible refine HaltK.mk ?_) | (with_reducible refine StopK.mk ?_)); (with_reducible conv => whnf); (with_reducible conv => congr <;> reduce))))
    | ((with_reducible show CallK _ _ 21 _ _ _ _); refine CallK.lit [] (f21_ok l hl _) c21 ⟨rfl, rfl, trivial⟩ rfl rfl ?_; ((with_reducible conv => whnf); (with_reducible conv => congr <;> reduce); repeat ((first | (with_reducible refine HaltK.mk ?_) | (with_reducible refine StopK.mk ?_)); (with_reducible conv => whnf); (with_reducible conv => congr <;> reduce))))
    | ((with_reducible show IdxK _ _ _ _ _); refine IdxK.mk k (eAttr ⟨an, av⟩) hk (attr_get ha) ?_; ((with_reducible conv => whnf); (with_reducible conv => congr <;> reduce); repeat ((first | (with_reducible refine HaltK.mk ?_) | (with_reducible refine StopK.mk ?_)); (with_reducible conv => whnf); (with_reducible conv => congr <;> reduce))))
    | ((with_reducible show (_ ∧ _) ∧ _ ∧ _); refine ⟨⟨rfl, rfl⟩, ?_, ?_⟩ <;> (with_reducible conv => whnf) <;> repeat' (first | (with_reducible exact trivial) | (with_reducible refine And.intro ?_ ?_ <;> with_reducible conv => whnf))))
end Go.Proofs.Attr
end
section
namespace Go.Proofs.Attr
open Go.Am Go.RowKit Go.Lib
set_option maxRecDepth 100000
def attrEq (a b : AttrM) : Bool := (a.name.toList == b.name.toList) && (a.value.toList == b.value.toList)
theorem attr_eq (a b : AttrM) (w : World) : (Op.equalIn 10000 41 (.agg #[.string a.name, .string a.value]) (.agg #[.string b.name, .string b.value])).run Try.prog w = .ok (attrEq a b) w := by
  have hS : Try.prog.underlying 41 = some (.struct (Try.prog.fieldsOf 41)) := by kernel_rfl
  have hp : Try.prog.stoodInHeld 41 = false := by kernel_rfl
  have u9 := Try.underlying9
  have a9 := Try.isAgg9
  have z9 := Try.sizeOf9
  rw [show (10000 : Nat) = 9999 + 1 from rfl, run_equalIn_agg w 9999 41 _ _ hS hp]
  simp only [Program.fieldsOf, Try.underlying41]
  go_simp
  clear hS hp u9 a9 z9
  unfold attrEq
  by_cases h1 : a.name.toList = b.name.toList <;> by_cases h2 : a.value.toList = b.value.toList <;> simp [h1, h2]
theorem bytes_inj {a b : ByteArray} (h : a.toList = b.toList) : a = b := by
  rw [ByteArray.toList_eq, ByteArray.toList_eq] at h
  cases a; cases b
  simp only [ByteArray.mk.injEq]
  exact Array.toList_inj.1 h
theorem attrEq_iff (a b : AttrM) : attrEq a b = decide (a = b) := by
  rw [Bool.eq_iff_iff, decide_eq_true_eq]
  unfold attrEq
  simp only [Bool.and_eq_true, beq_iff_eq]
  constructor
  · rintro ⟨h1, h2⟩
    cases a; cases b
    simp only at *
    rw [bytes_inj h1, bytes_inj h2]
  · rintro rfl; simp
theorem attr_neq (a b : AttrM) (y z : Operand) (w : World) : ((do eqGuard .neq 41 y z (.agg #[.string a.name, .string a.value]) (.agg #[.string b.name, .string b.value]); binOp .neq 41 (.agg #[.string a.name, .string a.value]) (.agg #[.string b.name, .string b.value]) : Sem Value)).run Try.prog w = .ok (.bool (!decide (a = b))) w := by
  rw [Sem.run_bind, run_eqGuard_agg w .neq 41 y z _ _ (by kernel_rfl), Result.andThen_ok, run_neq_struct, attr_eq, attrEq_iff]; rfl
/-- ref.Same -/
theorem f20_ok (x y : List AttrM) (hx : x.length ≤ 100000) : FnOK Try.prog 20 [] [eAttrs x, eAttrs y] [] (eBool (decide (x = y))) := by
  have hlx : (x.map oAttr).length = x.length := List.length_map ..
  have hly : (y.map oAttr).length = y.length := List.length_map ..
  refine FnOK.startC (rvs := [.tmp 4]) G G_good Try.func20 rfl Try.ntmps20 rfl rfl ?_; delta List.toArray; ((with_reducible conv => whnf); (with_reducible conv => congr <;> reduce); repeat ((first | (with_reducible refine HaltK.mk ?_) | (with_reducible refine StopK.mk ?_)); (with_reducible conv => whnf); (with_reducible conv => congr <;> reduce)))
  refine IfK.mk (fun h0 => ?_) (fun h0 => ?_) <;> (try simp only [castN] at h0) <;> ((with_reducible conv => whnf); (with_reducible conv => congr <;> reduce); repeat ((first | (with_reducible refine HaltK.mk ?_) | (with_reducible refine StopK.mk ?_)); (with_reducible conv => whnf); (with_reducible conv => congr <;> reduce)))
  · refine ⟨⟨rfl, rfl⟩, ?_, ?_⟩ <;> (with_reducible conv => whnf) <;> repeat' (first | (with_reducible exact trivial) | (with_reducible refine And.intro ?_ ?_ <;> with_reducible conv => whnf))
    have : x ≠ y := by
      rintro rfl
      simp at h0
    exact decide_eq_false this
  · have hxy : x.length = y.length := by simp only [hlx, hly, Bool.not_eq_false', decide_eq_true_eq] at h0; omega
    refine LoopK.use G G_good (fun (k : Nat) => [(0, eAttrs x), (1, eAttrs y), (5, eInt k)]) (fun _ => []) (fun k => k ≤ x.length ∧ ∀ (j : Nat), j < k → x[j]? = y[j]?) (fun k => x.length - k) 0 ⟨Nat.zero_le _, fun j h => by omega⟩
      ⟨⟨rfl, rfl⟩, ⟨rfl, rfl, rfl, trivial⟩, trivial⟩ ?_
    rintro k ⟨hk, hok⟩
    ((with_reducible conv => whnf); (with_reducible conv => congr <;> reduce); repeat ((first | (with_reducible refine HaltK.mk ?_) | (with_reducible refine StopK.mk ?_)); (with_reducible conv => whnf); (with_reducible conv => congr <;> reduce)))
    refine IfK.mk (fun h1 => ?_) (fun h1 => ?_) <;> (try simp only [castN] at h1) <;> ((with_reducible conv => whnf); (with_reducible conv => congr <;> reduce); repeat ((first | (with_reducible refine HaltK.mk ?_) | (with_reducible refine StopK.mk ?_)); (with_reducible conv => whnf); (with_reducible conv => congr <;> reduce)))
    · simp only [decide_eq_true_eq] at h1
      have hk' : k < x.length := by omega
      obtain ⟨⟨an, av⟩, ha⟩ : ∃ a, x[k]? = some a := ⟨_, List.getElem?_eq_getElem hk'⟩
      obtain ⟨⟨bn, bv⟩, hb⟩ : ∃ a, y[k]? = some a := ⟨_, List.getElem?_eq_getElem (by omega)⟩
      refine IdxK.mk k (eAttr ⟨an, av⟩) rfl (attr_get ha) ?_; ((with_reducible conv => whnf); (with_reducible conv => congr <;> reduce); repeat ((first | (with_reducible refine HaltK.mk ?_) | (with_reducible refine StopK.mk ?_)); (with_reducible conv => whnf); (with_reducible conv => congr <;> reduce)))
      refine IdxK.mk k (eAttr ⟨bn, bv⟩) rfl (attr_get hb) ?_; ((with_reducible conv => whnf); (with_reducible conv => congr <;> reduce); repeat ((first | (with_reducible refine HaltK.mk ?_) | (with_reducible refine StopK.mk ?_)); (with_reducible conv => whnf); (with_reducible conv => congr <;> reduce)))
      refine EqK.mk _ (fun y z w => attr_neq ⟨an, av⟩ ⟨bn, bv⟩ y z w) ?_; ((with_reducible conv => whnf); (with_reducible conv => congr <;> reduce); repeat ((first | (with_reducible refine HaltK.mk ?_) | (with_reducible refine StopK.mk ?_)); (with_reducible conv => whnf); (with_reducible conv => congr <;> reduce)))
      refine DrawK.mk (by kernel_rfl) (by kernel_rfl) (by kernel_rfl) ?_; ((with_reducible conv => whnf); (with_reducible conv => congr <;> reduce); repeat ((first | (with_reducible refine HaltK.mk ?_) | (with_reducible refine StopK.mk ?_)); (with_reducible conv => whnf); (with_reducible conv => congr <;> reduce)))
      refine IfK.mk (fun h2 => ?_) (fun h2 => ?_) <;> (try simp only [castN] at h2) <;> ((with_reducible conv => whnf); (with_reducible conv => congr <;> reduce); repeat ((first | (with_reducible refine HaltK.mk ?_) | (with_reducible refine StopK.mk ?_)); (with_reducible conv => whnf); (with_reducible conv => congr <;> reduce)))
      · refine ⟨⟨rfl, rfl⟩, ?_, ?_⟩ <;> (with_reducible conv => whnf) <;> repeat' (first | (with_reducible exact trivial) | (with_reducible refine And.intro ?_ ?_ <;> with_reducible conv => whnf))
        have : x ≠ y := by
          rintro rfl
          rw [ha] at hb; cases hb
          simp at h2
        exact decide_eq_false this
      · have he : (⟨an, av⟩ : AttrM) = ⟨bn, bv⟩ := by simpa using h2
        refine NeedK.mk (by (try simp only [castN]); omega) ?_; ((with_reducible conv => whnf); (with_reducible conv => congr <;> reduce); repeat ((first | (with_reducible refine HaltK.mk ?_) | (with_reducible refine StopK.mk ?_)); (with_reducible conv => whnf); (with_reducible conv => congr <;> reduce)))
        refine NextK.mk (k + 1) ⟨by omega, fun j hj => ?_⟩ (by omega) ⟨⟨rfl, rfl⟩, ⟨rfl, rfl, by show ((k + 1 : Nat) : Int) = (k : Int) + 1; omega, trivial⟩, trivial⟩
        rcases Nat.lt_or_ge j k with h6 | h6
        · exact hok j h6
        · have : j = k := by omega
          subst this
          rw [ha, hb, he]
    · refine ⟨⟨rfl, rfl⟩, ?_, ?_⟩ <;> (with_reducible conv => whnf) <;> repeat' (first | (with_reducible exact trivial) | (with_reducible refine And.intro ?_ ?_ <;> with_reducible conv => whnf))
      have hk2 : k = x.length := by simp only [hlx, decide_eq_false_iff_not] at h1; omega
      refine decide_eq_true (List.ext_getElem? fun j => ?_)
      rcases Nat.lt_or_ge j x.length with h6 | h6
      · exact hok j (by omega)
      · rw [List.getElem?_eq_none h6, List.getElem?_eq_none (by omega)]
/-- ref.Set -/
theorem f13_ok (l : List AttrM) (hl : l.length ≤ 100000) (n v : ByteArray) : FnOK Try.prog 13 [] [eAttrs l, eStr n, eStr v] [] (.tup [eAttrs (setA l n v).1, eInt (setA l n v).2]) := by
  have hlm : (l.map oAttr).length = l.length := List.length_map ..
  refine FnOK.startC (rvs := [.tmp 6, .tmp 7]) G G_good Try.func13 rfl Try.ntmps13 rfl rfl ?_; delta List.toArray; ((with_reducible conv => whnf); (with_reducible conv => congr <;> reduce); repeat ((first | (with_reducible refine HaltK.mk ?_) | (with_reducible refine StopK.mk ?_)); (with_reducible conv => whnf); (with_reducible conv => congr <;> reduce)))
  refine CallK.lit [] (f19_ok l hl) c19 ⟨rfl, trivial⟩ rfl rfl ?_; ((with_reducible conv => whnf); (with_reducible conv => congr <;> reduce); repeat ((first | (with_reducible refine HaltK.mk ?_) | (with_reducible refine StopK.mk ?_)); (with_reducible conv => whnf); (with_reducible conv => congr <;> reduce)))
  cases h1 : rightA l with
  | false =>
    have e : setA l n v = (l, 1) := by simp [setA, findE, h1]
    rw [e]
    repeat' (first
    | ((with_reducible show IfK _ _ _ _); first
      | (refine IfK.yes (by assumption) ?_; ((with_reducible conv => whnf); (with_reducible conv => congr <;> reduce); repeat ((first | (with_reducible refine HaltK.mk ?_) | (with_reducible refine StopK.mk ?_)); (with_reducible conv => whnf); (with_reducible conv => congr <;> reduce))))
      | (refine IfK.no (by assumption) ?_; ((with_reducible conv => whnf); (with_reducible conv => congr <;> reduce); repeat ((first | (with_reducible refine HaltK.mk ?_) | (with_reducible refine StopK.mk ?_)); (with_reducible conv => whnf); (with_reducible conv => congr <;> reduce))))
      | (with_reducible refine IfK.yes Bool.not_false ?_; ((with_reducible conv => whnf); (with_reducible conv => congr <;> reduce); repeat ((first | (with_reducible refine HaltK.mk ?_) | (with_reducible refine StopK.mk ?_)); (with_reducible conv => whnf); (with_reducible conv => congr <;> reduce))))
      | (with_reducible refine IfK.no Bool.not_true ?_; ((with_reducible conv => whnf); (with_reducible conv => congr <;> reduce); repeat ((first | (with_reducible refine HaltK.mk ?_) | (with_reducible refine StopK.mk ?_)); (with_reducible conv => whnf); (with_reducible conv => congr <;> reduce))))
      | (with_reducible refine IfK.yes (nf (by assumption)) ?_; ((with_reducible conv => whnf); (with_reducible conv => congr <;> reduce); repeat ((first | (with_reducible refine HaltK.mk ?_) | (with_reducible refine StopK.mk ?_)); (with_reducible conv => whnf); (with_reducible conv => congr <;> reduce))))
      | (with_reducible refine IfK.no (nt (by assumption)) ?_; ((with_reducible conv => whnf); (with_reducible conv => congr <;> reduce); repeat ((first | (with_reducible refine HaltK.mk ?_) | (with_reducible refine StopK.mk ?_)); (with_reducible conv => whnf); (with_reducible conv => congr <;> reduce))))
      | (with_reducible refine IfK.tt ?_; ((with_reducible conv => whnf); (with_reducible conv => congr <;> reduce); repeat ((first | (with_reducible refine HaltK.mk ?_) | (with_reducible refine StopK.mk ?_)); (with_reducible conv => whnf); (with_reducible conv => congr <;> reduce))))
      | (with_reducible refine IfK.ff ?_; ((with_reducible conv => whnf); (with_reducible conv => congr <;> reduce); repeat ((first | (with_reducible refine HaltK.mk ?_) | (with_reducible refine StopK.mk ?_)); (with_reducible conv => whnf); (with_reducible conv => congr <;> reduce))))
      | (refine IfK.mk (fun _ => ?_) (fun _ => ?_) <;> ((with_reducible conv => whnf); (with_reducible conv => congr <;> reduce); repeat ((first | (with_reducible refine HaltK.mk ?_) | (with_reducible refine StopK.mk ?_)); (with_reducible conv => whnf); (with_reducible conv => congr <;> reduce)))))
    | ((with_reducible show (_ ∧ _) ∧ _ ∧ _); refine ⟨⟨rfl, rfl⟩, ?_, ?_⟩ <;> (with_reducible conv => whnf) <;> repeat' (first | (with_reducible exact trivial) | (with_reducible refine And.intro ?_ ?_ <;> with_reducible conv => whnf))))
  | true =>
    cases h2 : rightS n with
    | false =>
      have e : setA l n v = (l, 4) := by simp [setA, findE, h1, h2]
      rw [e]
      repeat' (first
    | ((with_reducible show IfK _ _ _ _); first
      | (refine IfK.yes (by assumption) ?_; ((with_reducible conv => whnf); (with_reducible conv => congr <;> reduce); repeat ((first | (with_reducible refine HaltK.mk ?_) | (with_reducible refine StopK.mk ?_)); (with_reducible conv => whnf); (with_reducible conv => congr <;> reduce))))
      | (refine IfK.no (by assumption) ?_; ((with_reducible conv => whnf); (with_reducible conv => congr <;> reduce); repeat ((first | (with_reducible refine HaltK.mk ?_) | (with_reducible refine StopK.mk ?_)); (with_reducible conv => whnf); (with_reducible conv => congr <;> reduce))))
      | (with_reducible refine IfK.yes Bool.not_false ?_; ((with_reducible conv => whnf); (with_reducible conv => congr <;> reduce); repeat ((first | (with_reducible refine HaltK.mk ?_) | (with_reducible refine StopK.mk ?_)); (with_reducible conv => whnf); (with_reducible conv => congr <;> reduce))))
      | (with_reducible refine IfK.no Bool.not_true ?_; ((with_reducible conv => whnf); (with_reducible conv => congr <;> reduce); repeat ((first | (with_reducible refine HaltK.mk ?_) | (with_reducible refine StopK.mk ?_)); (with_reducible conv => whnf); (with_reducible conv => congr <;> reduce))))
      | (with_reducible refine IfK.yes (nf (by assumption)) ?_; ((with_reducible conv => whnf); (with_reducible conv => congr <;> reduce); repeat ((first | (with_reducible refine HaltK.mk ?_) | (with_reducible refine StopK.mk ?_)); (with_reducible conv => whnf); (with_reducible conv => congr <;> reduce))))
      | (with_reducible refine IfK.no (nt (by assumption)) ?_; ((with_reducible conv => whnf); (with_reducible conv => congr <;> reduce); repeat ((first | (with_reducible refine HaltK.mk ?_) | (with_reducible refine StopK.mk ?_)); (with_reducible conv => whnf); (with_reducible conv => congr <;> reduce))))
      | (with_reducible refine IfK.tt ?_; ((with_reducible conv => whnf); (with_reducible conv => congr <;> reduce); repeat ((first | (with_reducible refine HaltK.mk ?_) | (with_reducible refine StopK.mk ?_)); (with_reducible conv => whnf); (with_reducible conv => congr <;> reduce))))
      | (with_reducible refine IfK.ff ?_; ((with_reducible conv => whnf); (with_reducible conv => congr <;> reduce); repeat ((first | (with_reducible refine HaltK.mk ?_) | (with_reducible refine StopK.mk ?_)); (with_reducible conv => whnf); (with_reducible conv => congr <;> reduce))))
      | (refine IfK.mk (fun _ => ?_) (fun _ => ?_) <;> ((with_reducible conv => whnf); (with_reducible conv => congr <;> reduce); repeat ((first | (with_reducible refine HaltK.mk ?_) | (with_reducible refine StopK.mk ?_)); (with_reducible conv => whnf); (with_reducible conv => congr <;> reduce)))))
    | ((with_reducible show CallK _ _ 25 _ _ _ _); refine CallK.lit [] (f25_ok _) c25 ⟨rfl, trivial⟩ rfl rfl ?_; ((with_reducible conv => whnf); (with_reducible conv => congr <;> reduce); repeat ((first | (with_reducible refine HaltK.mk ?_) | (with_reducible refine StopK.mk ?_)); (with_reducible conv => whnf); (with_reducible conv => congr <;> reduce))))
    | ((with_reducible show (_ ∧ _) ∧ _ ∧ _); refine ⟨⟨rfl, rfl⟩, ?_, ?_⟩ <;> (with_reducible conv => whnf) <;> repeat' (first | (with_reducible exact trivial) | (with_reducible refine And.intro ?_ ?_ <;> with_reducible conv => whnf))))
    | true =>
      have hsm := right_small (s := n) (by rw [h2]; rfl)
      have hp := findP_ref h1 h2
      have h40 : l.length ≤ 40 := by
        unfold rightA at h1
        simp only [Bool.and_eq_true, decide_eq_true_eq] at h1
        exact h1.1.1
      have hE : findE l n = 0 := by simp [findE, h1, h2]
      have hlt : ∀ b, decide (posA l (lowS n) < 0) = b → decide (0 ≤ posA l (lowS n)) = !b := by
        intro b hb
        rw [← hb]
        rcases Int.lt_or_le (posA l (lowS n)) 0 with h | h
        · rw [decide_eq_true h, decide_eq_false (show ¬ 0 ≤ posA l (lowS n) by omega)]; rfl
        · rw [decide_eq_false (show ¬ posA l (lowS n) < 0 by omega), decide_eq_true h]; rfl
      by_cases hv : v.size ≤ 200
      · have b1 : decide ((200 : Int) < (v.size : Int)) = false := decide_eq_false (by omega)
        rcases findP_cases l n with h | ⟨k, a, h, ha, hnm⟩
        · rw [hp] at h
          have b2 : decide (posA l (lowS n) < 0) = true := by rw [h]; rfl
          have b3 := hlt _ b2
          by_cases h4 : l.length = 40
          · have b4 : decide ((40 : Int) ≤ ((l.map oAttr).length : Int)) = true := decide_eq_true (by omega)
            have e : setA l n v = (l, 3) := by simp [setA, hE, hp, h, hv, h4]
            rw [e]
            repeat' (first
    | ((with_reducible show IfK _ _ _ _); first
      | (refine IfK.yes (by assumption) ?_; ((with_reducible conv => whnf); (with_reducible conv => congr <;> reduce); repeat ((first | (with_reducible refine HaltK.mk ?_) | (with_reducible refine StopK.mk ?_)); (with_reducible conv => whnf); (with_reducible conv => congr <;> reduce))))
      | (refine IfK.no (by assumption) ?_; ((with_reducible conv => whnf); (with_reducible conv => congr <;> reduce); repeat ((first | (with_reducible refine HaltK.mk ?_) | (with_reducible refine StopK.mk ?_)); (with_reducible conv => whnf); (with_reducible conv => congr <;> reduce))))
      | (with_reducible refine IfK.yes Bool.not_false ?_; ((with_reducible conv => whnf); (with_reducible conv => congr <;> reduce); repeat ((first | (with_reducible refine HaltK.mk ?_) | (with_reducible refine StopK.mk ?_)); (with_reducible conv => whnf); (with_reducible conv => congr <;> reduce))))
      | (with_reducible refine IfK.no Bool.not_true ?_; ((with_reducible conv => whnf); (with_reducible conv => congr <;> reduce); repeat ((first | (with_reducible refine HaltK.mk ?_) | (with_reducible refine StopK.mk ?_)); (with_reducible conv => whnf); (with_reducible conv => congr <;> reduce))))
      | (with_reducible refine IfK.yes (nf (by assumption)) ?_; ((with_reducible conv => whnf); (with_reducible conv => congr <;> reduce); repeat ((first | (with_reducible refine HaltK.mk ?_) | (with_reducible refine StopK.mk ?_)); (with_reducible conv => whnf); (with_reducible conv => congr <;> reduce))))
      | (with_reducible refine IfK.no (nt (by assumption)) ?_; ((with_reducible conv => whnf); (with_reducible conv => congr <;> reduce); repeat ((first | (with_reducible refine HaltK.mk ?_) | (with_reducible refine StopK.mk ?_)); (with_reducible conv => whnf); (with_reducible conv => congr <;> reduce))))
      | (with_reducible refine IfK.tt ?_; ((with_reducible conv => whnf); (with_reducible conv => congr <;> reduce); repeat ((first | (with_reducible refine HaltK.mk ?_) | (with_reducible refine StopK.mk ?_)); (with_reducible conv => whnf); (with_reducible conv => congr <;> reduce))))
      | (with_reducible refine IfK.ff ?_; ((with_reducible conv => whnf); (with_reducible conv => congr <;> reduce); repeat ((first | (with_reducible refine HaltK.mk ?_) | (with_reducible refine StopK.mk ?_)); (with_reducible conv => whnf); (with_reducible conv => congr <;> reduce))))
      | (refine IfK.mk (fun _ => ?_) (fun _ => ?_) <;> ((with_reducible conv => whnf); (with_reducible conv => congr <;> reduce); repeat ((first | (with_reducible refine HaltK.mk ?_) | (with_reducible refine StopK.mk ?_)); (with_reducible conv => whnf); (with_reducible conv => congr <;> reduce)))))
    | ((with_reducible show CallK _ _ 25 _ _ _ _); refine CallK.lit [] (f25_ok _) c25 ⟨rfl, trivial⟩ rfl rfl ?_; ((with_reducible conv => whnf); (with_reducible conv => congr <;> reduce); repeat ((first | (with_reducible refine HaltK.mk ?_) | (with_reducible refine StopK.mk ?_)); (with_reducible conv => whnf); (with_reducible conv => congr <;> reduce))))
    | ((with_reducible show CallK _ _ 26 _ _ _ _); refine CallK.lit [] (f26_ok _ hsm) c26 ⟨rfl, trivial⟩ rfl rfl ?_; ((with_reducible conv => whnf); (with_reducible conv => congr <;> reduce); repeat ((first | (with_reducible refine HaltK.mk ?_) | (with_reducible refine StopK.mk ?_)); (with_reducible conv => whnf); (with_reducible conv => congr <;> reduce))))
    | ((with_reducible show CallK _ _ 21 _ _ _ _); refine CallK.lit [] (f21_ok l hl _) c21 ⟨rfl, rfl, trivial⟩ rfl rfl ?_; ((with_reducible conv => whnf); (with_reducible conv => congr <;> reduce); repeat ((first | (with_reducible refine HaltK.mk ?_) | (with_reducible refine StopK.mk ?_)); (with_reducible conv => whnf); (with_reducible conv => congr <;> reduce))))
    | ((with_reducible show (_ ∧ _) ∧ _ ∧ _); refine ⟨⟨rfl, rfl⟩, ?_, ?_⟩ <;> (with_reducible conv => whnf) <;> repeat' (first | (with_reducible exact trivial) | (with_reducible refine And.intro ?_ ?_ <;> with_reducible conv => whnf))))
          · have b4 : decide ((40 : Int) ≤ ((l.map oAttr).length : Int)) = false := decide_eq_false (by omega)
            have e : setA l n v = (l ++ [⟨lowS n, v⟩], 0) := by simp [setA, hE, hp, h, hv, h4]
            rw [e]
            repeat' (first
    | ((with_reducible show IfK _ _ _ _); first
      | (refine IfK.yes (by assumption) ?_; ((with_reducible conv => whnf); (with_reducible conv => congr <;> reduce); repeat ((first | (with_reducible refine HaltK.mk ?_) | (with_reducible refine StopK.mk ?_)); (with_reducible conv => whnf); (with_reducible conv => congr <;> reduce))))
      | (refine IfK.no (by assumption) ?_; ((with_reducible conv => whnf); (with_reducible conv => congr <;> reduce); repeat ((first | (with_reducible refine HaltK.mk ?_) | (with_reducible refine StopK.mk ?_)); (with_reducible conv => whnf); (with_reducible conv => congr <;> reduce))))
      | (with_reducible refine IfK.yes Bool.not_false ?_; ((with_reducible conv => whnf); (with_reducible conv => congr <;> reduce); repeat ((first | (with_reducible refine HaltK.mk ?_) | (with_reducible refine StopK.mk ?_)); (with_reducible conv => whnf); (with_reducible conv => congr <;> reduce))))
      | (with_reducible refine IfK.no Bool.not_true ?_; ((with_reducible conv => whnf); (with_reducible conv => congr <;> reduce); repeat ((first | (with_reducible refine HaltK.mk ?_) | (with_reducible refine StopK.mk ?_)); (with_reducible conv => whnf); (with_reducible conv => congr <;> reduce))))
      | (with_reducible refine IfK.yes (nf (by assumption)) ?_; ((with_reducible conv => whnf); (with_reducible conv => congr <;> reduce); repeat ((first | (with_reducible refine HaltK.mk ?_) | (with_reducible refine StopK.mk ?_)); (with_reducible conv => whnf); (with_reducible conv => congr <;> reduce))))
      | (with_reducible refine IfK.no (nt (by assumption)) ?_; ((with_reducible conv => whnf); (with_reducible conv => congr <;> reduce); repeat ((first | (with_reducible refine HaltK.mk ?_) | (with_reducible refine StopK.mk ?_)); (with_reducible conv => whnf); (with_reducible conv => congr <;> reduce))))
      | (with_reducible refine IfK.tt ?_; ((with_reducible conv => whnf); (with_reducible conv => congr <;> reduce); repeat ((first | (with_reducible refine HaltK.mk ?_) | (with_reducible refine StopK.mk ?_)); (with_reducible conv => whnf); (with_reducible conv => congr <;> reduce))))
      | (with_reducible refine IfK.ff ?_; ((with_reducible conv => whnf); (with_reducible conv => congr <;> reduce); repeat ((first | (with_reducible refine HaltK.mk ?_) | (with_reducible refine StopK.mk ?_)); (with_reducible conv => whnf); (with_reducible conv => congr <;> reduce))))
      | (refine IfK.mk (fun _ => ?_) (fun _ => ?_) <;> ((with_reducible conv => whnf); (with_reducible conv => congr <;> reduce); repeat ((first | (with_reducible refine HaltK.mk ?_) | (with_reducible refine StopK.mk ?_)); (with_reducible conv => whnf); (with_reducible conv => congr <;> reduce)))))
    | ((with_reducible show CallK _ _ 25 _ _ _ _); refine CallK.lit [] (f25_ok _) c25 ⟨rfl, trivial⟩ rfl rfl ?_; ((with_reducible conv => whnf); (with_reducible conv => congr <;> reduce); repeat ((first | (with_reducible refine HaltK.mk ?_) | (with_reducible refine StopK.mk ?_)); (with_reducible conv => whnf); (with_reducible conv => congr <;> reduce))))
    | ((with_reducible show CallK _ _ 26 _ _ _ _); refine CallK.lit [] (f26_ok _ hsm) c26 ⟨rfl, trivial⟩ rfl rfl ?_; ((with_reducible conv => whnf); (with_reducible conv => congr <;> reduce); repeat ((first | (with_reducible refine HaltK.mk ?_) | (with_reducible refine StopK.mk ?_)); (with_reducible conv => whnf); (with_reducible conv => congr <;> reduce))))
    | ((with_reducible show CallK _ _ 21 _ _ _ _); refine CallK.lit [] (f21_ok l hl _) c21 ⟨rfl, rfl, trivial⟩ rfl rfl ?_; ((with_reducible conv => whnf); (with_reducible conv => congr <;> reduce); repeat ((first | (with_reducible refine HaltK.mk ?_) | (with_reducible refine StopK.mk ?_)); (with_reducible conv => whnf); (with_reducible conv => congr <;> reduce))))
    | ((with_reducible show AppK _ _ _ _ _ _ _ _ _ _); refine AppK.mk [] (l.map oAttr) ⟨rfl, rfl, rfl⟩ ⟨rfl, rfl, rfl⟩ (one_attrs l) (by simp; omega) (by simp; omega) ?_; ((with_reducible conv => whnf); (with_reducible conv => congr <;> reduce); repeat ((first | (with_reducible refine HaltK.mk ?_) | (with_reducible refine StopK.mk ?_)); (with_reducible conv => whnf); (with_reducible conv => congr <;> reduce))))
    | ((with_reducible show AppK _ _ _ _ _ _ _ _ _ _); refine AppK.mk ([] ++ l.map oAttr) [eAttr ⟨lowS n, v⟩] ⟨rfl, rfl, rfl⟩ ⟨rfl, rfl, rfl⟩ rfl (by simp; omega) (by simp; omega) ?_; ((with_reducible conv => whnf); (with_reducible conv => congr <;> reduce); repeat ((first | (with_reducible refine HaltK.mk ?_) | (with_reducible refine StopK.mk ?_)); (with_reducible conv => whnf); (with_reducible conv => congr <;> reduce))))
    | ((with_reducible show (_ ∧ _) ∧ _ ∧ _); refine ⟨⟨rfl, rfl⟩, ?_, ?_⟩ <;> (with_reducible conv => whnf) <;> repeat' (first | (with_reducible exact trivial) | (with_reducible refine And.intro ?_ ?_ <;> with_reducible conv => whnf))))
            all_goals exact frz_attrs rfl rfl (snoc_attrs l (lowS n) v) (by simp)
        · rw [hp] at h
          have b2 : decide (posA l (lowS n) < 0) = false := by rw [h]; exact decide_eq_false (by omega)
          have b3 := hlt _ b2
          have hk := (List.getElem?_eq_some_iff.1 ha).1
          have e : setA l n v = (l.set k ⟨lowS n, v⟩, 0) := by simp [setA, hE, hp, h, hv]
          rw [e]
          obtain ⟨an, av⟩ := a
          simp only at hnm
          subst hnm
          repeat' (first
    | ((with_reducible show IfK _ _ _ _); first
      | (refine IfK.yes (by assumption) ?_; ((with_reducible conv => whnf); (with_reducible conv => congr <;> reduce); repeat ((first | (with_reducible refine HaltK.mk ?_) | (with_reducible refine StopK.mk ?_)); (with_reducible conv => whnf); (with_reducible conv => congr <;> reduce))))
      | (refine IfK.no (by assumption) ?_; ((with_reducible conv => whnf); (with_reducible conv => congr <;> reduce); repeat ((first | (with_reducible refine HaltK.mk ?_) | (with_reducible refine StopK.mk ?_)); (with_reducible conv => whnf); (with_reducible conv => congr <;> reduce))))
      | (with_reducible refine IfK.yes Bool.not_false ?_; ((with_reducible conv => whnf); (with_reducible conv => congr <;> reduce); repeat ((first | (with_reducible refine HaltK.mk ?_) | (with_reducible refine StopK.mk ?_)); (with_reducible conv => whnf); (with_reducible conv => congr <;> reduce))))
      | (with_reducible refine IfK.no Bool.not_true ?_; ((with_reducible conv => whnf); (with_reducible conv => congr <;> reduce); repeat ((first | (with_reducible refine HaltK.mk ?_) | (with_reducible refine StopK.mk ?_)); (with_reducible conv => whnf); (with_reducible conv => congr <;> reduce))))
      | (with_reducible refine IfK.yes (nf (by assumption)) ?_; ((with_reducible conv => whnf); (with_reducible conv => congr <;> reduce); repeat ((first | (with_reducible refine HaltK.mk ?_) | (with_reducible refine StopK.mk ?_)); (with_reducible conv => whnf); (with_reducible conv => congr <;> reduce))))
      | (with_reducible refine IfK.no (nt (by assumption)) ?_; ((with_reducible conv => whnf); (with_reducible conv => congr <;> reduce); repeat ((first | (with_reducible refine HaltK.mk ?_) | (with_reducible refine StopK.mk ?_)); (with_reducible conv => whnf); (with_reducible conv => congr <;> reduce))))
      | (with_reducible refine IfK.tt ?_; ((with_reducible conv => whnf); (with_reducible conv => congr <;> reduce); repeat ((first | (with_reducible refine HaltK.mk ?_) | (with_reducible refine StopK.mk ?_)); (with_reducible conv => whnf); (with_reducible conv => congr <;> reduce))))
      | (with_reducible refine IfK.ff ?_; ((with_reducible conv => whnf); (with_reducible conv => congr <;> reduce); repeat ((first | (with_reducible refine HaltK.mk ?_) | (with_reducible refine StopK.mk ?_)); (with_reducible conv => whnf); (with_reducible conv => congr <;> reduce))))
      | (refine IfK.mk (fun _ => ?_) (fun _ => ?_) <;> ((with_reducible conv => whnf); (with_reducible conv => congr <;> reduce); repeat ((first | (with_reducible refine HaltK.mk ?_) | (with_reducible refine StopK.mk ?_)); (with_reducible conv => whnf); (with_reducible conv => congr <;> reduce)))))
    | ((with_reducible show CallK _ _ 25 _ _ _ _); refine CallK.lit [] (f25_ok _) c25 ⟨rfl, trivial⟩ rfl rfl ?_; ((with_reducible conv => whnf); (with_reducible conv => congr <;> reduce); repeat ((first | (with_reducible refine HaltK.mk ?_) | (with_reducible refine StopK.mk ?_)); (with_reducible conv => whnf); (with_reducible conv => congr <;> reduce))))
    | ((with_reducible show CallK _ _ 26 _ _ _ _); refine CallK.lit [] (f26_ok _ hsm) c26 ⟨rfl, trivial⟩ rfl rfl ?_; ((with_reducible conv => whnf); (with_reducible conv => congr <;> reduce); repeat ((first | (with_reducible refine HaltK.mk ?_) | (with_reducible refine StopK.mk ?_)); (with_reducible conv => whnf); (with_reducible conv => congr <;> reduce))))
    | ((with_reducible show CallK _ _ 21 _ _ _ _); refine CallK.lit [] (f21_ok l hl _) c21 ⟨rfl, rfl, trivial⟩ rfl rfl ?_; ((with_reducible conv => whnf); (with_reducible conv => congr <;> reduce); repeat ((first | (with_reducible refine HaltK.mk ?_) | (with_reducible refine StopK.mk ?_)); (with_reducible conv => whnf); (with_reducible conv => congr <;> reduce))))
    | ((with_reducible show AppK _ _ _ _ _ _ _ _ _ _); refine AppK.mk [] (l.map oAttr) ⟨rfl, rfl, rfl⟩ ⟨rfl, rfl, rfl⟩ (one_attrs l) (by simp; omega) (by simp; omega) ?_; ((with_reducible conv => whnf); (with_reducible conv => congr <;> reduce); repeat ((first | (with_reducible refine HaltK.mk ?_) | (with_reducible refine StopK.mk ?_)); (with_reducible conv => whnf); (with_reducible conv => congr <;> reduce))))
    | ((with_reducible show LtK _ _ _ _ _); refine LtK.mk k h (by simp; omega) ?_; ((with_reducible conv => whnf); (with_reducible conv => congr <;> reduce); repeat ((first | (with_reducible refine HaltK.mk ?_) | (with_reducible refine StopK.mk ?_)); (with_reducible conv => whnf); (with_reducible conv => congr <;> reduce))))
    | ((with_reducible show ElemK _ _ _ _ _); refine ElemK.mk (eAttr ⟨lowS n, av⟩) (by rw [Nat.zero_add]; exact attr_get ha) ?_; ((with_reducible conv => whnf); (with_reducible conv => congr <;> reduce); repeat ((first | (with_reducible refine HaltK.mk ?_) | (with_reducible refine StopK.mk ?_)); (with_reducible conv => whnf); (with_reducible conv => congr <;> reduce))))
    | ((with_reducible show (_ ∧ _) ∧ _ ∧ _); refine ⟨⟨rfl, rfl⟩, ?_, ?_⟩ <;> (with_reducible conv => whnf) <;> repeat' (first | (with_reducible exact trivial) | (with_reducible refine And.intro ?_ ?_ <;> with_reducible conv => whnf))))
          all_goals exact frz_attrs rfl rfl (by rw [Nat.zero_add]; exact set_attrs l k _ v) (by simp)
      · have b1 : decide ((200 : Int) < (v.size : Int)) = true := decide_eq_true (by omega)
        have e : setA l n v = (l, 3) := by simp [setA, hE, hv]
        rw [e]
        repeat' (first
    | ((with_reducible show IfK _ _ _ _); first
      | (refine IfK.yes (by assumption) ?_; ((with_reducible conv => whnf); (with_reducible conv => congr <;> reduce); repeat ((first | (with_reducible refine HaltK.mk ?_) | (with_reducible refine StopK.mk ?_)); (with_reducible conv => whnf); (with_reducible conv => congr <;> reduce))))
      | (refine IfK.no (by assumption) ?_; ((with_reducible conv => whnf); (with_reducible conv => congr <;> reduce); repeat ((first | (with_reducible refine HaltK.mk ?_) | (with_reducible refine StopK.mk ?_)); (with_reducible conv => whnf); (with_reducible conv => congr <;> reduce))))
      | (with_reducible refine IfK.yes Bool.not_false ?_; ((with_reducible conv => whnf); (with_reducible conv => congr <;> reduce); repeat ((first | (with_reducible refine HaltK.mk ?_) | (with_reducible refine StopK.mk ?_)); (with_reducible conv => whnf); (with_reducible conv => congr <;> reduce))))
      | (with_reducible refine IfK.no Bool.not_true ?_; ((with_reducible conv => whnf); (with_reducible conv => congr <;> reduce); repeat ((first | (with_reducible refine HaltK.mk ?_) | (with_reducible refine StopK.mk ?_)); (with_reducible conv => whnf); (with_reducible conv => congr <;> reduce))))
      | (with_reducible refine IfK.yes (nf (by assumption)) ?_; ((with_reducible conv => whnf); (with_reducible conv => congr <;> reduce); repeat ((first | (with_reducible refine HaltK.mk ?_) | (with_reducible refine StopK.mk ?_)); (with_reducible conv => whnf); (with_reducible conv => congr <;> reduce))))
      | (with_reducible refine IfK.no (nt (by assumption)) ?_; ((with_reducible conv => whnf); (with_reducible conv => congr <;> reduce); repeat ((first | (with_reducible refine HaltK.mk ?_) | (with_reducible refine StopK.mk ?_)); (with_reducible conv => whnf); (with_reducible conv => congr <;> reduce))))
      | (with_reducible refine IfK.tt ?_; ((with_reducible conv => whnf); (with_reducible conv => congr <;> reduce); repeat ((first | (with_reducible refine HaltK.mk ?_) | (with_reducible refine StopK.mk ?_)); (with_reducible conv => whnf); (with_reducible conv => congr <;> reduce))))
      | (with_reducible refine IfK.ff ?_; ((with_reducible conv => whnf); (with_reducible conv => congr <;> reduce); repeat ((first | (with_reducible refine HaltK.mk ?_) | (with_reducible refine StopK.mk ?_)); (with_reducible conv => whnf); (with_reducible conv => congr <;> reduce))))
      | (refine IfK.mk (fun _ => ?_) (fun _ => ?_) <;> ((with_reducible conv => whnf); (with_reducible conv => congr <;> reduce); repeat ((first | (with_reducible refine HaltK.mk ?_) | (with_reducible refine StopK.mk ?_)); (with_reducible conv => whnf); (with_reducible conv => congr <;> reduce)))))
    | ((with_reducible show CallK _ _ 25 _ _ _ _); refine CallK.lit [] (f25_ok _) c25 ⟨rfl, trivial⟩ rfl rfl ?_; ((with_reducible conv => whnf); (with_reducible conv => congr <;> reduce); repeat ((first | (with_reducible refine HaltK.mk ?_) | (with_reducible refine StopK.mk ?_)); (with_reducible conv => whnf); (with_reducible conv => congr <;> reduce))))
    | ((with_reducible show CallK _ _ 26 _ _ _ _); refine CallK.lit [] (f26_ok _ hsm) c26 ⟨rfl, trivial⟩ rfl rfl ?_; ((with_reducible conv => whnf); (with_reducible conv => congr <;> reduce); repeat ((first | (with_reducible refine HaltK.mk ?_) | (with_reducible refine StopK.mk ?_)); (with_reducible conv => whnf); (with_reducible conv => congr <;> reduce))))
    | ((with_reducible show CallK _ _ 21 _ _ _ _); refine CallK.lit [] (f21_ok l hl _) c21 ⟨rfl, rfl, trivial⟩ rfl rfl ?_; ((with_reducible conv => whnf); (with_reducible conv => congr <;> reduce); repeat ((first | (with_reducible refine HaltK.mk ?_) | (with_reducible refine StopK.mk ?_)); (with_reducible conv => whnf); (with_reducible conv => congr <;> reduce))))
    | ((with_reducible show (_ ∧ _) ∧ _ ∧ _); refine ⟨⟨rfl, rfl⟩, ?_, ?_⟩ <;> (with_reducible conv => whnf) <;> repeat' (first | (with_reducible exact trivial) | (with_reducible refine And.intro ?_ ?_ <;> with_reducible conv => whnf))))
end Go.Proofs.Attr
end
section
namespace Go.Proofs.Attr
open Go.Am Go.RowKit Go.Lib
set_option maxRecDepth 100000
def restA (l : List AttrM) (n : ByteArray) : List AttrM := l.filter (fun a => !hasName n a)
theorem restA_snoc {l : List AttrM} {n : ByteArray} {k : Nat} {a : AttrM} (h : l[k]? = some a) : restA (l.take (k + 1)) n = if hasName n a = true then restA (l.take k) n else restA (l.take k) n ++ [a] := by
  have hk := (List.getElem?_eq_some_iff.1 h).1
  rw [List.take_succ_eq_append_getElem hk, (List.getElem?_eq_some_iff.1 h).2]
  unfold restA
  rw [List.filter_append]
  cases hh : hasName n a <;> simp [hh]
theorem restA_len (l : List AttrM) (n : ByteArray) (k : Nat) : (restA (l.take k) n).length ≤ k := by
  unfold restA
  refine Nat.le_trans (List.length_filter_le ..) ?_
  simp; omega
/-- ref.Remove -/
theorem f15_ok (l : List AttrM) (hl : l.length ≤ 100000) (n : ByteArray) : FnOK Try.prog 15 [] [eAttrs l, eStr n] [] (.tup [eAttrs (if 0 ≤ findP l n then restA l (lowS n) else l), eBool (decide (0 ≤ findP l n))]) := by
  have hlm : (l.map oAttr).length = l.length := List.length_map ..
  refine FnOK.startC (rvs := [.tmp 4, .tmp 5]) G G_good Try.func15 rfl Try.ntmps15 rfl rfl ?_; delta List.toArray; ((with_reducible conv => whnf); (with_reducible conv => congr <;> reduce); repeat ((first | (with_reducible refine HaltK.mk ?_) | (with_reducible refine StopK.mk ?_)); (with_reducible conv => whnf); (with_reducible conv => congr <;> reduce)))
  refine CallK.lit [] (f11_ok l hl n) c11 ⟨rfl, rfl, trivial⟩ rfl rfl ?_; ((with_reducible conv => whnf); (with_reducible conv => congr <;> reduce); repeat ((first | (with_reducible refine HaltK.mk ?_) | (with_reducible refine StopK.mk ?_)); (with_reducible conv => whnf); (with_reducible conv => congr <;> reduce)))
  refine IfK.mk (fun h0 => ?_) (fun h0 => ?_) <;> (try simp only [castN] at h0) <;> ((with_reducible conv => whnf); (with_reducible conv => congr <;> reduce); repeat ((first | (with_reducible refine HaltK.mk ?_) | (with_reducible refine StopK.mk ?_)); (with_reducible conv => whnf); (with_reducible conv => congr <;> reduce)))
  · have h : ¬ 0 ≤ findP l n := by simpa using h0
    rw [if_neg h]
    refine ⟨⟨rfl, rfl⟩, ?_, ?_⟩ <;> (with_reducible conv => whnf) <;> repeat' (first | (with_reducible exact trivial) | (with_reducible refine And.intro ?_ ?_ <;> with_reducible conv => whnf))
    exact decide_eq_false h
  · have h : 0 ≤ findP l n := by simpa using h0
    rw [if_pos h]
    have hsm : n.size ≤ 100000 := right_small (s := n) (by have := (findE_zero (findE_pos h).1).2.1; rw [this]; rfl)
    refine LoopK.ghost 8 81 2 rfl rfl ?_
    refine LoopK.use G G_good (fun (k : Nat) => [(0, eAttrs l), (1, eStr n), (8, .own 81 0 (restA (l.take k) (lowS n)).length), (9, eInt k)]) (fun k => [(81, rAttrs (restA (l.take k) (lowS n)))]) (fun k => k ≤ l.length) (fun k => l.length - k) 0 (Nat.zero_le _)
      ⟨⟨rfl, rfl⟩, ⟨rfl, rfl, ⟨rfl, rfl⟩, rfl, trivial⟩, ⟨.refl rfl, rfl⟩, trivial⟩ ?_
    intro k hk
    ((with_reducible conv => whnf); (with_reducible conv => congr <;> reduce); repeat ((first | (with_reducible refine HaltK.mk ?_) | (with_reducible refine StopK.mk ?_)); (with_reducible conv => whnf); (with_reducible conv => congr <;> reduce)))
    refine IfK.mk (fun h1 => ?_) (fun h1 => ?_) <;> (try simp only [castN] at h1) <;> ((with_reducible conv => whnf); (with_reducible conv => congr <;> reduce); repeat ((first | (with_reducible refine HaltK.mk ?_) | (with_reducible refine StopK.mk ?_)); (with_reducible conv => whnf); (with_reducible conv => congr <;> reduce)))
    · simp only [decide_eq_true_eq] at h1
      have hk' : k < l.length := by omega
      obtain ⟨⟨an, av⟩, ha⟩ : ∃ a, l[k]? = some a := ⟨_, List.getElem?_eq_getElem hk'⟩
      have hln := restA_len l (lowS n) k
      have hs := restA_snoc (n := lowS n) ha
      refine IdxK.mk k (eAttr ⟨an, av⟩) rfl (attr_get ha) ?_; ((with_reducible conv => whnf); (with_reducible conv => congr <;> reduce); repeat ((first | (with_reducible refine HaltK.mk ?_) | (with_reducible refine StopK.mk ?_)); (with_reducible conv => whnf); (with_reducible conv => congr <;> reduce)))
      refine CallK.lit [] (f26_ok _ hsm) c26 ⟨rfl, trivial⟩ rfl rfl ?_; ((with_reducible conv => whnf); (with_reducible conv => congr <;> reduce); repeat ((first | (with_reducible refine HaltK.mk ?_) | (with_reducible refine StopK.mk ?_)); (with_reducible conv => whnf); (with_reducible conv => congr <;> reduce)))
      refine DrawK.mk (by kernel_rfl) (by kernel_rfl) (by kernel_rfl) ?_; ((with_reducible conv => whnf); (with_reducible conv => congr <;> reduce); repeat ((first | (with_reducible refine HaltK.mk ?_) | (with_reducible refine StopK.mk ?_)); (with_reducible conv => whnf); (with_reducible conv => congr <;> reduce)))
      have hrl : ((restA (l.take k) (lowS n)).map oAttr).length = (restA (l.take k) (lowS n)).length := List.length_map ..
      refine IfK.mk (fun h2 => ?_) (fun h2 => ?_) <;> (try simp only [castN] at h2) <;> ((with_reducible conv => whnf); (with_reducible conv => congr <;> reduce); repeat ((first | (with_reducible refine HaltK.mk ?_) | (with_reducible refine StopK.mk ?_)); (with_reducible conv => whnf); (with_reducible conv => congr <;> reduce)))
      · have hn : hasName (lowS n) ⟨an, av⟩ = false := by unfold hasName; simpa using h2
        rw [hn, if_neg (by decide)] at hs
        refine IdxK.mk k (eAttr ⟨an, av⟩) rfl (attr_get ha) ?_; ((with_reducible conv => whnf); (with_reducible conv => congr <;> reduce); repeat ((first | (with_reducible refine HaltK.mk ?_) | (with_reducible refine StopK.mk ?_)); (with_reducible conv => whnf); (with_reducible conv => congr <;> reduce)))
        refine AppK.mk ((restA (l.take k) (lowS n)).map oAttr) [eAttr ⟨an, av⟩] ⟨rfl, hrl.symm, rfl⟩ ⟨rfl, rfl, rfl⟩ rfl (by simp; omega) (by simp; omega) ?_; ((with_reducible conv => whnf); (with_reducible conv => congr <;> reduce); repeat ((first | (with_reducible refine HaltK.mk ?_) | (with_reducible refine StopK.mk ?_)); (with_reducible conv => whnf); (with_reducible conv => congr <;> reduce)))
        refine NeedK.mk (by (try simp only [castN]); omega) ?_; ((with_reducible conv => whnf); (with_reducible conv => congr <;> reduce); repeat ((first | (with_reducible refine HaltK.mk ?_) | (with_reducible refine StopK.mk ?_)); (with_reducible conv => whnf); (with_reducible conv => congr <;> reduce)))
        refine NextK.mk (k + 1) (by omega) (by omega) ⟨⟨rfl, rfl⟩, ⟨rfl, rfl, ⟨rfl, ?_⟩, by show ((k + 1 : Nat) : Int) = (k : Int) + 1; omega, trivial⟩, ⟨?_, noRef_attrs _⟩, trivial⟩
        · rw [hs]; simp
        · rw [hs, ← snoc_attrs]; exact .refl (by rw [snoc_attrs]; exact noRef_attrs _)
      · have hn : hasName (lowS n) ⟨an, av⟩ = true := by unfold hasName; simpa using h2
        rw [hn, if_pos rfl] at hs
        refine NeedK.mk (by (try simp only [castN]); omega) ?_; ((with_reducible conv => whnf); (with_reducible conv => congr <;> reduce); repeat ((first | (with_reducible refine HaltK.mk ?_) | (with_reducible refine StopK.mk ?_)); (with_reducible conv => whnf); (with_reducible conv => congr <;> reduce)))
        refine NextK.mk (k + 1) (by omega) (by omega) ⟨⟨rfl, rfl⟩, ⟨rfl, rfl, ⟨rfl, ?_⟩, by show ((k + 1 : Nat) : Int) = (k : Int) + 1; omega, trivial⟩, ⟨?_, noRef_attrs _⟩, trivial⟩
        · rw [hs]
        · rw [hs]; exact .refl (noRef_attrs _)
    · refine ⟨⟨rfl, rfl⟩, ?_, ?_⟩ <;> (with_reducible conv => whnf) <;> repeat' (first | (with_reducible exact trivial) | (with_reducible refine And.intro ?_ ?_ <;> with_reducible conv => whnf))
      · have hkl : k = l.length := by simp only [hlm, decide_eq_false_iff_not] at h1; omega
        subst hkl
        rw [List.take_length]
        exact frz_attrs rfl rfl rfl rfl
      · exact decide_eq_true h
end Go.Proofs.Attr
end
section
namespace Go.Proofs.Attr
open Go.Am Go.RowKit Go.Lib
set_option maxRecDepth 100000
theorem filter_cut {l : List AttrM} {n : ByteArray} {k : Nat} {a : AttrM} (hn : (l.map AttrM.name).Nodup) (ha : l[k]? = some a) (hk : a.name = n) : restA l n = cutA l k := by
  unfold restA cutA
  have hlt := (List.getElem?_eq_some_iff.1 ha).1
  have hget := (List.getElem?_eq_some_iff.1 ha).2
  have hsplit : l = l.take k ++ a :: l.drop (k + 1) := by
    rw [← hget, List.getElem_cons_drop, List.take_append_drop]
  have hne : ∀ x, x ∈ l.take k ++ l.drop (k + 1) → hasName n x = false := by
    intro x hx
    rw [hsplit] at hn
    simp only [List.map_append, List.map_cons] at hn
    obtain ⟨_, h2, h3⟩ := List.nodup_append.1 hn
    rw [List.nodup_cons] at h2
    simp only [hasName, decide_eq_false_iff_not]
    intro e
    rcases List.mem_append.1 hx with hx | hx
    · exact h3 x.name (List.mem_map.2 ⟨x, hx, rfl⟩) a.name (by simp) (by rw [e, hk])
    · exact h2.1 (List.mem_map.2 ⟨x, hx, by rw [e, hk]⟩)
  have key : (l.take k ++ a :: l.drop (k + 1)).filter (fun x => !hasName n x) = l.take k ++ l.drop (k + 1) := by
    rw [List.filter_append, List.filter_cons]
    have h1 : hasName n a = true := by simp [hasName, hk]
    rw [h1]
    simp only [Bool.not_true, Bool.false_eq_true, if_false]
    rw [List.filter_eq_self.2 (fun x hx => by rw [hne x (List.mem_append_left _ hx)]; rfl), List.filter_eq_self.2 (fun x hx => by rw [hne x (List.mem_append_right _ hx)]; rfl)]
  rw [← hsplit] at key
  exact key
theorem rest_remove (l : List AttrM) (n : ByteArray) : (if 0 ≤ findP l n then restA l (lowS n) else l) = (removeA l n).1 := by
  unfold removeA
  rcases findP_cases l n with h | ⟨k, a, h, ha, hn⟩
  · rw [h]; rfl
  · rw [h, if_pos (by omega), if_pos (by omega), Int.toNat_natCast]
    have hr := (findE_zero (findE_pos (l := l) (n := n) (by omega)).1).1
    unfold rightA at hr
    simp only [Bool.and_eq_true, decide_eq_true_eq] at hr
    exact filter_cut hr.2 ha hn
end Go.Proofs.Attr
end
section
namespace Go.Proofs.Attr
open Go.Am Go.RowKit Go.Lib
set_option maxRecDepth 100000
theorem f15_ok' (l : List AttrM) (hl : l.length ≤ 100000) (n : ByteArray) : FnOK Try.prog 15 [] [eAttrs l, eStr n] [] (.tup [eAttrs (removeA l n).1, eBool (decide (0 ≤ findP l n))]) := by
  rw [← rest_remove]; exact f15_ok l hl n
/-- ref.Toggle -/
theorem f17_ok (l : List AttrM) (hl : l.length ≤ 100000) (n : ByteArray) (f : Int) : FnOK Try.prog 17 [] [eAttrs l, eStr n, eInt f] [] (.tup [eAttrs (toggleA l n f).1, eBool (toggleA l n f).2.1, eInt (toggleA l n f).2.2]) := by
  refine FnOK.startC (rvs := [.tmp 6, .tmp 7, .tmp 8]) G G_good Try.func17 rfl Try.ntmps17 rfl rfl ?_; delta List.toArray; ((with_reducible conv => whnf); (with_reducible conv => congr <;> reduce); repeat ((first | (with_reducible refine HaltK.mk ?_) | (with_reducible refine StopK.mk ?_)); (with_reducible conv => whnf); (with_reducible conv => congr <;> reduce)))
  refine CallK.lit [] (f19_ok l hl) c19 ⟨rfl, trivial⟩ rfl rfl ?_; ((with_reducible conv => whnf); (with_reducible conv => congr <;> reduce); repeat ((first | (with_reducible refine HaltK.mk ?_) | (with_reducible refine StopK.mk ?_)); (with_reducible conv => whnf); (with_reducible conv => congr <;> reduce)))
  cases h1 : rightA l with
  | false =>
    have e : toggleA l n f = (l, false, 1) := by simp [toggleA, findE, h1]
    rw [e]
    repeat' (first
    | ((with_reducible show IfK _ _ _ _); first
      | (refine IfK.yes (by assumption) ?_; ((with_reducible conv => whnf); (with_reducible conv => congr <;> reduce); repeat ((first | (with_reducible refine HaltK.mk ?_) | (with_reducible refine StopK.mk ?_)); (with_reducible conv => whnf); (with_reducible conv => congr <;> reduce))))
      | (refine IfK.no (by assumption) ?_; ((with_reducible conv => whnf); (with_reducible conv => congr <;> reduce); repeat ((first | (with_reducible refine HaltK.mk ?_) | (with_reducible refine StopK.mk ?_)); (with_reducible conv => whnf); (with_reducible conv => congr <;> reduce))))
      | (with_reducible refine IfK.yes Bool.not_false ?_; ((with_reducible conv => whnf); (with_reducible conv => congr <;> reduce); repeat ((first | (with_reducible refine HaltK.mk ?_) | (with_reducible refine StopK.mk ?_)); (with_reducible conv => whnf); (with_reducible conv => congr <;> reduce))))
      | (with_reducible refine IfK.no Bool.not_true ?_; ((with_reducible conv => whnf); (with_reducible conv => congr <;> reduce); repeat ((first | (with_reducible refine HaltK.mk ?_) | (with_reducible refine StopK.mk ?_)); (with_reducible conv => whnf); (with_reducible conv => congr <;> reduce))))
      | (with_reducible refine IfK.yes (nf (by assumption)) ?_; ((with_reducible conv => whnf); (with_reducible conv => congr <;> reduce); repeat ((first | (with_reducible refine HaltK.mk ?_) | (with_reducible refine StopK.mk ?_)); (with_reducible conv => whnf); (with_reducible conv => congr <;> reduce))))
      | (with_reducible refine IfK.no (nt (by assumption)) ?_; ((with_reducible conv => whnf); (with_reducible conv => congr <;> reduce); repeat ((first | (with_reducible refine HaltK.mk ?_) | (with_reducible refine StopK.mk ?_)); (with_reducible conv => whnf); (with_reducible conv => congr <;> reduce))))
      | (with_reducible refine IfK.tt ?_; ((with_reducible conv => whnf); (with_reducible conv => congr <;> reduce); repeat ((first | (with_reducible refine HaltK.mk ?_) | (with_reducible refine StopK.mk ?_)); (with_reducible conv => whnf); (with_reducible conv => congr <;> reduce))))
      | (with_reducible refine IfK.ff ?_; ((with_reducible conv => whnf); (with_reducible conv => congr <;> reduce); repeat ((first | (with_reducible refine HaltK.mk ?_) | (with_reducible refine StopK.mk ?_)); (with_reducible conv => whnf); (with_reducible conv => congr <;> reduce))))
      | (refine IfK.mk (fun _ => ?_) (fun _ => ?_) <;> ((with_reducible conv => whnf); (with_reducible conv => congr <;> reduce); repeat ((first | (with_reducible refine HaltK.mk ?_) | (with_reducible refine StopK.mk ?_)); (with_reducible conv => whnf); (with_reducible conv => congr <;> reduce)))))
    | ((with_reducible show (_ ∧ _) ∧ _ ∧ _); refine ⟨⟨rfl, rfl⟩, ?_, ?_⟩ <;> (with_reducible conv => whnf) <;> repeat' (first | (with_reducible exact trivial) | (with_reducible refine And.intro ?_ ?_ <;> with_reducible conv => whnf))))
  | true =>
    cases h2 : rightS n with
    | false =>
      have e : toggleA l n f = (l, false, 4) := by simp [toggleA, findE, h1, h2]
      rw [e]
      repeat' (first
    | ((with_reducible show IfK _ _ _ _); first
      | (refine IfK.yes (by assumption) ?_; ((with_reducible conv => whnf); (with_reducible conv => congr <;> reduce); repeat ((first | (with_reducible refine HaltK.mk ?_) | (with_reducible refine StopK.mk ?_)); (with_reducible conv => whnf); (with_reducible conv => congr <;> reduce))))
      | (refine IfK.no (by assumption) ?_; ((with_reducible conv => whnf); (with_reducible conv => congr <;> reduce); repeat ((first | (with_reducible refine HaltK.mk ?_) | (with_reducible refine StopK.mk ?_)); (with_reducible conv => whnf); (with_reducible conv => congr <;> reduce))))
      | (with_reducible refine IfK.yes Bool.not_false ?_; ((with_reducible conv => whnf); (with_reducible conv => congr <;> reduce); repeat ((first | (with_reducible refine HaltK.mk ?_) | (with_reducible refine StopK.mk ?_)); (with_reducible conv => whnf); (with_reducible conv => congr <;> reduce))))
      | (with_reducible refine IfK.no Bool.not_true ?_; ((with_reducible conv => whnf); (with_reducible conv => congr <;> reduce); repeat ((first | (with_reducible refine HaltK.mk ?_) | (with_reducible refine StopK.mk ?_)); (with_reducible conv => whnf); (with_reducible conv => congr <;> reduce))))
      | (with_reducible refine IfK.yes (nf (by assumption)) ?_; ((with_reducible conv => whnf); (with_reducible conv => congr <;> reduce); repeat ((first | (with_reducible refine HaltK.mk ?_) | (with_reducible refine StopK.mk ?_)); (with_reducible conv => whnf); (with_reducible conv => congr <;> reduce))))
      | (with_reducible refine IfK.no (nt (by assumption)) ?_; ((with_reducible conv => whnf); (with_reducible conv => congr <;> reduce); repeat ((first | (with_reducible refine HaltK.mk ?_) | (with_reducible refine StopK.mk ?_)); (with_reducible conv => whnf); (with_reducible conv => congr <;> reduce))))
      | (with_reducible refine IfK.tt ?_; ((with_reducible conv => whnf); (with_reducible conv => congr <;> reduce); repeat ((first | (with_reducible refine HaltK.mk ?_) | (with_reducible refine StopK.mk ?_)); (with_reducible conv => whnf); (with_reducible conv => congr <;> reduce))))
      | (with_reducible refine IfK.ff ?_; ((with_reducible conv => whnf); (with_reducible conv => congr <;> reduce); repeat ((first | (with_reducible refine HaltK.mk ?_) | (with_reducible refine StopK.mk ?_)); (with_reducible conv => whnf); (with_reducible conv => congr <;> reduce))))
      | (refine IfK.mk (fun _ => ?_) (fun _ => ?_) <;> ((with_reducible conv => whnf); (with_reducible conv => congr <;> reduce); repeat ((first | (with_reducible refine HaltK.mk ?_) | (with_reducible refine StopK.mk ?_)); (with_reducible conv => whnf); (with_reducible conv => congr <;> reduce)))))
    | ((with_reducible show CallK _ _ 25 _ _ _ _); refine CallK.lit [] (f25_ok _) c25 ⟨rfl, trivial⟩ rfl rfl ?_; ((with_reducible conv => whnf); (with_reducible conv => congr <;> reduce); repeat ((first | (with_reducible refine HaltK.mk ?_) | (with_reducible refine StopK.mk ?_)); (with_reducible conv => whnf); (with_reducible conv => congr <;> reduce))))
    | ((with_reducible show (_ ∧ _) ∧ _ ∧ _); refine ⟨⟨rfl, rfl⟩, ?_, ?_⟩ <;> (with_reducible conv => whnf) <;> repeat' (first | (with_reducible exact trivial) | (with_reducible refine And.intro ?_ ?_ <;> with_reducible conv => whnf))))
    | true =>
      have hE : findE l n = 0 := by simp [findE, h1, h2]
      by_cases hP : 0 ≤ findP l n
      · have p1 : decide (0 ≤ findP l n) = true := decide_eq_true hP
        by_cases hf : 0 < f
        · have q1 : decide (0 < f) = true := decide_eq_true hf
          have e : toggleA l n f = (l, decide (0 ≤ findP l n), 0) := by simp [toggleA, hE, wantA, hf, hP]
          rw [e]
          repeat' (first
    | ((with_reducible show IfK _ _ _ _); first
      | (refine IfK.yes (by assumption) ?_; ((with_reducible conv => whnf); (with_reducible conv => congr <;> reduce); repeat ((first | (with_reducible refine HaltK.mk ?_) | (with_reducible refine StopK.mk ?_)); (with_reducible conv => whnf); (with_reducible conv => congr <;> reduce))))
      | (refine IfK.no (by assumption) ?_; ((with_reducible conv => whnf); (with_reducible conv => congr <;> reduce); repeat ((first | (with_reducible refine HaltK.mk ?_) | (with_reducible refine StopK.mk ?_)); (with_reducible conv => whnf); (with_reducible conv => congr <;> reduce))))
      | (with_reducible refine IfK.yes Bool.not_false ?_; ((with_reducible conv => whnf); (with_reducible conv => congr <;> reduce); repeat ((first | (with_reducible refine HaltK.mk ?_) | (with_reducible refine StopK.mk ?_)); (with_reducible conv => whnf); (with_reducible conv => congr <;> reduce))))
      | (with_reducible refine IfK.no Bool.not_true ?_; ((with_reducible conv => whnf); (with_reducible conv => congr <;> reduce); repeat ((first | (with_reducible refine HaltK.mk ?_) | (with_reducible refine StopK.mk ?_)); (with_reducible conv => whnf); (with_reducible conv => congr <;> reduce))))
      | (with_reducible refine IfK.yes (nf (by assumption)) ?_; ((with_reducible conv => whnf); (with_reducible conv => congr <;> reduce); repeat ((first | (with_reducible refine HaltK.mk ?_) | (with_reducible refine StopK.mk ?_)); (with_reducible conv => whnf); (with_reducible conv => congr <;> reduce))))
      | (with_reducible refine IfK.no (nt (by assumption)) ?_; ((with_reducible conv => whnf); (with_reducible conv => congr <;> reduce); repeat ((first | (with_reducible refine HaltK.mk ?_) | (with_reducible refine StopK.mk ?_)); (with_reducible conv => whnf); (with_reducible conv => congr <;> reduce))))
      | (with_reducible refine IfK.tt ?_; ((with_reducible conv => whnf); (with_reducible conv => congr <;> reduce); repeat ((first | (with_reducible refine HaltK.mk ?_) | (with_reducible refine StopK.mk ?_)); (with_reducible conv => whnf); (with_reducible conv => congr <;> reduce))))
      | (with_reducible refine IfK.ff ?_; ((with_reducible conv => whnf); (with_reducible conv => congr <;> reduce); repeat ((first | (with_reducible refine HaltK.mk ?_) | (with_reducible refine StopK.mk ?_)); (with_reducible conv => whnf); (with_reducible conv => congr <;> reduce))))
      | (refine IfK.mk (fun _ => ?_) (fun _ => ?_) <;> ((with_reducible conv => whnf); (with_reducible conv => congr <;> reduce); repeat ((first | (with_reducible refine HaltK.mk ?_) | (with_reducible refine StopK.mk ?_)); (with_reducible conv => whnf); (with_reducible conv => congr <;> reduce)))))
    | ((with_reducible show CallK _ _ 25 _ _ _ _); refine CallK.lit [] (f25_ok _) c25 ⟨rfl, trivial⟩ rfl rfl ?_; ((with_reducible conv => whnf); (with_reducible conv => congr <;> reduce); repeat ((first | (with_reducible refine HaltK.mk ?_) | (with_reducible refine StopK.mk ?_)); (with_reducible conv => whnf); (with_reducible conv => congr <;> reduce))))
    | ((with_reducible show CallK _ _ 11 _ _ _ _); refine CallK.lit [] (f11_ok l hl n) c11 ⟨rfl, rfl, trivial⟩ rfl rfl ?_; ((with_reducible conv => whnf); (with_reducible conv => congr <;> reduce); repeat ((first | (with_reducible refine HaltK.mk ?_) | (with_reducible refine StopK.mk ?_)); (with_reducible conv => whnf); (with_reducible conv => congr <;> reduce))))
    | ((with_reducible show (_ ∧ _) ∧ _ ∧ _); refine ⟨⟨rfl, rfl⟩, ?_, ?_⟩ <;> (with_reducible conv => whnf) <;> repeat' (first | (with_reducible exact trivial) | (with_reducible refine And.intro ?_ ?_ <;> with_reducible conv => whnf))))
        · have q1 : decide (0 < f) = false := decide_eq_false hf
          have e : toggleA l n f = ((removeA l n).1, false, 0) := by simp [toggleA, hE, wantA, hf, hP]
          rw [e]
          repeat' (first
    | ((with_reducible show IfK _ _ _ _); first
      | (refine IfK.yes (by assumption) ?_; ((with_reducible conv => whnf); (with_reducible conv => congr <;> reduce); repeat ((first | (with_reducible refine HaltK.mk ?_) | (with_reducible refine StopK.mk ?_)); (with_reducible conv => whnf); (with_reducible conv => congr <;> reduce))))
      | (refine IfK.no (by assumption) ?_; ((with_reducible conv => whnf); (with_reducible conv => congr <;> reduce); repeat ((first | (with_reducible refine HaltK.mk ?_) | (with_reducible refine StopK.mk ?_)); (with_reducible conv => whnf); (with_reducible conv => congr <;> reduce))))
      | (with_reducible refine IfK.yes Bool.not_false ?_; ((with_reducible conv => whnf); (with_reducible conv => congr <;> reduce); repeat ((first | (with_reducible refine HaltK.mk ?_) | (with_reducible refine StopK.mk ?_)); (with_reducible conv => whnf); (with_reducible conv => congr <;> reduce))))
      | (with_reducible refine IfK.no Bool.not_true ?_; ((with_reducible conv => whnf); (with_reducible conv => congr <;> reduce); repeat ((first | (with_reducible refine HaltK.mk ?_) | (with_reducible refine StopK.mk ?_)); (with_reducible conv => whnf); (with_reducible conv => congr <;> reduce))))
      | (with_reducible refine IfK.yes (nf (by assumption)) ?_; ((with_reducible conv => whnf); (with_reducible conv => congr <;> reduce); repeat ((first | (with_reducible refine HaltK.mk ?_) | (with_reducible refine StopK.mk ?_)); (with_reducible conv => whnf); (with_reducible conv => congr <;> reduce))))
      | (with_reducible refine IfK.no (nt (by assumption)) ?_; ((with_reducible conv => whnf); (with_reducible conv => congr <;> reduce); repeat ((first | (with_reducible refine HaltK.mk ?_) | (with_reducible refine StopK.mk ?_)); (with_reducible conv => whnf); (with_reducible conv => congr <;> reduce))))
      | (with_reducible refine IfK.tt ?_; ((with_reducible conv => whnf); (with_reducible conv => congr <;> reduce); repeat ((first | (with_reducible refine HaltK.mk ?_) | (with_reducible refine StopK.mk ?_)); (with_reducible conv => whnf); (with_reducible conv => congr <;> reduce))))
      | (with_reducible refine IfK.ff ?_; ((with_reducible conv => whnf); (with_reducible conv => congr <;> reduce); repeat ((first | (with_reducible refine HaltK.mk ?_) | (with_reducible refine StopK.mk ?_)); (with_reducible conv => whnf); (with_reducible conv => congr <;> reduce))))
      | (refine IfK.mk (fun _ => ?_) (fun _ => ?_) <;> ((with_reducible conv => whnf); (with_reducible conv => congr <;> reduce); repeat ((first | (with_reducible refine HaltK.mk ?_) | (with_reducible refine StopK.mk ?_)); (with_reducible conv => whnf); (with_reducible conv => congr <;> reduce)))))
    | ((with_reducible show CallK _ _ 25 _ _ _ _); refine CallK.lit [] (f25_ok _) c25 ⟨rfl, trivial⟩ rfl rfl ?_; ((with_reducible conv => whnf); (with_reducible conv => congr <;> reduce); repeat ((first | (with_reducible refine HaltK.mk ?_) | (with_reducible refine StopK.mk ?_)); (with_reducible conv => whnf); (with_reducible conv => congr <;> reduce))))
    | ((with_reducible show CallK _ _ 11 _ _ _ _); refine CallK.lit [] (f11_ok l hl n) c11 ⟨rfl, rfl, trivial⟩ rfl rfl ?_; ((with_reducible conv => whnf); (with_reducible conv => congr <;> reduce); repeat ((first | (with_reducible refine HaltK.mk ?_) | (with_reducible refine StopK.mk ?_)); (with_reducible conv => whnf); (with_reducible conv => congr <;> reduce))))
    | ((with_reducible show CallK _ _ 15 _ _ _ _); refine CallK.val [] (f15_ok l hl n) c15 ⟨rfl, rfl, trivial⟩ rfl rfl rfl ?_; ((with_reducible conv => whnf); (with_reducible conv => congr <;> reduce); repeat ((first | (with_reducible refine HaltK.mk ?_) | (with_reducible refine StopK.mk ?_)); (with_reducible conv => whnf); (with_reducible conv => congr <;> reduce))))
    | ((with_reducible show (_ ∧ _) ∧ _ ∧ _); refine ⟨⟨rfl, rfl⟩, ?_, ?_⟩ <;> (with_reducible conv => whnf) <;> repeat' (first | (with_reducible exact trivial) | (with_reducible refine And.intro ?_ ?_ <;> with_reducible conv => whnf))))
          all_goals exact congrArg (List.map oAttr) (rest_remove l n).symm
      · have p1 : decide (0 ≤ findP l n) = false := decide_eq_false hP
        by_cases hf : f < 0
        · have q1 : decide (f < 0) = true := decide_eq_true hf
          have e : toggleA l n f = (l, decide (0 ≤ findP l n), 0) := by simp [toggleA, hE, wantA, hP]; omega
          rw [e]
          repeat' (first
    | ((with_reducible show IfK _ _ _ _); first
      | (refine IfK.yes (by assumption) ?_; ((with_reducible conv => whnf); (with_reducible conv => congr <;> reduce); repeat ((first | (with_reducible refine HaltK.mk ?_) | (with_reducible refine StopK.mk ?_)); (with_reducible conv => whnf); (with_reducible conv => congr <;> reduce))))
      | (refine IfK.no (by assumption) ?_; ((with_reducible conv => whnf); (with_reducible conv => congr <;> reduce); repeat ((first | (with_reducible refine HaltK.mk ?_) | (with_reducible refine StopK.mk ?_)); (with_reducible conv => whnf); (with_reducible conv => congr <;> reduce))))
      | (with_reducible refine IfK.yes Bool.not_false ?_; ((with_reducible conv => whnf); (with_reducible conv => congr <;> reduce); repeat ((first | (with_reducible refine HaltK.mk ?_) | (with_reducible refine StopK.mk ?_)); (with_reducible conv => whnf); (with_reducible conv => congr <;> reduce))))
      | (with_reducible refine IfK.no Bool.not_true ?_; ((with_reducible conv => whnf); (with_reducible conv => congr <;> reduce); repeat ((first | (with_reducible refine HaltK.mk ?_) | (with_reducible refine StopK.mk ?_)); (with_reducible conv => whnf); (with_reducible conv => congr <;> reduce))))
      | (with_reducible refine IfK.yes (nf (by assumption)) ?_; ((with_reducible conv => whnf); (with_reducible conv => congr <;> reduce); repeat ((first | (with_reducible refine HaltK.mk ?_) | (with_reducible refine StopK.mk ?_)); (with_reducible conv => whnf); (with_reducible conv => congr <;> reduce))))
      | (with_reducible refine IfK.no (nt (by assumption)) ?_; ((with_reducible conv => whnf); (with_reducible conv => congr <;> reduce); repeat ((first | (with_reducible refine HaltK.mk ?_) | (with_reducible refine StopK.mk ?_)); (with_reducible conv => whnf); (with_reducible conv => congr <;> reduce))))
      | (with_reducible refine IfK.tt ?_; ((with_reducible conv => whnf); (with_reducible conv => congr <;> reduce); repeat ((first | (with_reducible refine HaltK.mk ?_) | (with_reducible refine StopK.mk ?_)); (with_reducible conv => whnf); (with_reducible conv => congr <;> reduce))))
      | (with_reducible refine IfK.ff ?_; ((with_reducible conv => whnf); (with_reducible conv => congr <;> reduce); repeat ((first | (with_reducible refine HaltK.mk ?_) | (with_reducible refine StopK.mk ?_)); (with_reducible conv => whnf); (with_reducible conv => congr <;> reduce))))
      | (refine IfK.mk (fun _ => ?_) (fun _ => ?_) <;> ((with_reducible conv => whnf); (with_reducible conv => congr <;> reduce); repeat ((first | (with_reducible refine HaltK.mk ?_) | (with_reducible refine StopK.mk ?_)); (with_reducible conv => whnf); (with_reducible conv => congr <;> reduce)))))
    | ((with_reducible show CallK _ _ 25 _ _ _ _); refine CallK.lit [] (f25_ok _) c25 ⟨rfl, trivial⟩ rfl rfl ?_; ((with_reducible conv => whnf); (with_reducible conv => congr <;> reduce); repeat ((first | (with_reducible refine HaltK.mk ?_) | (with_reducible refine StopK.mk ?_)); (with_reducible conv => whnf); (with_reducible conv => congr <;> reduce))))
    | ((with_reducible show CallK _ _ 11 _ _ _ _); refine CallK.lit [] (f11_ok l hl n) c11 ⟨rfl, rfl, trivial⟩ rfl rfl ?_; ((with_reducible conv => whnf); (with_reducible conv => congr <;> reduce); repeat ((first | (with_reducible refine HaltK.mk ?_) | (with_reducible refine StopK.mk ?_)); (with_reducible conv => whnf); (with_reducible conv => congr <;> reduce))))
    | ((with_reducible show (_ ∧ _) ∧ _ ∧ _); refine ⟨⟨rfl, rfl⟩, ?_, ?_⟩ <;> (with_reducible conv => whnf) <;> repeat' (first | (with_reducible exact trivial) | (with_reducible refine And.intro ?_ ?_ <;> with_reducible conv => whnf))))
        · have q1 : decide (f < 0) = false := decide_eq_false hf
          have e : toggleA l n f = ((setA l n noS).1, decide ((setA l n noS).2 = 0), (setA l n noS).2) := by
            have : (0 < f) ∨ f = 0 := by omega
            rcases this with h | h <;> simp [toggleA, hE, wantA, hP, h]
          rw [e]
          repeat' (first
    | ((with_reducible show IfK _ _ _ _); first
      | (refine IfK.yes (by assumption) ?_; ((with_reducible conv => whnf); (with_reducible conv => congr <;> reduce); repeat ((first | (with_reducible refine HaltK.mk ?_) | (with_reducible refine StopK.mk ?_)); (with_reducible conv => whnf); (with_reducible conv => congr <;> reduce))))
      | (refine IfK.no (by assumption) ?_; ((with_reducible conv => whnf); (with_reducible conv => congr <;> reduce); repeat ((first | (with_reducible refine HaltK.mk ?_) | (with_reducible refine StopK.mk ?_)); (with_reducible conv => whnf); (with_reducible conv => congr <;> reduce))))
      | (with_reducible refine IfK.yes Bool.not_false ?_; ((with_reducible conv => whnf); (with_reducible conv => congr <;> reduce); repeat ((first | (with_reducible refine HaltK.mk ?_) | (with_reducible refine StopK.mk ?_)); (with_reducible conv => whnf); (with_reducible conv => congr <;> reduce))))
      | (with_reducible refine IfK.no Bool.not_true ?_; ((with_reducible conv => whnf); (with_reducible conv => congr <;> reduce); repeat ((first | (with_reducible refine HaltK.mk ?_) | (with_reducible refine StopK.mk ?_)); (with_reducible conv => whnf); (with_reducible conv => congr <;> reduce))))
      | (with_reducible refine IfK.yes (nf (by assumption)) ?_; ((with_reducible conv => whnf); (with_reducible conv => congr <;> reduce); repeat ((first | (with_reducible refine HaltK.mk ?_) | (with_reducible refine StopK.mk ?_)); (with_reducible conv => whnf); (with_reducible conv => congr <;> reduce))))
      | (with_reducible refine IfK.no (nt (by assumption)) ?_; ((with_reducible conv => whnf); (with_reducible conv => congr <;> reduce); repeat ((first | (with_reducible refine HaltK.mk ?_) | (with_reducible refine StopK.mk ?_)); (with_reducible conv => whnf); (with_reducible conv => congr <;> reduce))))
      | (with_reducible refine IfK.tt ?_; ((with_reducible conv => whnf); (with_reducible conv => congr <;> reduce); repeat ((first | (with_reducible refine HaltK.mk ?_) | (with_reducible refine StopK.mk ?_)); (with_reducible conv => whnf); (with_reducible conv => congr <;> reduce))))
      | (with_reducible refine IfK.ff ?_; ((with_reducible conv => whnf); (with_reducible conv => congr <;> reduce); repeat ((first | (with_reducible refine HaltK.mk ?_) | (with_reducible refine StopK.mk ?_)); (with_reducible conv => whnf); (with_reducible conv => congr <;> reduce))))
      | (refine IfK.mk (fun _ => ?_) (fun _ => ?_) <;> ((with_reducible conv => whnf); (with_reducible conv => congr <;> reduce); repeat ((first | (with_reducible refine HaltK.mk ?_) | (with_reducible refine StopK.mk ?_)); (with_reducible conv => whnf); (with_reducible conv => congr <;> reduce)))))
    | ((with_reducible show CallK _ _ 25 _ _ _ _); refine CallK.lit [] (f25_ok _) c25 ⟨rfl, trivial⟩ rfl rfl ?_; ((with_reducible conv => whnf); (with_reducible conv => congr <;> reduce); repeat ((first | (with_reducible refine HaltK.mk ?_) | (with_reducible refine StopK.mk ?_)); (with_reducible conv => whnf); (with_reducible conv => congr <;> reduce))))
    | ((with_reducible show CallK _ _ 11 _ _ _ _); refine CallK.lit [] (f11_ok l hl n) c11 ⟨rfl, rfl, trivial⟩ rfl rfl ?_; ((with_reducible conv => whnf); (with_reducible conv => congr <;> reduce); repeat ((first | (with_reducible refine HaltK.mk ?_) | (with_reducible refine StopK.mk ?_)); (with_reducible conv => whnf); (with_reducible conv => congr <;> reduce))))
    | ((with_reducible show CallK _ _ 13 _ _ _ _); refine CallK.val [] (f13_ok l hl n noS) c13 ⟨rfl, rfl, rfl, trivial⟩ rfl rfl rfl ?_; ((with_reducible conv => whnf); (with_reducible conv => congr <;> reduce); repeat ((first | (with_reducible refine HaltK.mk ?_) | (with_reducible refine StopK.mk ?_)); (with_reducible conv => whnf); (with_reducible conv => congr <;> reduce))))
    | ((with_reducible show (_ ∧ _) ∧ _ ∧ _); refine ⟨⟨rfl, rfl⟩, ?_, ?_⟩ <;> (with_reducible conv => whnf) <;> repeat' (first | (with_reducible exact trivial) | (with_reducible refine And.intro ?_ ?_ <;> with_reducible conv => whnf))))
end Go.Proofs.Attr
end
section
namespace Go.Proofs.Attr
open Go.Am Go.RowKit Go.Lib
set_option maxRecDepth 100000
theorem f33_ok (t : List (ByteArray × AttrM)) (a : AttrM) : FnOK Try.prog 33 [] [eAttr a, .fptr (.fmap (tRows Value.string oAttr t)) 0] [] (eBool (!decide (tget a.name t = some a))) := by
  obtain ⟨n, v⟩ := a
  refine FnOK.startC (rvs := [.tmp 3]) G G_good Try.func33 rfl Try.ntmps33 rfl rfl ?_; delta List.toArray; ((with_reducible conv => whnf); (with_reducible conv => congr <;> reduce); repeat ((first | (with_reducible refine HaltK.mk ?_) | (with_reducible refine StopK.mk ?_)); (with_reducible conv => whnf); (with_reducible conv => congr <;> reduce)))
  refine LookK.tab Value.string oAttr t (k := n) (zv := eAttr ⟨noS, noS⟩) map64 rfl key_str inj_str rfl rfl (fun x hx => ?_) (fun hx => ?_)
  · rw [show oAttr x = eAttr x from rfl]
    obtain ⟨xn, xv⟩ := x
    rw [hx]
    ((with_reducible conv => whnf); (with_reducible conv => congr <;> reduce); repeat ((first | (with_reducible refine HaltK.mk ?_) | (with_reducible refine StopK.mk ?_)); (with_reducible conv => whnf); (with_reducible conv => congr <;> reduce)))
    refine IfK.no rfl ?_; ((with_reducible conv => whnf); (with_reducible conv => congr <;> reduce); repeat ((first | (with_reducible refine HaltK.mk ?_) | (with_reducible refine StopK.mk ?_)); (with_reducible conv => whnf); (with_reducible conv => congr <;> reduce)))
    refine EqK.mk _ (fun y z w => attr_neq ⟨xn, xv⟩ ⟨n, v⟩ y z w) ?_; ((with_reducible conv => whnf); (with_reducible conv => congr <;> reduce); repeat ((first | (with_reducible refine HaltK.mk ?_) | (with_reducible refine StopK.mk ?_)); (with_reducible conv => whnf); (with_reducible conv => congr <;> reduce)))
    refine ⟨⟨rfl, rfl⟩, ?_, ?_⟩ <;> (with_reducible conv => whnf) <;> repeat' (first | (with_reducible exact trivial) | (with_reducible refine And.intro ?_ ?_ <;> with_reducible conv => whnf))
    by_cases h : (⟨xn, xv⟩ : AttrM) = ⟨n, v⟩ <;> simp [h]
  · rw [hx]
    ((with_reducible conv => whnf); (with_reducible conv => congr <;> reduce); repeat ((first | (with_reducible refine HaltK.mk ?_) | (with_reducible refine StopK.mk ?_)); (with_reducible conv => whnf); (with_reducible conv => congr <;> reduce)))
    refine IfK.yes rfl ?_; ((with_reducible conv => whnf); (with_reducible conv => congr <;> reduce); repeat ((first | (with_reducible refine HaltK.mk ?_) | (with_reducible refine StopK.mk ?_)); (with_reducible conv => whnf); (with_reducible conv => congr <;> reduce)))
    refine ⟨⟨rfl, rfl⟩, ?_, ?_⟩ <;> (with_reducible conv => whnf) <;> repeat' (first | (with_reducible exact trivial) | (with_reducible refine And.intro ?_ ?_ <;> with_reducible conv => whnf))
    simp
def alikeA (l m : List AttrM) : Bool := (rightA l && rightA m) && decide (l.length = m.length) && l.all (fun a => decide (tget a.name (tabL m) = some a))
theorem all_any {α : Type} (p : α → Bool) (l : List α) : l.all p = !l.any (fun a => !p a) := by
  induction l with
  | nil => rfl
  | cons a r ih => simp [List.all_cons, List.any_cons, ih]
theorem tab_ents (m : List AttrM) : ∀ x ∈ tRows Value.string oAttr (tabL m), ∃ key y, x = entry key y ∧ noRef y = true := by
  intro x hx
  obtain ⟨p, _, rfl⟩ := List.mem_map.1 hx
  exact ⟨_, _, rfl, rfl⟩
theorem f22_ok (l m : List AttrM) (hl : l.length ≤ 100000) (hm : m.length ≤ 100000) : FnOK Try.prog 22 [] [eAttrs l, eAttrs m] [] (eBool (alikeA l m)) := by
  have hll : (l.map oAttr).length = l.length := List.length_map ..
  have hlm : (m.map oAttr).length = m.length := List.length_map ..
  refine FnOK.startC (rvs := [.tmp 4]) G G_good Try.func22 rfl Try.ntmps22 rfl rfl ?_; delta List.toArray; ((with_reducible conv => whnf); (with_reducible conv => congr <;> reduce); repeat ((first | (with_reducible refine HaltK.mk ?_) | (with_reducible refine StopK.mk ?_)); (with_reducible conv => whnf); (with_reducible conv => congr <;> reduce)))
  repeat' (first
    | ((with_reducible show IfK _ _ _ _); first
      | (refine IfK.yes (by assumption) ?_; ((with_reducible conv => whnf); (with_reducible conv => congr <;> reduce); repeat ((first | (with_reducible refine HaltK.mk ?_) | (with_reducible refine StopK.mk ?_)); (with_reducible conv => whnf); (with_reducible conv => congr <;> reduce))))
      | (refine IfK.no (by assumption) ?_; ((with_reducible conv => whnf); (with_reducible conv => congr <;> reduce); repeat ((first | (with_reducible refine HaltK.mk ?_) | (with_reducible refine StopK.mk ?_)); (with_reducible conv => whnf); (with_reducible conv => congr <;> reduce))))
      | (with_reducible refine IfK.yes Bool.not_false ?_; ((with_reducible conv => whnf); (with_reducible conv => congr <;> reduce); repeat ((first | (with_reducible refine HaltK.mk ?_) | (with_reducible refine StopK.mk ?_)); (with_reducible conv => whnf); (with_reducible conv => congr <;> reduce))))
      | (with_reducible refine IfK.no Bool.not_true ?_; ((with_reducible conv => whnf); (with_reducible conv => congr <;> reduce); repeat ((first | (with_reducible refine HaltK.mk ?_) | (with_reducible refine StopK.mk ?_)); (with_reducible conv => whnf); (with_reducible conv => congr <;> reduce))))
      | (with_reducible refine IfK.yes (nf (by assumption)) ?_; ((with_reducible conv => whnf); (with_reducible conv => congr <;> reduce); repeat ((first | (with_reducible refine HaltK.mk ?_) | (with_reducible refine StopK.mk ?_)); (with_reducible conv => whnf); (with_reducible conv => congr <;> reduce))))
      | (with_reducible refine IfK.no (nt (by assumption)) ?_; ((with_reducible conv => whnf); (with_reducible conv => congr <;> reduce); repeat ((first | (with_reducible refine HaltK.mk ?_) | (with_reducible refine StopK.mk ?_)); (with_reducible conv => whnf); (with_reducible conv => congr <;> reduce))))
      | (with_reducible refine IfK.tt ?_; ((with_reducible conv => whnf); (with_reducible conv => congr <;> reduce); repeat ((first | (with_reducible refine HaltK.mk ?_) | (with_reducible refine StopK.mk ?_)); (with_reducible conv => whnf); (with_reducible conv => congr <;> reduce))))
      | (with_reducible refine IfK.ff ?_; ((with_reducible conv => whnf); (with_reducible conv => congr <;> reduce); repeat ((first | (with_reducible refine HaltK.mk ?_) | (with_reducible refine StopK.mk ?_)); (with_reducible conv => whnf); (with_reducible conv => congr <;> reduce))))
      | (refine IfK.mk (fun _ => ?_) (fun _ => ?_) <;> ((with_reducible conv => whnf); (with_reducible conv => congr <;> reduce); repeat ((first | (with_reducible refine HaltK.mk ?_) | (with_reducible refine StopK.mk ?_)); (with_reducible conv => whnf); (with_reducible conv => congr <;> reduce)))))
    | ((with_reducible show CallK _ _ 18 _ _ _ _); refine CallK.lit [] (f18_ok l hl) c18 ⟨rfl, trivial⟩ rfl rfl ?_; ((with_reducible conv => whnf); (with_reducible conv => congr <;> reduce); repeat ((first | (with_reducible refine HaltK.mk ?_) | (with_reducible refine StopK.mk ?_)); (with_reducible conv => whnf); (with_reducible conv => congr <;> reduce))))
    | ((with_reducible show CallK _ _ 18 _ _ _ _); refine CallK.lit [] (f18_ok m hm) c18 ⟨rfl, trivial⟩ rfl rfl ?_; ((with_reducible conv => whnf); (with_reducible conv => congr <;> reduce); repeat ((first | (with_reducible refine HaltK.mk ?_) | (with_reducible refine StopK.mk ?_)); (with_reducible conv => whnf); (with_reducible conv => congr <;> reduce))))
    | ((with_reducible show CallK _ _ 32 _ _ _ _); refine CallK.new 221 [] (f32_ok m hm) c32 ⟨rfl, trivial⟩ rfl rfl rfl (tab_outs m) rfl ?_; ((with_reducible conv => whnf); (with_reducible conv => congr <;> reduce); repeat ((first | (with_reducible refine HaltK.mk ?_) | (with_reducible refine StopK.mk ?_)); (with_reducible conv => whnf); (with_reducible conv => congr <;> reduce))))
    | ((with_reducible show CallK _ _ 31 _ _ _ _); refine CallK.lit [50, 221] (f31_ok 33 c33 [.fptr (.fmap (tRows Value.string oAttr (tabL m))) 0] rfl (fun a => !decide (tget a.name (tabL m) = some a)) l hl fun a _ => f33_ok (tabL m) a) c31 ⟨rfl, ⟨rfl, trivial, ⟨_, _, _, _, _, rfl, rfl, rfl, rfl, rfl, ⟨_, _, _, rfl, rfl, rfl, tab_ents m⟩⟩, trivial⟩, trivial⟩ rfl rfl ?_; ((with_reducible conv => whnf); (with_reducible conv => congr <;> reduce); repeat ((first | (with_reducible refine HaltK.mk ?_) | (with_reducible refine StopK.mk ?_)); (with_reducible conv => whnf); (with_reducible conv => congr <;> reduce))))
    | ((with_reducible show (_ ∧ _) ∧ _ ∧ _); refine ⟨⟨rfl, rfl⟩, ?_, ?_⟩ <;> (with_reducible conv => whnf) <;> repeat' (first | (with_reducible exact trivial) | (with_reducible refine And.intro ?_ ?_ <;> with_reducible conv => whnf))))
  · simp_all [alikeA]
  · simp_all [alikeA]
  · have h : ¬ l.length = m.length := by simp_all <;> (try simp only [castN] at *) <;> omega
    unfold alikeA; rw [decide_eq_false h]; simp
  · have h : l.length = m.length := by simp_all <;> (try simp only [castN] at *) <;> omega
    unfold alikeA
    rw [decide_eq_true h, show rightA l = true from by simp_all, show rightA m = true from by simp_all, all_any]; rfl
end Go.Proofs.Attr
end
section
namespace Go.Proofs.Attr
open Go.Am Go.RowKit Go.Lib
def foundV (m : List AttrM) (a : AttrM) : Bool := decide (0 ≤ posA m a.name) && decide ((m[(posA m a.name).toNat]?).map AttrM.value = some a.value)
def bAt (l m : List AttrM) (k : Nat) : Bool := ((rightA l && rightA m) && decide (l.length = m.length)) && (l.take k).all (foundV m)
theorem rightA_nodup {l : List AttrM} (h : rightA l = true) : (l.map AttrM.name).Nodup := by
  unfold rightA at h; simp only [Bool.and_eq_true, decide_eq_true_eq] at h; exact h.2
theorem tabFrom_miss {n : ByteArray} : ∀ (l : List AttrM) (t : List (ByteArray × AttrM)), (∀ a ∈ l, a.name ≠ n) → tget n (tabFrom t l) = tget n t
  | [], t, _ => rfl
  | a :: r, t, h => by
    show tget n (tabFrom (tput a.name a t) r) = _
    rw [tabFrom_miss r _ (fun b hb => h b (List.mem_cons_of_mem _ hb)), tget_put, if_neg (h a (List.mem_cons_self ..))]
theorem tabFrom_hit : ∀ (l : List AttrM) (t : List (ByteArray × AttrM)) (a : AttrM), (l.map AttrM.name).Nodup → a ∈ l → tget a.name (tabFrom t l) = some a
  | b :: r, t, a, hn, ha => by
    rw [List.map_cons, List.nodup_cons] at hn
    show tget a.name (tabFrom (tput b.name b t) r) = _
    rcases List.mem_cons.1 ha with rfl | hr
    · rw [tabFrom_miss r _ (fun c hc e => hn.1 (List.mem_map.2 ⟨c, hc, e⟩)), tget_put, if_pos rfl]
    · exact tabFrom_hit r _ a hn.2 hr
theorem tget_mem {m : List AttrM} (hn : (m.map AttrM.name).Nodup) (a : AttrM) : tget a.name (tabL m) = some a ↔ a ∈ m := by
  constructor
  · intro h
    by_cases hx : ∃ b ∈ m, b.name = a.name
    · obtain ⟨b, hb, e⟩ := hx
      have := tabFrom_hit m [] b hn hb
      rw [e] at this
      rw [show tget a.name (tabL m) = some b from this] at h
      cases h; exact hb
    · rw [show tget a.name (tabL m) = tget a.name [] from tabFrom_miss m [] (fun b hb e => hx ⟨b, hb, e⟩)] at h
      cases h
  · exact tabFrom_hit m [] a hn
/-- What the place of a name says. -/
theorem posA_miss {l : List AttrM} {n : ByteArray} (h : ∀ a ∈ l, a.name ≠ n) : posA l n = -1 :=
  idxI_none fun j x hx => by unfold hasName; exact decide_eq_false (h x (List.mem_of_getElem? hx))
theorem posA_at {l : List AttrM} (hn : (l.map AttrM.name).Nodup) {i : Nat} {a : AttrM} (h : l[i]? = some a) : posA l a.name = i := (nodup_pos l).1 hn i a h
theorem posA_cases (l : List AttrM) (n : ByteArray) : (posA l n = -1 ∧ ∀ a ∈ l, a.name ≠ n) ∨ ∃ (k : Nat) (a : AttrM), posA l n = k ∧ l[k]? = some a ∧ a.name = n := by
  by_cases hx : ∃ b ∈ l, b.name = n
  · right
    rcases idxI_cases (hasName n) l with h | ⟨k, a, h1, h2, h3⟩
    · obtain ⟨b, hb, e⟩ := hx
      exfalso
      unfold idxI at h
      cases hf : l.findIdx? (hasName n) with
      | some i => rw [hf] at h; simp only at h; omega
      | none =>
        rw [List.findIdx?_eq_none_iff] at hf
        have := hf b hb
        unfold hasName at this; simp [e] at this
    · exact ⟨k, a, h1, h2, by unfold hasName at h3; simpa using h3⟩
  · have h : ∀ a ∈ l, a.name ≠ n := fun a ha e => hx ⟨a, ha, e⟩
    exact .inl ⟨posA_miss h, h⟩
theorem found_mem {m : List AttrM} (hn : (m.map AttrM.name).Nodup) (a : AttrM) : foundV m a = true ↔ a ∈ m := by
  unfold foundV
  rcases posA_cases m a.name with ⟨h, hm⟩ | ⟨k, b, h1, h2, h3⟩
  · rw [h]; simp
    intro ha; exact hm a ha rfl
  · rw [h1]
    simp only [Int.toNat_natCast, h2, Option.map_some, Bool.and_eq_true, decide_eq_true_eq, Option.some.injEq]
    constructor
    · rintro ⟨_, h⟩
      obtain ⟨an, av⟩ := a; obtain ⟨bn, bv⟩ := b
      simp only at h h3; subst h; subst h3
      exact List.mem_of_getElem? h2
    · intro ha
      obtain ⟨i, hi⟩ := List.getElem?_of_mem ha
      have := posA_at hn hi
      have e : i = k := by omega
      subst e
      rw [hi] at h2; cases h2
      exact ⟨by omega, rfl⟩
def memA (m : List AttrM) (a : AttrM) : Bool := decide (a ∈ m)
theorem alikeA_eq (l m : List AttrM) : alikeA l m = ((rightA l && rightA m) && decide (l.length = m.length) && l.all (memA m)) := by
  unfold alikeA
  cases h : rightA m with
  | false => simp
  | true =>
    congr 2
    funext a
    unfold memA
    simp only [decide_eq_decide]
    exact tget_mem (rightA_nodup h) a
theorem bAt_end (l m : List AttrM) : bAt l m l.length = alikeA l m := by
  rw [alikeA_eq]
  unfold bAt
  rw [List.take_length]
  cases h : rightA m with
  | false => simp
  | true =>
    congr 2
    funext a
    unfold memA
    rw [Bool.eq_iff_iff, decide_eq_true_eq]
    exact found_mem (rightA_nodup h) a
theorem bAt_succ {l m : List AttrM} {k : Nat} {a : AttrM} (h : l[k]? = some a) : bAt l m (k + 1) = (bAt l m k && foundV m a) := by
  have hk := (List.getElem?_eq_some_iff.1 h).1
  unfold bAt
  rw [List.take_succ_eq_append_getElem hk, (List.getElem?_eq_some_iff.1 h).2]
  simp [List.all_append, Bool.and_assoc]
theorem bAt_stop {l m : List AttrM} {k : Nat} (hk : k ≤ l.length) (h : bAt l m k = false) : bAt l m l.length = false := by
  unfold bAt at h ⊢
  rw [List.take_length]
  rw [Bool.and_eq_false_iff] at h ⊢
  rcases h with h | h
  · exact .inl h
  · right
    rw [← List.take_append_drop k l, List.all_append, h]; rfl
end Go.Proofs.Attr
end
section
namespace Go.Proofs.Attr
open Go.Am Go.RowKit Go.Lib
set_option maxRecDepth 100000
@[reducible] def sB (b : UInt8) : ByteArray := ⟨#[b]⟩
def wl1 : List AttrM := [⟨sB 97, sB 49⟩]
def wl2 : List AttrM := [⟨sB 97, sB 49⟩, ⟨sB 98, sB 50⟩]
def wl3 : List AttrM := [⟨sB 97, sB 51⟩, ⟨sB 98, sB 50⟩]
def wl4 : List AttrM := [⟨sB 98, sB 50⟩]
def wl5 : List AttrM := [⟨sB 98, sB 50⟩, ⟨sB 99, noS⟩]
def wl6 : List AttrM := [⟨sB 98, sB 50⟩, ⟨sB 97, sB 51⟩]
theorem aw1 : setA [] (sB 65) (sB 49) = (wl1, 0) := by decide
theorem aw2 : setA wl1 (sB 98) (sB 50) = (wl2, 0) := by decide
theorem aw3 : setA wl2 (sB 97) (sB 51) = (wl3, 0) := by decide
theorem aw4 : getS wl3 (sB 97) = sB 51 ∧ decide (0 ≤ findP wl3 (sB 97)) = true := by decide
theorem aw5 : removeA wl3 (sB 97) = (wl4, true) := by decide
theorem aw6 : toggleA wl4 (sB 99) 0 = (wl5, true, 0) := by decide
theorem aw7 : rightA wl5 = true := by decide
theorem aw8 : alikeA wl3 wl6 = true := by decide
theorem f12_at {l r : List AttrM} {n v : ByteArray} {i : Int} (hl : l.length ≤ 100000) (h : setA l n v = (r, i)) : FnOK Try.prog 12 [] [eAttrs l, eStr n, eStr v] [] (.tup [eAttrs r, eInt i]) := by
  have := f12_ok l hl n v; rwa [h] at this
theorem f10_at {l : List AttrM} {n r : ByteArray} {b : Bool} (hl : l.length ≤ 100000) (h : getS l n = r ∧ decide (0 ≤ findP l n) = b) : FnOK Try.prog 10 [] [eAttrs l, eStr n] [] (.tup [eStr r, eBool b]) := by
  have := f10_ok l hl n; rwa [h.1, h.2] at this
theorem f14_at {l r : List AttrM} {n : ByteArray} {b : Bool} (hl : l.length ≤ 100000) (h : removeA l n = (r, b)) : FnOK Try.prog 14 [] [eAttrs l, eStr n] [] (.tup [eAttrs r, eBool b]) := by
  have := f14_ok l hl n; rwa [h] at this
theorem f16_at {l r : List AttrM} {n : ByteArray} {f i : Int} {b : Bool} (hl : l.length ≤ 100000) (h : toggleA l n f = (r, b, i)) : FnOK Try.prog 16 [] [eAttrs l, eStr n, eInt f] [] (.tup [eAttrs r, eBool b, eInt i]) := by
  have := f16_ok l hl n f; rwa [h] at this
theorem f18_at {l : List AttrM} {b : Bool} (hl : l.length ≤ 100000) (h : rightA l = b) : FnOK Try.prog 18 [] [eAttrs l] [] (eBool b) := by
  have := f18_ok l hl; rwa [h] at this
theorem f22_at {l m : List AttrM} {b : Bool} (hl : l.length ≤ 100000) (hm : m.length ≤ 100000) (h : alikeA l m = b) : FnOK Try.prog 22 [] [eAttrs l, eAttrs m] [] (eBool b) := by
  have := f22_ok l m hl hm; rwa [h] at this
theorem f8_ok : FnOK Try.prog 8 [] [] [] (eBool true) := by
  have h3 : (wl3.map oAttr).length = 2 := rfl
  have h4 : (wl4.map oAttr).length = 1 := rfl
  have h5 : (wl5.map oAttr).length = 2 := rfl
  refine FnOK.startC (rvs := [.tmp 0]) G G_good Try.func8 rfl Try.ntmps8 rfl rfl ?_; delta List.toArray; ((with_reducible conv => whnf); (with_reducible conv => congr <;> reduce); repeat ((first | (with_reducible refine HaltK.mk ?_) | (with_reducible refine StopK.mk ?_)); (with_reducible conv => whnf); (with_reducible conv => congr <;> reduce)))
  refine CallK.val [] (f12_at (by decide) aw1) c12 ⟨.inr (.inr ⟨2, rfl⟩), rfl, rfl, trivial⟩ rfl rfl rfl ?_; ((with_reducible conv => whnf); (with_reducible conv => congr <;> reduce); repeat ((first | (with_reducible refine HaltK.mk ?_) | (with_reducible refine StopK.mk ?_)); (with_reducible conv => whnf); (with_reducible conv => congr <;> reduce)))
  refine CallK.val [] (f12_at (by decide) aw2) c12 ⟨rfl, rfl, rfl, trivial⟩ rfl rfl rfl ?_; ((with_reducible conv => whnf); (with_reducible conv => congr <;> reduce); repeat ((first | (with_reducible refine HaltK.mk ?_) | (with_reducible refine StopK.mk ?_)); (with_reducible conv => whnf); (with_reducible conv => congr <;> reduce)))
  refine CallK.val [] (f12_at (by decide) aw3) c12 ⟨rfl, rfl, rfl, trivial⟩ rfl rfl rfl ?_; ((with_reducible conv => whnf); (with_reducible conv => congr <;> reduce); repeat ((first | (with_reducible refine HaltK.mk ?_) | (with_reducible refine StopK.mk ?_)); (with_reducible conv => whnf); (with_reducible conv => congr <;> reduce)))
  refine CallK.lit [] (f10_at (by decide) aw4) c10 ⟨rfl, rfl, trivial⟩ rfl rfl ?_; ((with_reducible conv => whnf); (with_reducible conv => congr <;> reduce); repeat ((first | (with_reducible refine HaltK.mk ?_) | (with_reducible refine StopK.mk ?_)); (with_reducible conv => whnf); (with_reducible conv => congr <;> reduce)))
  refine CallK.val [] (f14_at (by decide) aw5) c14 ⟨rfl, rfl, trivial⟩ rfl rfl rfl ?_; ((with_reducible conv => whnf); (with_reducible conv => congr <;> reduce); repeat ((first | (with_reducible refine HaltK.mk ?_) | (with_reducible refine StopK.mk ?_)); (with_reducible conv => whnf); (with_reducible conv => congr <;> reduce)))
  refine CallK.val [] (f16_at (by decide) aw6) c16 ⟨rfl, rfl, rfl, trivial⟩ rfl rfl rfl ?_; ((with_reducible conv => whnf); (with_reducible conv => congr <;> reduce); repeat ((first | (with_reducible refine HaltK.mk ?_) | (with_reducible refine StopK.mk ?_)); (with_reducible conv => whnf); (with_reducible conv => congr <;> reduce)))
  dsimp only [List.append]; ((with_reducible conv => whnf); (with_reducible conv => congr <;> reduce); repeat ((first | (with_reducible refine HaltK.mk ?_) | (with_reducible refine StopK.mk ?_)); (with_reducible conv => whnf); (with_reducible conv => congr <;> reduce)))
  repeat' (first
    | (with_reducible show IfK _ _ _ _); (first | (refine IfK.tt ?_; ((with_reducible conv => whnf); (with_reducible conv => congr <;> reduce); repeat ((first | (with_reducible refine HaltK.mk ?_) | (with_reducible refine StopK.mk ?_)); (with_reducible conv => whnf); (with_reducible conv => congr <;> reduce)))) | (refine IfK.yes (by decide) ?_; ((with_reducible conv => whnf); (with_reducible conv => congr <;> reduce); repeat ((first | (with_reducible refine HaltK.mk ?_) | (with_reducible refine StopK.mk ?_)); (with_reducible conv => whnf); (with_reducible conv => congr <;> reduce)))))
    | (with_reducible show IdxK _ _ _ _ _); (first | (refine IdxK.mk 0 (eAttr ⟨sB 97, sB 51⟩) rfl rfl ?_; ((with_reducible conv => whnf); (with_reducible conv => congr <;> reduce); repeat ((first | (with_reducible refine HaltK.mk ?_) | (with_reducible refine StopK.mk ?_)); (with_reducible conv => whnf); (with_reducible conv => congr <;> reduce)))) | (refine IdxK.mk 1 (eAttr ⟨sB 98, sB 50⟩) rfl rfl ?_; ((with_reducible conv => whnf); (with_reducible conv => congr <;> reduce); repeat ((first | (with_reducible refine HaltK.mk ?_) | (with_reducible refine StopK.mk ?_)); (with_reducible conv => whnf); (with_reducible conv => congr <;> reduce)))))
    | (with_reducible show CallK _ _ 18 _ _ _ _); refine CallK.lit [] (f18_at (l := wl5) (by decide) aw7) c18 ⟨rfl, trivial⟩ rfl rfl ?_; ((with_reducible conv => whnf); (with_reducible conv => congr <;> reduce); repeat ((first | (with_reducible refine HaltK.mk ?_) | (with_reducible refine StopK.mk ?_)); (with_reducible conv => whnf); (with_reducible conv => congr <;> reduce)))
    | (with_reducible show DrawK _ _ _ _); refine DrawK.mk (by kernel_rfl) (by kernel_rfl) (by kernel_rfl) ?_; ((with_reducible conv => whnf); (with_reducible conv => congr <;> reduce); repeat ((first | (with_reducible refine HaltK.mk ?_) | (with_reducible refine StopK.mk ?_)); (with_reducible conv => whnf); (with_reducible conv => congr <;> reduce))))
  refine CallK.lit [1031] (f22_at (l := wl3) (m := wl6) (by decide) (by decide) aw8) c22 ⟨rfl, frz_attrs rfl rfl rfl rfl, trivial⟩ rfl rfl ?_; ((with_reducible conv => whnf); (with_reducible conv => congr <;> reduce); repeat ((first | (with_reducible refine HaltK.mk ?_) | (with_reducible refine StopK.mk ?_)); (with_reducible conv => whnf); (with_reducible conv => congr <;> reduce)))
  repeat' (first
    | (with_reducible show IfK _ _ _ _); (first | (refine IfK.tt ?_; ((with_reducible conv => whnf); (with_reducible conv => congr <;> reduce); repeat ((first | (with_reducible refine HaltK.mk ?_) | (with_reducible refine StopK.mk ?_)); (with_reducible conv => whnf); (with_reducible conv => congr <;> reduce)))) | (refine IfK.yes (by decide) ?_; ((with_reducible conv => whnf); (with_reducible conv => congr <;> reduce); repeat ((first | (with_reducible refine HaltK.mk ?_) | (with_reducible refine StopK.mk ?_)); (with_reducible conv => whnf); (with_reducible conv => congr <;> reduce)))))
    | (with_reducible show DrawK _ _ _ _); refine DrawK.mk (by kernel_rfl) (by kernel_rfl) (by kernel_rfl) ?_; ((with_reducible conv => whnf); (with_reducible conv => congr <;> reduce); repeat ((first | (with_reducible refine HaltK.mk ?_) | (with_reducible refine StopK.mk ?_)); (with_reducible conv => whnf); (with_reducible conv => congr <;> reduce))))
  refine ⟨⟨rfl, rfl⟩, ?_, ?_⟩ <;> (with_reducible conv => whnf) <;> repeat' (first | (with_reducible exact trivial) | (with_reducible refine And.intro ?_ ?_ <;> with_reducible conv => whnf))
end Go.Proofs.Attr
end
section
namespace Go.Proofs.Attr
open Go.Am Go.RowKit Go.Lib
/-! ### plain laws of names and lists -/
theorem byte_all (p : UInt8 → Bool) (h : (List.range 256).all (fun n => p (UInt8.ofNat n)) = true) (c : UInt8) : p c = true := by
  have := List.all_eq_true.1 h c.toNat (List.mem_range.2 (UInt8.toNat_lt c))
  simpa using this
theorem lowB_low (c : UInt8) : lowB (lowB c) = lowB c := by
  have := byte_all (fun c => decide (lowB (lowB c) = lowB c)) (by decide +kernel) c
  simpa using this
theorem signB_low (c : UInt8) : signB (lowB c) = signB c := by
  have := byte_all (fun c => decide (signB (lowB c) = signB c)) (by decide +kernel) c
  simpa using this
theorem lowS_low (s : ByteArray) : lowS (lowS s) = lowS s := by
  unfold lowS lowL
  simp only [List.map_map]
  congr 2
  apply List.map_congr_left
  intro c _
  exact lowB_low c
theorem firstB_low (l : List UInt8) : firstB (lowL l) = firstB l := by
  cases l with
  | nil => rfl
  | cons c r =>
    have := byte_all (fun c => decide (firstB [lowB c] = firstB [c])) (by decide +kernel) c
    exact of_decide_eq_true this
theorem rightS_low (s : ByteArray) : rightS (lowS s) = rightS s := by
  unfold rightS rightL
  have h1 : (lowS s).data.toList = lowL s.data.toList := rfl
  rw [h1, firstB_low]
  have h2 : (lowL s.data.toList).length = s.data.toList.length := by unfold lowL; simp
  have h3 : (lowL s.data.toList).all signB = s.data.toList.all signB := by
    unfold lowL
    rw [List.all_map]
    congr 1
    funext c
    exact signB_low c
  rw [h2, h3]
theorem okA_new {n v : ByteArray} (hn : rightS n = true) (hv : v.size ≤ 200) : okA ⟨lowS n, v⟩ = true := by
  unfold okA; simp only [rightS_low, hn, lowS_low, hv, decide_true, Bool.and_self]
theorem rightA_of {l : List AttrM} (h1 : l.length ≤ 40) (h2 : ∀ a ∈ l, okA a = true) (h3 : (l.map AttrM.name).Nodup) : rightA l = true := by
  unfold rightA
  rw [decide_eq_true h1, decide_eq_true h3, List.all_eq_true.2 h2]; rfl
theorem rightA_all {l : List AttrM} (h : rightA l = true) : l.length ≤ 40 ∧ (∀ a ∈ l, okA a = true) ∧ (l.map AttrM.name).Nodup := by
  unfold rightA at h; simp only [Bool.and_eq_true, decide_eq_true_eq, List.all_eq_true] at h; exact ⟨h.1.1, h.1.2, h.2⟩
/-- Names apart: two places of the same name are one. -/
theorem names_inj {l : List AttrM} (hn : (l.map AttrM.name).Nodup) {i j : Nat} {a b : AttrM} (ha : l[i]? = some a) (hb : l[j]? = some b) (e : a.name = b.name) : i = j := by
  have h1 := posA_at hn ha
  have h2 := posA_at hn hb
  rw [e] at h1; omega
theorem names_of {l : List AttrM} (h : ∀ (i j : Nat) (a b : AttrM), l[i]? = some a → l[j]? = some b → a.name = b.name → i = j) : (l.map AttrM.name).Nodup := by
  rw [nodup_pos]
  intro i a ha
  refine idxI_hit ha (by unfold hasName; simp) fun j x hj hx => ?_
  unfold hasName
  rw [decide_eq_false_iff_not]
  intro e
  have := h j i x a hx ha e
  omega
theorem mem_inj {l : List AttrM} (hn : (l.map AttrM.name).Nodup) {a b : AttrM} (ha : a ∈ l) (hb : b ∈ l) (e : a.name = b.name) : a = b := by
  obtain ⟨i, hi⟩ := List.getElem?_of_mem ha
  obtain ⟨j, hj⟩ := List.getElem?_of_mem hb
  have := names_inj hn hi hj e
  subst this; rw [hi] at hj; exact Option.some.inj hj
theorem nodup_of_names {l : List AttrM} (hn : (l.map AttrM.name).Nodup) : l.Nodup := by
  unfold List.Nodup at hn ⊢
  rw [List.pairwise_map] at hn
  exact hn.imp fun h e => h (by rw [e])
/-! #### what setting does -/
theorem set_get {l : List AttrM} {k : Nat} (hk : k < l.length) (x : AttrM) (i : Nat) : (l.set k x)[i]? = if i = k then some x else l[i]? := by
  by_cases h : i = k
  · subst h; simp [hk]
  · rw [if_neg h, List.getElem?_set_ne (by omega)]
theorem mem_set_iff {l : List AttrM} {k : Nat} {o : AttrM} (hn : (l.map AttrM.name).Nodup) (hk : l[k]? = some o) (v : ByteArray) (a : AttrM) : a ∈ l.set k ⟨o.name, v⟩ ↔ a = ⟨o.name, v⟩ ∨ (a ∈ l ∧ a.name ≠ o.name) := by
  have hkl := (List.getElem?_eq_some_iff.1 hk).1
  constructor
  · intro h
    obtain ⟨i, hi⟩ := List.getElem?_of_mem h
    rw [set_get hkl] at hi
    split at hi
    · exact .inl (Option.some.inj hi).symm
    · rename_i hne
      exact .inr ⟨List.mem_of_getElem? hi, fun e => hne (names_inj hn hi hk e)⟩
  · rintro (rfl | ⟨h1, h2⟩)
    · exact List.mem_of_getElem? (i := k) (by rw [set_get hkl, if_pos rfl])
    · obtain ⟨i, hi⟩ := List.getElem?_of_mem h1
      refine List.mem_of_getElem? (i := i) ?_
      rw [set_get hkl, if_neg, hi]
      rintro rfl
      rw [hi] at hk; cases hk; exact h2 rfl
theorem set_names {l : List AttrM} {k : Nat} {o : AttrM} (hk : l[k]? = some o) (v : ByteArray) : (l.set k ⟨o.name, v⟩).map AttrM.name = l.map AttrM.name := by
  apply List.ext_getElem?
  intro i
  have hkl := (List.getElem?_eq_some_iff.1 hk).1
  rw [List.getElem?_map, List.getElem?_map, set_get hkl]
  split
  · rename_i h; subst h; rw [hk]; rfl
  · rfl
structure SetOK (l : List AttrM) (n v : ByteArray) (m : List AttrM) : Prop where
  right : rightA m = true
  name : rightS n = true
  value : v.size ≤ 200
  mem : ∀ a, a ∈ m ↔ a = ⟨lowS n, v⟩ ∨ (a ∈ l ∧ a.name ≠ lowS n)
theorem findE_right {l : List AttrM} {n : ByteArray} (hr : rightA l = true) (hn : rightS n = true) : findE l n = 0 := by
  unfold findE; rw [if_pos hr, if_pos hn]
theorem set_ok {l : List AttrM} {n v : ByteArray} (h : (setA l n v).2 = 0) : rightA l = true ∧ SetOK l n v (setA l n v).1 := by
  unfold setA at h ⊢
  split at h
  · rename_i hE
    obtain ⟨h1, h2, _⟩ := findE_zero hE
    obtain ⟨r1, r2, r3⟩ := rightA_all h1
    refine ⟨h1, ?_⟩
    rw [if_pos hE]
    split at h
    · rename_i hv
      rw [if_pos hv]
      split at h
      · rename_i hP
        rw [if_pos hP]
        rw [findP_ref h1 h2] at hP ⊢
        rcases posA_cases l (lowS n) with ⟨e, _⟩ | ⟨k, o, e1, e2, e3⟩
        · omega
        · rw [e1, Int.toNat_natCast]
          rw [← e3]
          refine ⟨rightA_of (by simpa using r1) (fun a ha => ?_) (by rw [set_names e2]; exact r3), h2, hv, fun a => by rw [e3, ← e3]; exact mem_set_iff r3 e2 v a⟩
          rcases (mem_set_iff r3 e2 v a).1 ha with rfl | ⟨ha, _⟩
          · rw [e3]; exact okA_new h2 hv
          · exact r2 a ha
      · rename_i hP
        rw [if_neg hP]
        split at h
        · cases h
        · rename_i hl
          rw [if_neg hl]
          rw [findP_ref h1 h2] at hP
          have hno : ∀ a ∈ l, a.name ≠ lowS n := by
            rcases posA_cases l (lowS n) with ⟨_, e⟩ | ⟨k, o, e1, _, _⟩
            · exact e
            · omega
          refine ⟨rightA_of (by simp; omega) (fun a ha => ?_) ?_, h2, hv, fun a => ?_⟩
          · rcases List.mem_append.1 ha with ha | ha
            · exact r2 a ha
            · simp at ha; subst ha; exact okA_new h2 hv
          · rw [List.map_append, List.nodup_append]
            refine ⟨r3, by simp, fun x hx y hy => ?_⟩
            simp at hy; subst hy
            obtain ⟨a, ha, rfl⟩ := List.mem_map.1 hx
            exact hno a ha
          · rw [List.mem_append]
            constructor
            · rintro (h | h)
              · exact .inr ⟨h, hno a h⟩
              · simp at h; exact .inl h
            · rintro (h | h)
              · right; simp [h]
              · exact .inl h.1
    · cases h
  · exact absurd h (by assumption)
theorem set_fail {l : List AttrM} {n v : ByteArray} (h : (setA l n v).2 ≠ 0) : (setA l n v).1 = l := by
  unfold setA at h ⊢
  repeat' split
  all_goals simp_all
/-- When setting goes well. -/
theorem set_err {l : List AttrM} (hr : rightA l = true) (n v : ByteArray) : (setA l n v).2 = if rightS n then (if v.size ≤ 200 then (if (∃ a ∈ l, a.name = lowS n) ∨ l.length ≠ 40 then 0 else 3) else 3) else 4 := by
  cases hn : rightS n with
  | false => unfold setA findE; simp [hr, hn]
  | true =>
    unfold setA
    rw [if_pos (findE_right hr hn), findP_ref hr hn]
    simp only [if_true]
    split
    · rcases posA_cases l (lowS n) with ⟨e, hno⟩ | ⟨k, o, e1, e2, e3⟩
      · rw [e, if_neg (by omega)]
        by_cases hl : l.length = 40
        · rw [if_pos hl, if_neg]
          rintro (⟨a, ha, e⟩ | h)
          · exact hno a ha e
          · exact h hl
        · rw [if_neg hl, if_pos (.inr hl)]
      · rw [e1, if_pos (by omega), if_pos (.inl ⟨o, List.mem_of_getElem? e2, e3⟩)]
    · rfl
/-! #### what is got -/
theorem get_hit {l : List AttrM} {n v : ByteArray} (hr : rightA l = true) (hn : rightS n = true) (h : (⟨lowS n, v⟩ : AttrM) ∈ l) : getS l n = v ∧ 0 ≤ findP l n := by
  obtain ⟨i, hi⟩ := List.getElem?_of_mem h
  have h1 := posA_at (rightA_nodup hr) hi
  have h1 : posA l (lowS n) = i := h1
  unfold getS
  rw [findP_ref hr hn, h1]
  exact ⟨by rw [if_pos (by omega), Int.toNat_natCast, hi]; rfl, by omega⟩
theorem get_miss {l : List AttrM} {n : ByteArray} (h : rightA l = true → rightS n = true → ∀ a ∈ l, a.name ≠ lowS n) : getS l n = noS ∧ ¬ 0 ≤ findP l n := by
  have : findP l n = -1 := by
    cases hr : rightA l with
    | false => exact findP_bad (.inl hr)
    | true =>
      cases hn : rightS n with
      | false => exact findP_bad (.inr hn)
      | true =>
        rw [findP_ref hr hn]
        exact posA_miss (h hr hn)
  unfold getS
  rw [this]
  exact ⟨rfl, by omega⟩
/-- What is got hangs on who is of the name alone. -/
theorem get_ext {l m : List AttrM} {n : ByteArray} (hl : rightA l = true) (hm : rightA m = true) (h : ∀ a : AttrM, a.name = lowS n → (a ∈ l ↔ a ∈ m)) : getS l n = getS m n ∧ decide (0 ≤ findP l n) = decide (0 ≤ findP m n) := by
  cases hn : rightS n with
  | false =>
    obtain ⟨a, b⟩ := get_miss (l := l) (n := n) (fun _ h => by rw [hn] at h; cases h)
    obtain ⟨c, d⟩ := get_miss (l := m) (n := n) (fun _ h => by rw [hn] at h; cases h)
    rw [a, c, decide_eq_false b, decide_eq_false d]; exact ⟨rfl, rfl⟩
  | true =>
    by_cases hx : ∃ a ∈ l, a.name = lowS n
    · obtain ⟨⟨an, av⟩, ha, e⟩ := hx
      have e : an = lowS n := e
      subst e
      obtain ⟨a, b⟩ := get_hit hl hn ha
      obtain ⟨c, d⟩ := get_hit hm hn ((h _ rfl).1 ha)
      rw [a, c, decide_eq_true b, decide_eq_true d]; exact ⟨rfl, rfl⟩
    · obtain ⟨a, b⟩ := get_miss (l := l) (n := n) (fun _ _ x hx' e => hx ⟨x, hx', e⟩)
      obtain ⟨c, d⟩ := get_miss (l := m) (n := n) (fun _ _ x hx' e => hx ⟨x, (h x e).2 hx', e⟩)
      rw [a, c, decide_eq_false b, decide_eq_false d]; exact ⟨rfl, rfl⟩
/-! #### what removing does -/
theorem cut_get (l : List AttrM) (k i : Nat) : (cutA l k)[i]? = if i < k then l[i]? else l[i + 1]? := by
  unfold cutA
  rw [List.getElem?_append, List.length_take, List.getElem?_take, List.getElem?_drop]
  by_cases h : i < k
  · by_cases h2 : i < l.length
    · rw [if_pos (by omega), if_pos h, if_pos h]
    · rw [if_neg (by omega), if_pos h, List.getElem?_eq_none (by omega), List.getElem?_eq_none (by omega)]
  · rw [if_neg (by omega), if_neg h]
    by_cases h2 : k ≤ l.length
    · congr 1; omega
    · rw [List.getElem?_eq_none (by omega), List.getElem?_eq_none (by omega)]
theorem mem_cut_iff {l : List AttrM} {k : Nat} {o : AttrM} (hn : (l.map AttrM.name).Nodup) (hk : l[k]? = some o) (a : AttrM) : a ∈ cutA l k ↔ a ∈ l ∧ a.name ≠ o.name := by
  constructor
  · intro h
    obtain ⟨i, hi⟩ := List.getElem?_of_mem h
    rw [cut_get] at hi
    split at hi
    · exact ⟨List.mem_of_getElem? hi, fun e => by have := names_inj hn hi hk e; omega⟩
    · exact ⟨List.mem_of_getElem? hi, fun e => by have := names_inj hn hi hk e; omega⟩
  · rintro ⟨h1, h2⟩
    obtain ⟨i, hi⟩ := List.getElem?_of_mem h1
    have hik : i ≠ k := by rintro rfl; rw [hi] at hk; cases hk; exact h2 rfl
    by_cases h : i < k
    · exact List.mem_of_getElem? (i := i) (by rw [cut_get, if_pos h, hi])
    · obtain ⟨j, rfl⟩ : ∃ j, i = j + 1 := ⟨i - 1, by omega⟩
      exact List.mem_of_getElem? (i := j) (by rw [cut_get, if_neg (by omega), hi])
theorem cut_names {l : List AttrM} {k : Nat} (hn : (l.map AttrM.name).Nodup) : ((cutA l k).map AttrM.name).Nodup := by
  refine names_of fun i j a b ha hb e => ?_
  rw [cut_get] at ha hb
  split at ha <;> split at hb <;> (have := names_inj hn ha hb e; omega)
theorem remove_ok {l : List AttrM} {n : ByteArray} (h : 0 ≤ findP l n) : rightA (removeA l n).1 = true ∧ (removeA l n).1.length + 1 = l.length ∧ ∀ a, a ∈ (removeA l n).1 ↔ a ∈ l ∧ a.name ≠ lowS n := by
  obtain ⟨hE, _⟩ := findE_pos h
  obtain ⟨h1, h2, _⟩ := findE_zero hE
  obtain ⟨r1, r2, r3⟩ := rightA_all h1
  unfold removeA
  rw [if_pos h]
  rw [findP_ref h1 h2] at h ⊢
  rcases posA_cases l (lowS n) with ⟨e, _⟩ | ⟨k, o, e1, e2, e3⟩
  · omega
  · rw [e1, Int.toNat_natCast]
    have hk := (List.getElem?_eq_some_iff.1 e2).1
    have hm := mem_cut_iff r3 e2
    have hlen := cutA_len hk
    rw [e3] at hm
    refine ⟨rightA_of (by show (cutA l k).length ≤ 40; omega) (fun a ha => r2 a ((hm a).1 ha).1) (cut_names r3), by show (cutA l k).length + 1 = _; omega, hm⟩
theorem setA_len (l : List AttrM) (n v : ByteArray) : (setA l n v).1.length ≤ l.length + 1 := by
  unfold setA; repeat' split
  all_goals simp
theorem removeA_len (l : List AttrM) (n : ByteArray) : (removeA l n).1.length ≤ l.length := by
  unfold removeA; split
  · simp [cutA]; omega
  · simp
theorem toggleA_len (l : List AttrM) (n : ByteArray) (f : Int) : (toggleA l n f).1.length ≤ l.length + 1 := by
  have h1 := setA_len l n noS
  have h2 := removeA_len l n
  unfold toggleA; repeat' split
  all_goals (try dsimp only)
  all_goals omega
theorem removeA_snd (l : List AttrM) (n : ByteArray) : (removeA l n).2 = decide (0 ≤ findP l n) := by
  unfold removeA; split <;> simp_all
end Go.Proofs.Attr
end
section
namespace Go.Proofs.Attr
open Go.Am Go.RowKit Go.Lib
/-! ### a list of attributes as a table of 26 names, in an order -/
def nm (k : Nat) : ByteArray := ⟨#[UInt8.ofNat (97 + k)]⟩
theorem nm_right : ∀ k < 26, rightS (nm k) = true := by decide +kernel
theorem nm_low : ∀ k < 26, lowS (nm k) = nm k := by decide +kernel
theorem nm_inj {i j : Nat} (hi : i < 26) (hj : j < 26) (h : nm i = nm j) : i = j := by
  have h1 : (nm i).data.toList = (nm j).data.toList := by rw [h]
  have h2 : UInt8.ofNat (97 + i) = UInt8.ofNat (97 + j) := by simpa [nm] using h1
  have h3 := congrArg UInt8.toNat h2
  simp at h3
  omega
def tabM (o : List Nat) (f : Nat → ByteArray) : List AttrM := o.map fun k => ⟨nm k, f k⟩
structure OkT (o : List Nat) (f : Nat → ByteArray) : Prop where
  nodup : o.Nodup
  lt : ∀ k ∈ o, k < 26
  size : ∀ k, (f k).size ≤ 200
def upd (f : Nat → ByteArray) (k : Nat) (v : ByteArray) : Nat → ByteArray := fun j => if j = k then v else f j
theorem nodup_at {o : List Nat} (h : o.Nodup) {i j k : Nat} (hi : o[i]? = some k) (hj : o[j]? = some k) : i = j :=
  (List.getElem?_inj (List.getElem?_eq_some_iff.1 hi).1 h).1 (hi.trans hj.symm)
theorem nodup_le : ∀ (n : Nat) (o : List Nat), o.Nodup → (∀ k ∈ o, k < n) → o.length ≤ n
  | 0, o, _, h => by
    cases o with
    | nil => simp
    | cons x r => exact absurd (h x (by simp)) (by omega)
  | n + 1, o, hn, h => by
    have h1 := nodup_le n (o.erase n) (hn.erase n) fun k hk => by
      have := (hn.mem_erase_iff).1 hk
      have := h k this.2
      omega
    have h2 : o.length ≤ (o.erase n).length + 1 := by rw [List.length_erase]; split <;> omega
    omega
theorem tab_get {o : List Nat} {f : Nat → ByteArray} {i : Nat} {k : Nat} (h : o[i]? = some k) : (tabM o f)[i]? = some ⟨nm k, f k⟩ := by
  unfold tabM; rw [List.getElem?_map, h]; rfl
theorem tab_at {o : List Nat} {f : Nat → ByteArray} {i : Nat} {a : AttrM} (h : (tabM o f)[i]? = some a) : ∃ k, o[i]? = some k ∧ a = ⟨nm k, f k⟩ := by
  unfold tabM at h
  rw [List.getElem?_map] at h
  cases ho : o[i]? with
  | none => rw [ho] at h; cases h
  | some k => rw [ho] at h; cases h; exact ⟨k, rfl, rfl⟩
theorem tab_len (o : List Nat) (f : Nat → ByteArray) : (tabM o f).length = o.length := by simp [tabM]
section
variable {o : List Nat} {f : Nat → ByteArray} {k : Nat} {v : ByteArray}
theorem OkT.len (h : OkT o f) : o.length ≤ 26 := nodup_le 26 o h.nodup h.lt
theorem tab_right (h : OkT o f) : rightA (tabM o f) = true := by
  have hl := h.len
  refine rightA_of (by rw [tab_len]; omega) (fun a ha => ?_) (names_of fun i j a b ha hb he => ?_)
  · obtain ⟨k, hk, rfl⟩ := List.mem_map.1 ha
    unfold okA
    simp [nm_right k (h.lt k hk), nm_low k (h.lt k hk), h.size k]
  · obtain ⟨p, hp, rfl⟩ := tab_at ha
    obtain ⟨q, hq, rfl⟩ := tab_at hb
    have := nm_inj (h.lt p (List.mem_of_getElem? hp)) (h.lt q (List.mem_of_getElem? hq)) he
    subst this
    exact nodup_at h.nodup hp hq
theorem tab_find (h : OkT o f) (hk : k < 26) : (k ∉ o ∧ findP (tabM o f) (nm k) = -1) ∨ ∃ i : Nat, o[i]? = some k ∧ findP (tabM o f) (nm k) = (i : Int) := by
  rw [findP_ref (tab_right h) (nm_right k hk), nm_low k hk]
  rcases posA_cases (tabM o f) (nm k) with ⟨h1, h2⟩ | ⟨i, a, h1, h2, h3⟩
  · exact .inl ⟨fun hm => h2 ⟨nm k, f k⟩ (List.mem_map.2 ⟨k, hm, rfl⟩) rfl, h1⟩
  · obtain ⟨p, hp, rfl⟩ := tab_at h2
    have := nm_inj (h.lt p (List.mem_of_getElem? hp)) hk h3
    subst this
    exact .inr ⟨i, hp, h1⟩
theorem tab_findE (h : OkT o f) (hk : k < 26) : findE (tabM o f) (nm k) = 0 := by simp [findE, tab_right h, nm_right k hk]
theorem set_old (h : OkT o f) {i : Nat} (hi : o[i]? = some k) : (tabM o f).set i ⟨nm k, v⟩ = tabM o (upd f k v) := by
  have hlt := (List.getElem?_eq_some_iff.1 hi).1
  apply List.ext_getElem?
  intro j
  rw [set_get (by rw [tab_len]; exact hlt)]
  split
  · rename_i e; subst e
    rw [tab_get hi]; simp [upd]
  · rename_i e
    unfold tabM
    rw [List.getElem?_map, List.getElem?_map]
    cases hj : o[j]? with
    | none => rfl
    | some p =>
      have : p ≠ k := fun hp => e (nodup_at h.nodup (by rw [hj, hp]) hi)
      simp [upd, this]
theorem tab_upd (hk : k ∉ o) : tabM o (upd f k v) = tabM o f := by
  unfold tabM
  apply List.map_congr_left
  intro j hj
  have : j ≠ k := fun e => hk (e ▸ hj)
  simp [upd, this]
theorem set_new (hk : k ∉ o) : tabM o f ++ [⟨nm k, v⟩] = tabM (o ++ [k]) (upd f k v) := by
  have : tabM (o ++ [k]) (upd f k v) = tabM o (upd f k v) ++ [⟨nm k, v⟩] := by unfold tabM; simp [upd]
  rw [this, tab_upd hk]
theorem set_tab (h : OkT o f) (hk : k < 26) (hv : v.size ≤ 200) : setA (tabM o f) (nm k) v = (tabM (if k ∈ o then o else o ++ [k]) (upd f k v), 0) := by
  unfold setA
  rw [if_pos (tab_findE h hk), if_pos hv, nm_low k hk]
  rcases tab_find h hk with ⟨h1, h2⟩ | ⟨i, h1, h2⟩
  · have hl := h.len
    rw [h2, if_neg (by omega), if_neg (by rw [tab_len]; omega), if_neg h1, set_new h1]
  · rw [h2, if_pos (by omega), if_pos (List.mem_of_getElem? h1)]
    simp only [Int.toNat_natCast]
    rw [set_old h h1]
def cutO (o : List Nat) (k : Nat) : List Nat := o.filter (fun j => !decide (j = k))
theorem cut_none (hk : k ∉ o) : cutO o k = o := by
  unfold cutO
  rw [List.filter_eq_self]
  intro j hj
  have : j ≠ k := fun e => hk (e ▸ hj)
  simp [this]
theorem mem_cutO {j : Nat} : j ∈ cutO o k ↔ j ∈ o ∧ j ≠ k := by unfold cutO; simp
theorem cut_tab (h : OkT o f) (hk : k < 26) {i : Nat} (hi : o[i]? = some k) : cutA (tabM o f) i = tabM (cutO o k) f := by
  rw [← filter_cut (n := nm k) ((rightA_all (tab_right h)).2.2) (tab_get hi) rfl]
  unfold restA tabM cutO
  rw [List.filter_map]
  congr 1
  apply List.filter_congr
  intro j hj
  unfold hasName
  simp only [Function.comp]
  congr 1
  rw [decide_eq_decide]
  exact ⟨fun e => nm_inj (h.lt j hj) hk e, fun e => by rw [e]⟩
theorem remove_tab (h : OkT o f) (hk : k < 26) : removeA (tabM o f) (nm k) = (tabM (cutO o k) f, decide (k ∈ o)) := by
  unfold removeA
  rcases tab_find h hk with ⟨h1, h2⟩ | ⟨i, h1, h2⟩
  · rw [h2, if_neg (by omega), decide_eq_false h1, cut_none h1]
  · rw [h2, if_pos (by omega), decide_eq_true (List.mem_of_getElem? h1)]
    simp only [Int.toNat_natCast]
    rw [cut_tab h hk h1]
theorem noS_size : noS.size ≤ 200 := by decide
theorem toggle_tab (h : OkT o f) (hk : k < 26) : toggleA (tabM o f) (nm k) 0 = if k ∈ o then (tabM (cutO o k) f, false, 0) else (tabM (o ++ [k]) (upd f k noS), true, 0) := by
  unfold toggleA
  rw [if_pos (tab_findE h hk), set_tab h hk noS_size, remove_tab h hk]
  unfold wantA
  rcases tab_find h hk with ⟨h1, h2⟩ | ⟨i, h1, h2⟩
  · rw [h2, if_neg h1, if_neg h1]; simp
  · have hm := List.mem_of_getElem? h1
    rw [h2, if_pos hm]; simp [hm]
theorem OkT.upd (h : OkT o f) (hv : v.size ≤ 200) : OkT o (upd f k v) := ⟨h.nodup, h.lt, fun j => by unfold Attr.upd; split; exact hv; exact h.size j⟩
theorem OkT.snoc (h : OkT o f) (hk : k < 26) (hm : k ∉ o) : OkT (o ++ [k]) f := by
  refine ⟨?_, fun j hj => ?_, h.size⟩
  · rw [List.nodup_append]
    refine ⟨h.nodup, by simp, fun a ha b hb e => ?_⟩
    simp at hb; subst hb; subst e; exact hm ha
  · rcases List.mem_append.1 hj with hj | hj
    · exact h.lt j hj
    · simp at hj; omega
theorem OkT.cut (h : OkT o f) : OkT (cutO o k) f := ⟨h.nodup.sublist List.filter_sublist, fun j hj => h.lt j (mem_cutO.1 hj).1, h.size⟩
end
theorem OkT.nil : OkT [] (fun _ => noS) := ⟨List.nodup_nil, fun _ h => by simp at h, fun _ => noS_size⟩
/-! ### the two tables of the law -/
def oBool (b : Bool) : AV := .lit (.bool b)
def oS (s : ByteArray) : AV := eStr s
def oNat (k : Nat) : AV := eInt k
def hasR (o : List Nat) : List AV := (List.range 26).map fun j => oBool (decide (j ∈ o))
def valR (f : Nat → ByteArray) : List AV := (List.range 26).map fun j => oS (f j)
def ordR (o : List Nat) : List AV := o.map oNat
theorem range_get {k : Nat} (h : k < 26) : (List.range 26)[k]? = some k := by rw [List.getElem?_range h]
theorem hasR_get {o : List Nat} {k : Nat} (h : k < 26) : (hasR o)[k]? = some (eBool (decide (k ∈ o))) := by unfold hasR; rw [List.getElem?_map, range_get h]; rfl
theorem valR_get {f : Nat → ByteArray} {k : Nat} (h : k < 26) : (valR f)[k]? = some (eStr (f k)) := by unfold valR; rw [List.getElem?_map, range_get h]; rfl
theorem ordR_get {o : List Nat} {i k : Nat} (h : o[i]? = some k) : (ordR o)[i]? = some (eInt k) := by unfold ordR; rw [List.getElem?_map, h]; rfl
theorem set_range {g g' : Nat → AV} {k : Nat} {x : AV} (hk : g' k = x) (h : ∀ j, j ≠ k → g' j = g j) : ((List.range 26).map g).set k x = (List.range 26).map g' := by
  apply List.ext_getElem?
  intro j
  by_cases hj : j = k
  · subst hj
    by_cases hl : j < 26
    · simp [hl, hk]
    · simp [hl]
  · rw [List.getElem?_set_ne (by omega), List.getElem?_map, List.getElem?_map]
    by_cases hl : j < 26
    · rw [range_get hl]; simp [h j hj]
    · simp [hl]
theorem hasR_set {o o' : List Nat} {k : Nat} {b : Bool} (hk : decide (k ∈ o') = b) (h : ∀ j, j ≠ k → (j ∈ o' ↔ j ∈ o)) : (hasR o).set k (eBool b) = hasR o' :=
  set_range (g' := fun j => oBool (decide (j ∈ o'))) (by rw [← hk]; rfl) fun j hj => by simp only [decide_eq_decide.2 (h j hj)]
theorem valR_set {f : Nat → ByteArray} {k : Nat} {v : ByteArray} : (valR f).set k (eStr v) = valR (upd f k v) :=
  set_range (g' := fun j => oS (upd f k v j)) (by unfold upd; rw [if_pos rfl]; rfl) fun j hj => by unfold upd; rw [if_neg hj]
theorem noRef_map {α : Type} {g : α → AV} (h : ∀ a, noRef (g a) = true) (l : List α) : noRefL (l.map g) = true := by
  rw [noRefL_iff]; intro x hx
  obtain ⟨a, _, rfl⟩ := List.mem_map.1 hx
  exact h a
theorem noRef_has (o : List Nat) : noRefL (hasR o) = true := noRef_map (fun _ => rfl) _
theorem noRef_val (f : Nat → ByteArray) : noRefL (valR f) = true := noRef_map (fun _ => rfl) _
theorem noRef_ord (o : List Nat) : noRefL (ordR o) = true := noRef_map (fun _ => rfl) _
theorem ord_len (o : List Nat) : (ordR o).length = o.length := by simp [ordR]
theorem ord_snoc (o : List Nat) (k : Nat) : ordR o ++ [eInt k] = ordR (o ++ [k]) := by unfold ordR; rw [List.map_append]; rfl
theorem cut_succ {o : List Nat} {j k p : Nat} (h : o[j]? = some p) : cutO (o.take (j + 1)) k = if p = k then cutO (o.take j) k else cutO (o.take j) k ++ [p] := by
  have hk := (List.getElem?_eq_some_iff.1 h).1
  rw [List.take_succ_eq_append_getElem hk, (List.getElem?_eq_some_iff.1 h).2]
  unfold cutO
  rw [List.filter_append]
  by_cases e : p = k <;> simp [e]
theorem cut_len (o : List Nat) (j k : Nat) : (cutO (o.take j) k).length ≤ j := by
  unfold cutO
  refine Nat.le_trans (List.length_filter_le ..) ?_
  simp; omega
end Go.Proofs.Attr
end
