/- Models, plain laws and contracts of functions of the given program; conditions as stated in each theorem. By an AI agent. -/
import Derived.Test.YtpogpigciaajoaaGreatDoorW5
import Derived.Laws.StructEq
import Derived.Tactics
import Derived.Test.YtpogpigciaajoaaGreatDoorW4
import Derived.Laws.Runes
import Derived.Test.YtpogpigciaajoaaGreatDoorW1
import Derived.Test.YtpogpigciaajoaaGreatDoorRows
import Derived.ProofKit
import Derived.LaidMore
import Derived.OpenShut
import Derived.Stop.Joined
import Derived.Lib.LaidTab
import Derived.MakeChecks
section
set_option linter.unusedSimpArgs false
set_option linter.unusedVariables false
namespace Go.Proofs.Heir
open Go.Am Go.RowKit Go.Lib
set_option maxRecDepth 100000
set_option maxHeartbeats 8000000
structure SmallD (d : DeskM) : Prop where
  defs : d.defs.length ≤ 100000
  waits : d.waits.length ≤ 100000
theorem right_defs {d : DeskM} (h : rightD d = true) : defsB d.defs = true := (rightD_iff.1 h).1
theorem findR_none {l : List DefM} {a b : ByteArray} (h : defsB l = true) (ha : ∀ (k : Nat) (x : DefM), l[k]? = some x → x.name = a → x.locl ≠ a) (hb : ∀ (k : Nat) (x : DefM), l[k]? = some x → x.name = b → x.locl ≠ a) : findR l a b = -1 := by
  rcases findR_cases l a b with ⟨h1, _⟩ | ⟨j, y, _, h2, h3⟩
  · exact h1
  · obtain ⟨g1, g2⟩ := fitsB_iff.1 h3
    rcases g2 with g2 | g2
    · exact absurd g1 (ha j y h2 g2)
    · exact absurd g1 (hb j y h2 g2)
theorem only_name {l : List DefM} (h : defsB l = true) {k : Nat} {x : DefM} {s v : ByteArray} (hx : l[k]? = some x) (hn : x.name = s) (hv : x.locl ≠ v) : ∀ (j : Nat) (y : DefM), l[j]? = some y → y.name = s → y.locl ≠ v := fun j y hy he => by
  have := nodup_ix (defsB_iff.1 h).2.1 hx hy (hn.trans he.symm)
  subst this; rw [hx] at hy; cases hy; exact hv
theorem no_name {l : List DefM} {s v : ByteArray} (h : posN l s = -1) : ∀ (j : Nat) (y : DefM), l[j]? = some y → y.name = s → y.locl ≠ v := fun j y hy he => absurd he (posN_no h y (List.mem_of_getElem? hy))
theorem f105_ok (d : DeskM) (h : SmallD d) (a b : ByteArray) : FnOK Tryz.prog 105 [] [eDesk d, eStr a, eStr b] [] (eInt (findD d a b)) := by
  have h29 := f98_ok d h.defs h.waits
  have hrd := @right_defs d
  unfold findD
  obtain ⟨r, hr⟩ : ∃ r, rightD d = r := ⟨_, rfl⟩
  rw [hr] at h29 hrd ⊢
  obtain ⟨l, ws, nx, bz⟩ := d
  refine FnOK.startC (rvs := [.tmp 6]) G G_good Tryz.func105 rfl Tryz.ntmps105 rfl rfl ?_; with_reducible refine wD ?_
  refine CallK.new 151 [] h29 c98 ⟨⟨rfl, rfl, rfl, rfl, trivial⟩, trivial⟩ rfl rfl rfl (outs_read _) rfl ?_; with_reducible refine wK ?_
  cases r with
  | false => ((have fct := hr; (repeat' (first
    | refine gF ?_
    | ((with_reducible show (_ ∧ _) ∧ _ ∧ _); (refine eK ?_ ?_ <;> with_reducible repeat' (first | exact trivial | (show _ ∧ _; refine aK ?_ ?_)))))); all_goals clear fct)) <;> rfl
  | true =>
    have hd := hrd rfl
    rw [if_pos rfl]
    simp only at hd ⊢
    have second : ∀ (k : Nat) (y : DefM), l[k]? = some y → y.name = b → y.locl = a → findR l a b = k := fun k y hy he hl => findR_at hd hy (fitsB_iff.2 ⟨hl, .inr he⟩)
    refine IfK.ff ?_; with_reducible refine wK ?_
    refine LookK.tab Value.string oInt (ixT kN (procL l)) (k := a) (zv := eInt 0) map62 ⟨_, _, rfl⟩ key_str inj_str rfl rfl (fun x hxx => ?_) (fun hxx => ?_)
    · rw [show oInt x = eInt x from rfl]
      with_reducible refine wK ?_
      rcases tgetP hd a with ⟨a1, _⟩ | ⟨j, ⟨yn, yl, yc⟩, a1, a2, a3, a4⟩
      · rw [hxx] at a1; cases a1
      rw [hxx] at a1; cases a1
      simp only at a4
      refine IfK.tt ?_; with_reducible refine wK ?_
      refine IdxK.mk j (eDef ⟨yn, yl, yc⟩) rfl (def_get a3) ?_; with_reducible refine wK ?_
      by_cases hl : yl = a
      · have hf := findR_at (b := b) hd a3 (fitsB_iff.2 ⟨hl, .inl a4⟩)
        rw [hf]
        (have fct := hl; (repeat' (first
    | refine gF ?_
    | ((with_reducible show (_ ∧ _) ∧ _ ∧ _); (refine eK ?_ ?_ <;> with_reducible repeat' (first | exact trivial | (show _ ∧ _; refine aK ?_ ?_)))))); all_goals clear fct)
      · have n1 := only_name hd a3 a4 hl
        refine IfK.no (decide_eq_false hl) ?_; with_reducible refine wK ?_
        refine LookK.tab Value.string oInt (ixT kN (procL l)) (k := b) (zv := eInt 0) map62 ⟨_, _, rfl⟩ key_str inj_str rfl rfl (fun x hxx => ?_) (fun hxx => ?_)
        · rw [show oInt x = eInt x from rfl]
          with_reducible refine wK ?_
          rcases tgetP hd b with ⟨b1, _⟩ | ⟨i, ⟨zn, zl, zc⟩, b1, b2, b3, b4⟩
          · rw [hxx] at b1; cases b1
          rw [hxx] at b1; cases b1
          refine IfK.tt ?_; with_reducible refine wK ?_
          refine IdxK.mk i (eDef ⟨zn, zl, zc⟩) rfl (def_get b3) ?_; with_reducible refine wK ?_
          by_cases hz : zl = a
          · have hf := second i _ b3 b4 hz
            rw [hf]
            (have fct := hz; (repeat' (first
    | refine gF ?_
    | ((with_reducible show (_ ∧ _) ∧ _ ∧ _); (refine eK ?_ ?_ <;> with_reducible repeat' (first | exact trivial | (show _ ∧ _; refine aK ?_ ?_)))))); all_goals clear fct)
          · rw [findR_none hd n1 (only_name hd b3 b4 hz)]
            (have fct := hz; (repeat' (first
    | refine gF ?_
    | ((with_reducible show (_ ∧ _) ∧ _ ∧ _); (refine eK ?_ ?_ <;> with_reducible repeat' (first | exact trivial | (show _ ∧ _; refine aK ?_ ?_)))))); all_goals clear fct)
        · with_reducible refine wK ?_
          rcases tgetP hd b with ⟨_, b1⟩ | ⟨i, y, b1, _⟩
          · rw [findR_none hd n1 (no_name b1)]
            (have fct := b1; (repeat' (first
    | refine gF ?_
    | ((with_reducible show (_ ∧ _) ∧ _ ∧ _); (refine eK ?_ ?_ <;> with_reducible repeat' (first | exact trivial | (show _ ∧ _; refine aK ?_ ?_)))))); all_goals clear fct)
          · rw [hxx] at b1; cases b1
    · with_reducible refine wK ?_
      rcases tgetP hd a with ⟨_, a1⟩ | ⟨j, y, a1, _⟩
      · have n1 : ∀ (k : Nat) (x : DefM), l[k]? = some x → x.name = a → x.locl ≠ a := no_name a1
        refine IfK.ff ?_; with_reducible refine wK ?_
        refine IfK.ff ?_; with_reducible refine wK ?_
        refine LookK.tab Value.string oInt (ixT kN (procL l)) (k := b) (zv := eInt 0) map62 ⟨_, _, rfl⟩ key_str inj_str rfl rfl (fun x hxx => ?_) (fun hxx => ?_)
        · rw [show oInt x = eInt x from rfl]
          with_reducible refine wK ?_
          rcases tgetP hd b with ⟨b1, _⟩ | ⟨i, ⟨zn, zl, zc⟩, b1, b2, b3, b4⟩
          · rw [hxx] at b1; cases b1
          rw [hxx] at b1; cases b1
          refine IfK.tt ?_; with_reducible refine wK ?_
          refine IdxK.mk i (eDef ⟨zn, zl, zc⟩) rfl (def_get b3) ?_; with_reducible refine wK ?_
          by_cases hz : zl = a
          · have hf := second i _ b3 b4 hz
            rw [hf]
            (have fct := hz; (repeat' (first
    | refine gF ?_
    | ((with_reducible show (_ ∧ _) ∧ _ ∧ _); (refine eK ?_ ?_ <;> with_reducible repeat' (first | exact trivial | (show _ ∧ _; refine aK ?_ ?_)))))); all_goals clear fct)
          · rw [findR_none hd n1 (only_name hd b3 b4 hz)]
            (have fct := hz; (repeat' (first
    | refine gF ?_
    | ((with_reducible show (_ ∧ _) ∧ _ ∧ _); (refine eK ?_ ?_ <;> with_reducible repeat' (first | exact trivial | (show _ ∧ _; refine aK ?_ ?_)))))); all_goals clear fct)
        · with_reducible refine wK ?_
          rcases tgetP hd b with ⟨_, b1⟩ | ⟨i, y, b1, _⟩
          · rw [findR_none hd n1 (no_name b1)]
            (have fct := b1; (repeat' (first
    | refine gF ?_
    | ((with_reducible show (_ ∧ _) ∧ _ ∧ _); (refine eK ?_ ?_ <;> with_reducible repeat' (first | exact trivial | (show _ ∧ _; refine aK ?_ ?_)))))); all_goals clear fct)
          · rw [hxx] at b1; cases b1
      · rw [hxx] at a1; cases a1
end Go.Proofs.Heir
end
section
set_option linter.unusedSimpArgs false
set_option linter.unusedVariables false
namespace Go.Proofs.Heir
open Go.Am Go.RowKit Go.Lib
set_option maxRecDepth 100000
set_option maxHeartbeats 8000000
section
variable {d : DeskM} {k c : Int} {s base : ByteArray}
theorem may1 (h : rightD d = false ∨ c < 0 ∨ k ≤ c ∨ 12 ≤ c) : mayD d k s base c = 1 := by
  unfold mayD
  rw [if_pos]
  rcases h with h | h | h | h
  · rw [h]; rfl
  · rw [show decide (0 ≤ c) = false from decide_eq_false (by omega)]; simp
  · rw [show decide (c < k) = false from decide_eq_false (by omega)]; simp
  · rw [show decide (c < 12) = false from decide_eq_false (by omega)]; simp
structure MayR (d : DeskM) (k c : Int) : Prop where
  r : rightD d = true
  c0 : 0 ≤ c
  ck : c < k
  c12 : c < 12
theorem MayR.b (h : MayR d k c) : ¬ (rightD d && decide (0 ≤ c) && decide (c < k) && decide (c < 12)) = false := by
  rw [h.r, decide_eq_true h.c0, decide_eq_true h.ck, decide_eq_true h.c12]; simp
theorem may4 (h : MayR d k c) (h1 : customS s = false) : mayD d k s base c = 4 := by
  unfold mayD; rw [if_neg h.b, if_pos h1]
theorem may10 (h : MayR d k c) (h1 : customS s = true) (h2 : 0 ≤ posN d.defs s ∨ 0 ≤ posC d.defs c) : mayD d k s base c = 10 := by
  unfold mayD; rw [if_neg h.b, if_neg (by simp [h1]), if_pos h2]
theorem may6 (h : MayR d k c) (h1 : customS s = true) (h2 : posN d.defs s = -1) (h3 : posC d.defs c = -1) (h4 : base ≠ emptyS) (h5 : knowS base = false) : mayD d k s base c = 6 := by
  unfold mayD; rw [if_neg h.b, if_neg (by simp [h1]), if_neg (by omega), if_pos ⟨h4, h5⟩]
theorem may7 (h : MayR d k c) (h1 : customS s = true) (h2 : posN d.defs s = -1) (h3 : posC d.defs c = -1) (h4 : base = emptyS ∨ knowS base = true) (h5 : d.busy = true) : mayD d k s base c = 7 := by
  unfold mayD; rw [if_neg h.b, if_neg (by simp [h1]), if_neg (by omega), if_neg (by rintro ⟨a, b⟩; rcases h4 with h4 | h4; exact a h4; rw [h4] at b; cases b), if_pos h5]
theorem may0 (h : MayR d k c) (h1 : customS s = true) (h2 : posN d.defs s = -1) (h3 : posC d.defs c = -1) (h4 : base = emptyS ∨ knowS base = true) (h5 : d.busy = false) : mayD d k s base c = 0 := by
  unfold mayD; rw [if_neg h.b, if_neg (by simp [h1]), if_neg (by omega), if_neg (by rintro ⟨a, b⟩; rcases h4 with h4 | h4; exact a h4; rw [h4] at b; cases b), if_neg (by simp [h5])]
end
theorem empty_ne {s : ByteArray} (h : s ≠ emptyS) : ¬ s = ⟨⟨[]⟩⟩ := h
theorem e0 : (emptyS = (⟨⟨[]⟩⟩ : ByteArray)) = True := eq_true rfl
theorem f55_ok (d : DeskM) (h : SmallD d) (k : Int) (s base : ByteArray) (c : Int) : FnOK Tryz.prog 55 [] [eDesk d, eInt k, eStr s, eStr base, eInt c] [] (eInt (mayD d k s base c)) := by
  have h29 := f98_ok d h.defs h.waits
  have hrd := @right_defs d
  obtain ⟨r, hr⟩ : ∃ r, rightD d = r := ⟨_, rfl⟩
  rw [hr] at h29 hrd
  obtain ⟨l, ws, nx, bz⟩ := d
  refine FnOK.startC (rvs := [.tmp 10]) G G_good Tryz.func55 rfl Tryz.ntmps55 rfl rfl ?_; with_reducible refine wD ?_
  refine CallK.new 191 [] h29 c98 ⟨⟨rfl, rfl, rfl, rfl, trivial⟩, trivial⟩ rfl rfl rfl (outs_read _) rfl ?_; with_reducible refine wK ?_
  refine LookK.tab Value.string oInt (ixT kN (procL l)) (k := s) (zv := eInt 0) map62 ⟨_, _, rfl⟩ key_str inj_str rfl rfl (fun x hxx => ?_) (fun hxx => ?_)
  · rw [show oInt x = eInt x from rfl]
    with_reducible refine wK ?_
    refine LookK.tab vInt oInt (ixT kC (procL l)) (k := c) (zv := eInt 0) map63 ⟨_, _, rfl⟩ key_int inj_int rfl rfl (fun y hyy => ?_) (fun hyy => ?_)
    · rw [show oInt y = eInt y from rfl]
      with_reducible refine wK ?_
      cases r with
      | false =>
        rw [may1 (.inl hr)]
        (have fct := hr; (repeat' (first
    | refine gF ?_
    | ((with_reducible show (_ ∧ _) ∧ _ ∧ _); (refine eK ?_ ?_ <;> with_reducible repeat' (first | exact trivial | (show _ ∧ _; refine aK ?_ ?_)))))); all_goals clear fct)
      | true =>
        by_cases g2 : c < 0
        · rw [may1 (.inr (.inl g2))]
          (have fct := g2; (repeat' (first
    | refine gF ?_
    | ((with_reducible show (_ ∧ _) ∧ _ ∧ _); (refine eK ?_ ?_ <;> with_reducible repeat' (first | exact trivial | (show _ ∧ _; refine aK ?_ ?_)))))); all_goals clear fct)
        · by_cases g3 : k ≤ c
          · rw [may1 (.inr (.inr (.inl g3)))]
            (have fct := And.intro g2 (g3); (repeat' (first
    | refine gF ?_
    | ((with_reducible show (_ ∧ _) ∧ _ ∧ _); (refine eK ?_ ?_ <;> with_reducible repeat' (first | exact trivial | (show _ ∧ _; refine aK ?_ ?_)))))); all_goals clear fct)
          · by_cases g4 : 12 ≤ c
            · rw [may1 (.inr (.inr (.inr g4)))]
              (have fct := And.intro g2 (And.intro g3 (g4)); (repeat' (first
    | refine gF ?_
    | ((with_reducible show (_ ∧ _) ∧ _ ∧ _); (refine eK ?_ ?_ <;> with_reducible repeat' (first | exact trivial | (show _ ∧ _; refine aK ?_ ?_)))))); all_goals clear fct)
            · have hR : MayR ⟨l, ws, nx, bz⟩ k c := ⟨hr, by omega, by omega, by omega⟩
              have hd : defsB l = true := hrd rfl
              cases hc : customS s with
              | false =>
                rw [may4 hR hc]
                (have fct := And.intro g2 (And.intro g3 (g4)); (repeat' (first
    | refine gF ?_
    | (((with_reducible show CallK _ _ 91 _ _ _ _); refine CallK.lit [] (f91_at hc) c91 ⟨rfl, trivial⟩ rfl rfl ?_) <;> with_reducible refine wK ?_)
    | ((with_reducible show (_ ∧ _) ∧ _ ∧ _); (refine eK ?_ ?_ <;> with_reducible repeat' (first | exact trivial | (show _ ∧ _; refine aK ?_ ?_)))))); all_goals clear fct)
              | true =>
                rcases tgetP hd s with ⟨t1, p1⟩ | ⟨j, z, t1, p1, _⟩
                · rcases tgetQ hd c with ⟨t2, p2⟩ | ⟨i, z, t2, p2, _⟩
                  · try (rw [hxx] at t1; cases t1; done)
                    all_goals try (rw [hyy] at t2; cases t2; done)
                    all_goals (
                      by_cases hb : base = emptyS
                      · cases bz with
                        | true =>
                          rw [may7 hR hc p1 p2 (.inl hb) rfl]
                          rw [hb]
                          (have fct := And.intro g2 (And.intro g3 (And.intro g4 (e0))); (repeat' (first
    | refine gF ?_
    | (((with_reducible show CallK _ _ 91 _ _ _ _); refine CallK.lit [] (f91_at hc) c91 ⟨rfl, trivial⟩ rfl rfl ?_) <;> with_reducible refine wK ?_)
    | ((with_reducible show (_ ∧ _) ∧ _ ∧ _); (refine eK ?_ ?_ <;> with_reducible repeat' (first | exact trivial | (show _ ∧ _; refine aK ?_ ?_)))))); all_goals clear fct)
                        | false =>
                          rw [may0 hR hc p1 p2 (.inl hb) rfl]
                          rw [hb]
                          (have fct := And.intro g2 (And.intro g3 (And.intro g4 (e0))); (repeat' (first
    | refine gF ?_
    | (((with_reducible show CallK _ _ 91 _ _ _ _); refine CallK.lit [] (f91_at hc) c91 ⟨rfl, trivial⟩ rfl rfl ?_) <;> with_reducible refine wK ?_)
    | ((with_reducible show (_ ∧ _) ∧ _ ∧ _); (refine eK ?_ ?_ <;> with_reducible repeat' (first | exact trivial | (show _ ∧ _; refine aK ?_ ?_)))))); all_goals clear fct)
                      · have hb' := empty_ne hb
                        cases hk : knowS base with
                        | false =>
                          rw [may6 hR hc p1 p2 hb hk]
                          (have fct := And.intro g2 (And.intro g3 (And.intro g4 (hb'))); (repeat' (first
    | refine gF ?_
    | ((first
      | ((with_reducible show CallK _ _ 91 _ _ _ _); refine CallK.lit [] (f91_at hc) c91 ⟨rfl, trivial⟩ rfl rfl ?_)
      | ((with_reducible show CallK _ _ 99 _ _ _ _); refine CallK.lit [] (f99_at hk) c99 ⟨rfl, trivial⟩ rfl rfl ?_)) <;> with_reducible refine wK ?_)
    | ((with_reducible show (_ ∧ _) ∧ _ ∧ _); (refine eK ?_ ?_ <;> with_reducible repeat' (first | exact trivial | (show _ ∧ _; refine aK ?_ ?_)))))); all_goals clear fct)
                        | true =>
                          cases bz with
                          | true =>
                            rw [may7 hR hc p1 p2 (.inr hk) rfl]
                            (have fct := And.intro g2 (And.intro g3 (And.intro g4 (hb'))); (repeat' (first
    | refine gF ?_
    | ((first
      | ((with_reducible show CallK _ _ 91 _ _ _ _); refine CallK.lit [] (f91_at hc) c91 ⟨rfl, trivial⟩ rfl rfl ?_)
      | ((with_reducible show CallK _ _ 99 _ _ _ _); refine CallK.lit [] (f99_at hk) c99 ⟨rfl, trivial⟩ rfl rfl ?_)) <;> with_reducible refine wK ?_)
    | ((with_reducible show (_ ∧ _) ∧ _ ∧ _); (refine eK ?_ ?_ <;> with_reducible repeat' (first | exact trivial | (show _ ∧ _; refine aK ?_ ?_)))))); all_goals clear fct)
                          | false =>
                            rw [may0 hR hc p1 p2 (.inr hk) rfl]
                            (have fct := And.intro g2 (And.intro g3 (And.intro g4 (hb'))); (repeat' (first
    | refine gF ?_
    | ((first
      | ((with_reducible show CallK _ _ 91 _ _ _ _); refine CallK.lit [] (f91_at hc) c91 ⟨rfl, trivial⟩ rfl rfl ?_)
      | ((with_reducible show CallK _ _ 99 _ _ _ _); refine CallK.lit [] (f99_at hk) c99 ⟨rfl, trivial⟩ rfl rfl ?_)) <;> with_reducible refine wK ?_)
    | ((with_reducible show (_ ∧ _) ∧ _ ∧ _); (refine eK ?_ ?_ <;> with_reducible repeat' (first | exact trivial | (show _ ∧ _; refine aK ?_ ?_)))))); all_goals clear fct))
                  · try (rw [hxx] at t1; cases t1; done)
                    all_goals try (rw [hyy] at t2; cases t2; done)
                    all_goals (
                      rw [may10 hR hc (.inr (by simp only; omega))]
                      (have fct := And.intro g2 (And.intro g3 (g4)); (repeat' (first
    | refine gF ?_
    | (((with_reducible show CallK _ _ 91 _ _ _ _); refine CallK.lit [] (f91_at hc) c91 ⟨rfl, trivial⟩ rfl rfl ?_) <;> with_reducible refine wK ?_)
    | ((with_reducible show (_ ∧ _) ∧ _ ∧ _); (refine eK ?_ ?_ <;> with_reducible repeat' (first | exact trivial | (show _ ∧ _; refine aK ?_ ?_)))))); all_goals clear fct))
                · try (rw [hxx] at t1; cases t1; done)
                  all_goals (
                    rw [may10 hR hc (.inl (by simp only; omega))]
                    (have fct := And.intro g2 (And.intro g3 (g4)); (repeat' (first
    | refine gF ?_
    | (((with_reducible show CallK _ _ 91 _ _ _ _); refine CallK.lit [] (f91_at hc) c91 ⟨rfl, trivial⟩ rfl rfl ?_) <;> with_reducible refine wK ?_)
    | ((with_reducible show (_ ∧ _) ∧ _ ∧ _); (refine eK ?_ ?_ <;> with_reducible repeat' (first | exact trivial | (show _ ∧ _; refine aK ?_ ?_)))))); all_goals clear fct))
    · with_reducible refine wK ?_
      cases r with
      | false =>
        rw [may1 (.inl hr)]
        (have fct := hr; (repeat' (first
    | refine gF ?_
    | ((with_reducible show (_ ∧ _) ∧ _ ∧ _); (refine eK ?_ ?_ <;> with_reducible repeat' (first | exact trivial | (show _ ∧ _; refine aK ?_ ?_)))))); all_goals clear fct)
      | true =>
        by_cases g2 : c < 0
        · rw [may1 (.inr (.inl g2))]
          (have fct := g2; (repeat' (first
    | refine gF ?_
    | ((with_reducible show (_ ∧ _) ∧ _ ∧ _); (refine eK ?_ ?_ <;> with_reducible repeat' (first | exact trivial | (show _ ∧ _; refine aK ?_ ?_)))))); all_goals clear fct)
        · by_cases g3 : k ≤ c
          · rw [may1 (.inr (.inr (.inl g3)))]
            (have fct := And.intro g2 (g3); (repeat' (first
    | refine gF ?_
    | ((with_reducible show (_ ∧ _) ∧ _ ∧ _); (refine eK ?_ ?_ <;> with_reducible repeat' (first | exact trivial | (show _ ∧ _; refine aK ?_ ?_)))))); all_goals clear fct)
          · by_cases g4 : 12 ≤ c
            · rw [may1 (.inr (.inr (.inr g4)))]
              (have fct := And.intro g2 (And.intro g3 (g4)); (repeat' (first
    | refine gF ?_
    | ((with_reducible show (_ ∧ _) ∧ _ ∧ _); (refine eK ?_ ?_ <;> with_reducible repeat' (first | exact trivial | (show _ ∧ _; refine aK ?_ ?_)))))); all_goals clear fct)
            · have hR : MayR ⟨l, ws, nx, bz⟩ k c := ⟨hr, by omega, by omega, by omega⟩
              have hd : defsB l = true := hrd rfl
              cases hc : customS s with
              | false =>
                rw [may4 hR hc]
                (have fct := And.intro g2 (And.intro g3 (g4)); (repeat' (first
    | refine gF ?_
    | (((with_reducible show CallK _ _ 91 _ _ _ _); refine CallK.lit [] (f91_at hc) c91 ⟨rfl, trivial⟩ rfl rfl ?_) <;> with_reducible refine wK ?_)
    | ((with_reducible show (_ ∧ _) ∧ _ ∧ _); (refine eK ?_ ?_ <;> with_reducible repeat' (first | exact trivial | (show _ ∧ _; refine aK ?_ ?_)))))); all_goals clear fct)
              | true =>
                rcases tgetP hd s with ⟨t1, p1⟩ | ⟨j, z, t1, p1, _⟩
                · rcases tgetQ hd c with ⟨t2, p2⟩ | ⟨i, z, t2, p2, _⟩
                  · try (rw [hxx] at t1; cases t1; done)
                    all_goals try (rw [hyy] at t2; cases t2; done)
                    all_goals (
                      by_cases hb : base = emptyS
                      · cases bz with
                        | true =>
                          rw [may7 hR hc p1 p2 (.inl hb) rfl]
                          rw [hb]
                          (have fct := And.intro g2 (And.intro g3 (And.intro g4 (e0))); (repeat' (first
    | refine gF ?_
    | (((with_reducible show CallK _ _ 91 _ _ _ _); refine CallK.lit [] (f91_at hc) c91 ⟨rfl, trivial⟩ rfl rfl ?_) <;> with_reducible refine wK ?_)
    | ((with_reducible show (_ ∧ _) ∧ _ ∧ _); (refine eK ?_ ?_ <;> with_reducible repeat' (first | exact trivial | (show _ ∧ _; refine aK ?_ ?_)))))); all_goals clear fct)
                        | false =>
                          rw [may0 hR hc p1 p2 (.inl hb) rfl]
                          rw [hb]
                          (have fct := And.intro g2 (And.intro g3 (And.intro g4 (e0))); (repeat' (first
    | refine gF ?_
    | (((with_reducible show CallK _ _ 91 _ _ _ _); refine CallK.lit [] (f91_at hc) c91 ⟨rfl, trivial⟩ rfl rfl ?_) <;> with_reducible refine wK ?_)
    | ((with_reducible show (_ ∧ _) ∧ _ ∧ _); (refine eK ?_ ?_ <;> with_reducible repeat' (first | exact trivial | (show _ ∧ _; refine aK ?_ ?_)))))); all_goals clear fct)
                      · have hb' := empty_ne hb
                        cases hk : knowS base with
                        | false =>
                          rw [may6 hR hc p1 p2 hb hk]
                          (have fct := And.intro g2 (And.intro g3 (And.intro g4 (hb'))); (repeat' (first
    | refine gF ?_
    | ((first
      | ((with_reducible show CallK _ _ 91 _ _ _ _); refine CallK.lit [] (f91_at hc) c91 ⟨rfl, trivial⟩ rfl rfl ?_)
      | ((with_reducible show CallK _ _ 99 _ _ _ _); refine CallK.lit [] (f99_at hk) c99 ⟨rfl, trivial⟩ rfl rfl ?_)) <;> with_reducible refine wK ?_)
    | ((with_reducible show (_ ∧ _) ∧ _ ∧ _); (refine eK ?_ ?_ <;> with_reducible repeat' (first | exact trivial | (show _ ∧ _; refine aK ?_ ?_)))))); all_goals clear fct)
                        | true =>
                          cases bz with
                          | true =>
                            rw [may7 hR hc p1 p2 (.inr hk) rfl]
                            (have fct := And.intro g2 (And.intro g3 (And.intro g4 (hb'))); (repeat' (first
    | refine gF ?_
    | ((first
      | ((with_reducible show CallK _ _ 91 _ _ _ _); refine CallK.lit [] (f91_at hc) c91 ⟨rfl, trivial⟩ rfl rfl ?_)
      | ((with_reducible show CallK _ _ 99 _ _ _ _); refine CallK.lit [] (f99_at hk) c99 ⟨rfl, trivial⟩ rfl rfl ?_)) <;> with_reducible refine wK ?_)
    | ((with_reducible show (_ ∧ _) ∧ _ ∧ _); (refine eK ?_ ?_ <;> with_reducible repeat' (first | exact trivial | (show _ ∧ _; refine aK ?_ ?_)))))); all_goals clear fct)
                          | false =>
                            rw [may0 hR hc p1 p2 (.inr hk) rfl]
                            (have fct := And.intro g2 (And.intro g3 (And.intro g4 (hb'))); (repeat' (first
    | refine gF ?_
    | ((first
      | ((with_reducible show CallK _ _ 91 _ _ _ _); refine CallK.lit [] (f91_at hc) c91 ⟨rfl, trivial⟩ rfl rfl ?_)
      | ((with_reducible show CallK _ _ 99 _ _ _ _); refine CallK.lit [] (f99_at hk) c99 ⟨rfl, trivial⟩ rfl rfl ?_)) <;> with_reducible refine wK ?_)
    | ((with_reducible show (_ ∧ _) ∧ _ ∧ _); (refine eK ?_ ?_ <;> with_reducible repeat' (first | exact trivial | (show _ ∧ _; refine aK ?_ ?_)))))); all_goals clear fct))
                  · try (rw [hxx] at t1; cases t1; done)
                    all_goals try (rw [hyy] at t2; cases t2; done)
                    all_goals (
                      rw [may10 hR hc (.inr (by simp only; omega))]
                      (have fct := And.intro g2 (And.intro g3 (g4)); (repeat' (first
    | refine gF ?_
    | (((with_reducible show CallK _ _ 91 _ _ _ _); refine CallK.lit [] (f91_at hc) c91 ⟨rfl, trivial⟩ rfl rfl ?_) <;> with_reducible refine wK ?_)
    | ((with_reducible show (_ ∧ _) ∧ _ ∧ _); (refine eK ?_ ?_ <;> with_reducible repeat' (first | exact trivial | (show _ ∧ _; refine aK ?_ ?_)))))); all_goals clear fct))
                · try (rw [hxx] at t1; cases t1; done)
                  all_goals (
                    rw [may10 hR hc (.inl (by simp only; omega))]
                    (have fct := And.intro g2 (And.intro g3 (g4)); (repeat' (first
    | refine gF ?_
    | (((with_reducible show CallK _ _ 91 _ _ _ _); refine CallK.lit [] (f91_at hc) c91 ⟨rfl, trivial⟩ rfl rfl ?_) <;> with_reducible refine wK ?_)
    | ((with_reducible show (_ ∧ _) ∧ _ ∧ _); (refine eK ?_ ?_ <;> with_reducible repeat' (first | exact trivial | (show _ ∧ _; refine aK ?_ ?_)))))); all_goals clear fct))
  · with_reducible refine wK ?_
    refine LookK.tab vInt oInt (ixT kC (procL l)) (k := c) (zv := eInt 0) map63 ⟨_, _, rfl⟩ key_int inj_int rfl rfl (fun y hyy => ?_) (fun hyy => ?_)
    · rw [show oInt y = eInt y from rfl]
      with_reducible refine wK ?_
      cases r with
      | false =>
        rw [may1 (.inl hr)]
        (have fct := hr; (repeat' (first
    | refine gF ?_
    | ((with_reducible show (_ ∧ _) ∧ _ ∧ _); (refine eK ?_ ?_ <;> with_reducible repeat' (first | exact trivial | (show _ ∧ _; refine aK ?_ ?_)))))); all_goals clear fct)
      | true =>
        by_cases g2 : c < 0
        · rw [may1 (.inr (.inl g2))]
          (have fct := g2; (repeat' (first
    | refine gF ?_
    | ((with_reducible show (_ ∧ _) ∧ _ ∧ _); (refine eK ?_ ?_ <;> with_reducible repeat' (first | exact trivial | (show _ ∧ _; refine aK ?_ ?_)))))); all_goals clear fct)
        · by_cases g3 : k ≤ c
          · rw [may1 (.inr (.inr (.inl g3)))]
            (have fct := And.intro g2 (g3); (repeat' (first
    | refine gF ?_
    | ((with_reducible show (_ ∧ _) ∧ _ ∧ _); (refine eK ?_ ?_ <;> with_reducible repeat' (first | exact trivial | (show _ ∧ _; refine aK ?_ ?_)))))); all_goals clear fct)
          · by_cases g4 : 12 ≤ c
            · rw [may1 (.inr (.inr (.inr g4)))]
              (have fct := And.intro g2 (And.intro g3 (g4)); (repeat' (first
    | refine gF ?_
    | ((with_reducible show (_ ∧ _) ∧ _ ∧ _); (refine eK ?_ ?_ <;> with_reducible repeat' (first | exact trivial | (show _ ∧ _; refine aK ?_ ?_)))))); all_goals clear fct)
            · have hR : MayR ⟨l, ws, nx, bz⟩ k c := ⟨hr, by omega, by omega, by omega⟩
              have hd : defsB l = true := hrd rfl
              cases hc : customS s with
              | false =>
                rw [may4 hR hc]
                (have fct := And.intro g2 (And.intro g3 (g4)); (repeat' (first
    | refine gF ?_
    | (((with_reducible show CallK _ _ 91 _ _ _ _); refine CallK.lit [] (f91_at hc) c91 ⟨rfl, trivial⟩ rfl rfl ?_) <;> with_reducible refine wK ?_)
    | ((with_reducible show (_ ∧ _) ∧ _ ∧ _); (refine eK ?_ ?_ <;> with_reducible repeat' (first | exact trivial | (show _ ∧ _; refine aK ?_ ?_)))))); all_goals clear fct)
              | true =>
                rcases tgetP hd s with ⟨t1, p1⟩ | ⟨j, z, t1, p1, _⟩
                · rcases tgetQ hd c with ⟨t2, p2⟩ | ⟨i, z, t2, p2, _⟩
                  · try (rw [hxx] at t1; cases t1; done)
                    all_goals try (rw [hyy] at t2; cases t2; done)
                    all_goals (
                      by_cases hb : base = emptyS
                      · cases bz with
                        | true =>
                          rw [may7 hR hc p1 p2 (.inl hb) rfl]
                          rw [hb]
                          (have fct := And.intro g2 (And.intro g3 (And.intro g4 (e0))); (repeat' (first
    | refine gF ?_
    | (((with_reducible show CallK _ _ 91 _ _ _ _); refine CallK.lit [] (f91_at hc) c91 ⟨rfl, trivial⟩ rfl rfl ?_) <;> with_reducible refine wK ?_)
    | ((with_reducible show (_ ∧ _) ∧ _ ∧ _); (refine eK ?_ ?_ <;> with_reducible repeat' (first | exact trivial | (show _ ∧ _; refine aK ?_ ?_)))))); all_goals clear fct)
                        | false =>
                          rw [may0 hR hc p1 p2 (.inl hb) rfl]
                          rw [hb]
                          (have fct := And.intro g2 (And.intro g3 (And.intro g4 (e0))); (repeat' (first
    | refine gF ?_
    | (((with_reducible show CallK _ _ 91 _ _ _ _); refine CallK.lit [] (f91_at hc) c91 ⟨rfl, trivial⟩ rfl rfl ?_) <;> with_reducible refine wK ?_)
    | ((with_reducible show (_ ∧ _) ∧ _ ∧ _); (refine eK ?_ ?_ <;> with_reducible repeat' (first | exact trivial | (show _ ∧ _; refine aK ?_ ?_)))))); all_goals clear fct)
                      · have hb' := empty_ne hb
                        cases hk : knowS base with
                        | false =>
                          rw [may6 hR hc p1 p2 hb hk]
                          (have fct := And.intro g2 (And.intro g3 (And.intro g4 (hb'))); (repeat' (first
    | refine gF ?_
    | ((first
      | ((with_reducible show CallK _ _ 91 _ _ _ _); refine CallK.lit [] (f91_at hc) c91 ⟨rfl, trivial⟩ rfl rfl ?_)
      | ((with_reducible show CallK _ _ 99 _ _ _ _); refine CallK.lit [] (f99_at hk) c99 ⟨rfl, trivial⟩ rfl rfl ?_)) <;> with_reducible refine wK ?_)
    | ((with_reducible show (_ ∧ _) ∧ _ ∧ _); (refine eK ?_ ?_ <;> with_reducible repeat' (first | exact trivial | (show _ ∧ _; refine aK ?_ ?_)))))); all_goals clear fct)
                        | true =>
                          cases bz with
                          | true =>
                            rw [may7 hR hc p1 p2 (.inr hk) rfl]
                            (have fct := And.intro g2 (And.intro g3 (And.intro g4 (hb'))); (repeat' (first
    | refine gF ?_
    | ((first
      | ((with_reducible show CallK _ _ 91 _ _ _ _); refine CallK.lit [] (f91_at hc) c91 ⟨rfl, trivial⟩ rfl rfl ?_)
      | ((with_reducible show CallK _ _ 99 _ _ _ _); refine CallK.lit [] (f99_at hk) c99 ⟨rfl, trivial⟩ rfl rfl ?_)) <;> with_reducible refine wK ?_)
    | ((with_reducible show (_ ∧ _) ∧ _ ∧ _); (refine eK ?_ ?_ <;> with_reducible repeat' (first | exact trivial | (show _ ∧ _; refine aK ?_ ?_)))))); all_goals clear fct)
                          | false =>
                            rw [may0 hR hc p1 p2 (.inr hk) rfl]
                            (have fct := And.intro g2 (And.intro g3 (And.intro g4 (hb'))); (repeat' (first
    | refine gF ?_
    | ((first
      | ((with_reducible show CallK _ _ 91 _ _ _ _); refine CallK.lit [] (f91_at hc) c91 ⟨rfl, trivial⟩ rfl rfl ?_)
      | ((with_reducible show CallK _ _ 99 _ _ _ _); refine CallK.lit [] (f99_at hk) c99 ⟨rfl, trivial⟩ rfl rfl ?_)) <;> with_reducible refine wK ?_)
    | ((with_reducible show (_ ∧ _) ∧ _ ∧ _); (refine eK ?_ ?_ <;> with_reducible repeat' (first | exact trivial | (show _ ∧ _; refine aK ?_ ?_)))))); all_goals clear fct))
                  · try (rw [hxx] at t1; cases t1; done)
                    all_goals try (rw [hyy] at t2; cases t2; done)
                    all_goals (
                      rw [may10 hR hc (.inr (by simp only; omega))]
                      (have fct := And.intro g2 (And.intro g3 (g4)); (repeat' (first
    | refine gF ?_
    | (((with_reducible show CallK _ _ 91 _ _ _ _); refine CallK.lit [] (f91_at hc) c91 ⟨rfl, trivial⟩ rfl rfl ?_) <;> with_reducible refine wK ?_)
    | ((with_reducible show (_ ∧ _) ∧ _ ∧ _); (refine eK ?_ ?_ <;> with_reducible repeat' (first | exact trivial | (show _ ∧ _; refine aK ?_ ?_)))))); all_goals clear fct))
                · try (rw [hxx] at t1; cases t1; done)
                  all_goals (
                    rw [may10 hR hc (.inl (by simp only; omega))]
                    (have fct := And.intro g2 (And.intro g3 (g4)); (repeat' (first
    | refine gF ?_
    | (((with_reducible show CallK _ _ 91 _ _ _ _); refine CallK.lit [] (f91_at hc) c91 ⟨rfl, trivial⟩ rfl rfl ?_) <;> with_reducible refine wK ?_)
    | ((with_reducible show (_ ∧ _) ∧ _ ∧ _); (refine eK ?_ ?_ <;> with_reducible repeat' (first | exact trivial | (show _ ∧ _; refine aK ?_ ?_)))))); all_goals clear fct))
    · with_reducible refine wK ?_
      cases r with
      | false =>
        rw [may1 (.inl hr)]
        (have fct := hr; (repeat' (first
    | refine gF ?_
    | ((with_reducible show (_ ∧ _) ∧ _ ∧ _); (refine eK ?_ ?_ <;> with_reducible repeat' (first | exact trivial | (show _ ∧ _; refine aK ?_ ?_)))))); all_goals clear fct)
      | true =>
        by_cases g2 : c < 0
        · rw [may1 (.inr (.inl g2))]
          (have fct := g2; (repeat' (first
    | refine gF ?_
    | ((with_reducible show (_ ∧ _) ∧ _ ∧ _); (refine eK ?_ ?_ <;> with_reducible repeat' (first | exact trivial | (show _ ∧ _; refine aK ?_ ?_)))))); all_goals clear fct)
        · by_cases g3 : k ≤ c
          · rw [may1 (.inr (.inr (.inl g3)))]
            (have fct := And.intro g2 (g3); (repeat' (first
    | refine gF ?_
    | ((with_reducible show (_ ∧ _) ∧ _ ∧ _); (refine eK ?_ ?_ <;> with_reducible repeat' (first | exact trivial | (show _ ∧ _; refine aK ?_ ?_)))))); all_goals clear fct)
          · by_cases g4 : 12 ≤ c
            · rw [may1 (.inr (.inr (.inr g4)))]
              (have fct := And.intro g2 (And.intro g3 (g4)); (repeat' (first
    | refine gF ?_
    | ((with_reducible show (_ ∧ _) ∧ _ ∧ _); (refine eK ?_ ?_ <;> with_reducible repeat' (first | exact trivial | (show _ ∧ _; refine aK ?_ ?_)))))); all_goals clear fct)
            · have hR : MayR ⟨l, ws, nx, bz⟩ k c := ⟨hr, by omega, by omega, by omega⟩
              have hd : defsB l = true := hrd rfl
              cases hc : customS s with
              | false =>
                rw [may4 hR hc]
                (have fct := And.intro g2 (And.intro g3 (g4)); (repeat' (first
    | refine gF ?_
    | (((with_reducible show CallK _ _ 91 _ _ _ _); refine CallK.lit [] (f91_at hc) c91 ⟨rfl, trivial⟩ rfl rfl ?_) <;> with_reducible refine wK ?_)
    | ((with_reducible show (_ ∧ _) ∧ _ ∧ _); (refine eK ?_ ?_ <;> with_reducible repeat' (first | exact trivial | (show _ ∧ _; refine aK ?_ ?_)))))); all_goals clear fct)
              | true =>
                rcases tgetP hd s with ⟨t1, p1⟩ | ⟨j, z, t1, p1, _⟩
                · rcases tgetQ hd c with ⟨t2, p2⟩ | ⟨i, z, t2, p2, _⟩
                  · try (rw [hxx] at t1; cases t1; done)
                    all_goals try (rw [hyy] at t2; cases t2; done)
                    all_goals (
                      by_cases hb : base = emptyS
                      · cases bz with
                        | true =>
                          rw [may7 hR hc p1 p2 (.inl hb) rfl]
                          rw [hb]
                          (have fct := And.intro g2 (And.intro g3 (And.intro g4 (e0))); (repeat' (first
    | refine gF ?_
    | (((with_reducible show CallK _ _ 91 _ _ _ _); refine CallK.lit [] (f91_at hc) c91 ⟨rfl, trivial⟩ rfl rfl ?_) <;> with_reducible refine wK ?_)
    | ((with_reducible show (_ ∧ _) ∧ _ ∧ _); (refine eK ?_ ?_ <;> with_reducible repeat' (first | exact trivial | (show _ ∧ _; refine aK ?_ ?_)))))); all_goals clear fct)
                        | false =>
                          rw [may0 hR hc p1 p2 (.inl hb) rfl]
                          rw [hb]
                          (have fct := And.intro g2 (And.intro g3 (And.intro g4 (e0))); (repeat' (first
    | refine gF ?_
    | (((with_reducible show CallK _ _ 91 _ _ _ _); refine CallK.lit [] (f91_at hc) c91 ⟨rfl, trivial⟩ rfl rfl ?_) <;> with_reducible refine wK ?_)
    | ((with_reducible show (_ ∧ _) ∧ _ ∧ _); (refine eK ?_ ?_ <;> with_reducible repeat' (first | exact trivial | (show _ ∧ _; refine aK ?_ ?_)))))); all_goals clear fct)
                      · have hb' := empty_ne hb
                        cases hk : knowS base with
                        | false =>
                          rw [may6 hR hc p1 p2 hb hk]
                          (have fct := And.intro g2 (And.intro g3 (And.intro g4 (hb'))); (repeat' (first
    | refine gF ?_
    | ((first
      | ((with_reducible show CallK _ _ 91 _ _ _ _); refine CallK.lit [] (f91_at hc) c91 ⟨rfl, trivial⟩ rfl rfl ?_)
      | ((with_reducible show CallK _ _ 99 _ _ _ _); refine CallK.lit [] (f99_at hk) c99 ⟨rfl, trivial⟩ rfl rfl ?_)) <;> with_reducible refine wK ?_)
    | ((with_reducible show (_ ∧ _) ∧ _ ∧ _); (refine eK ?_ ?_ <;> with_reducible repeat' (first | exact trivial | (show _ ∧ _; refine aK ?_ ?_)))))); all_goals clear fct)
                        | true =>
                          cases bz with
                          | true =>
                            rw [may7 hR hc p1 p2 (.inr hk) rfl]
                            (have fct := And.intro g2 (And.intro g3 (And.intro g4 (hb'))); (repeat' (first
    | refine gF ?_
    | ((first
      | ((with_reducible show CallK _ _ 91 _ _ _ _); refine CallK.lit [] (f91_at hc) c91 ⟨rfl, trivial⟩ rfl rfl ?_)
      | ((with_reducible show CallK _ _ 99 _ _ _ _); refine CallK.lit [] (f99_at hk) c99 ⟨rfl, trivial⟩ rfl rfl ?_)) <;> with_reducible refine wK ?_)
    | ((with_reducible show (_ ∧ _) ∧ _ ∧ _); (refine eK ?_ ?_ <;> with_reducible repeat' (first | exact trivial | (show _ ∧ _; refine aK ?_ ?_)))))); all_goals clear fct)
                          | false =>
                            rw [may0 hR hc p1 p2 (.inr hk) rfl]
                            (have fct := And.intro g2 (And.intro g3 (And.intro g4 (hb'))); (repeat' (first
    | refine gF ?_
    | ((first
      | ((with_reducible show CallK _ _ 91 _ _ _ _); refine CallK.lit [] (f91_at hc) c91 ⟨rfl, trivial⟩ rfl rfl ?_)
      | ((with_reducible show CallK _ _ 99 _ _ _ _); refine CallK.lit [] (f99_at hk) c99 ⟨rfl, trivial⟩ rfl rfl ?_)) <;> with_reducible refine wK ?_)
    | ((with_reducible show (_ ∧ _) ∧ _ ∧ _); (refine eK ?_ ?_ <;> with_reducible repeat' (first | exact trivial | (show _ ∧ _; refine aK ?_ ?_)))))); all_goals clear fct))
                  · try (rw [hxx] at t1; cases t1; done)
                    all_goals try (rw [hyy] at t2; cases t2; done)
                    all_goals (
                      rw [may10 hR hc (.inr (by simp only; omega))]
                      (have fct := And.intro g2 (And.intro g3 (g4)); (repeat' (first
    | refine gF ?_
    | (((with_reducible show CallK _ _ 91 _ _ _ _); refine CallK.lit [] (f91_at hc) c91 ⟨rfl, trivial⟩ rfl rfl ?_) <;> with_reducible refine wK ?_)
    | ((with_reducible show (_ ∧ _) ∧ _ ∧ _); (refine eK ?_ ?_ <;> with_reducible repeat' (first | exact trivial | (show _ ∧ _; refine aK ?_ ?_)))))); all_goals clear fct))
                · try (rw [hxx] at t1; cases t1; done)
                  all_goals (
                    rw [may10 hR hc (.inl (by simp only; omega))]
                    (have fct := And.intro g2 (And.intro g3 (g4)); (repeat' (first
    | refine gF ?_
    | (((with_reducible show CallK _ _ 91 _ _ _ _); refine CallK.lit [] (f91_at hc) c91 ⟨rfl, trivial⟩ rfl rfl ?_) <;> with_reducible refine wK ?_)
    | ((with_reducible show (_ ∧ _) ∧ _ ∧ _); (refine eK ?_ ?_ <;> with_reducible repeat' (first | exact trivial | (show _ ∧ _; refine aK ?_ ?_)))))); all_goals clear fct))
end Go.Proofs.Heir
end
section
set_option linter.unusedSimpArgs false
set_option linter.unusedVariables false
namespace Go.Proofs.Heir
open Go.Am Go.RowKit Go.Lib
set_option maxRecDepth 100000
set_option maxHeartbeats 8000000
structure ShortD (d : DeskM) : Prop where
  defs : d.defs.length ≤ 40
  waits : d.waits.length ≤ 40
  names : ∀ x ∈ d.defs, x.name.size ≤ 300 ∧ x.locl.size ≤ 300
  wnames : ∀ w ∈ d.waits, w.name.size ≤ 300
theorem ShortD.small {d : DeskM} (h : ShortD d) : SmallD d := ⟨Nat.le_trans h.defs (by omega), Nat.le_trans h.waits (by omega)⟩
theorem ixI_first {α : Type} {p : α → Bool} {l : List α} {k : Nat} {a : α} (ha : l[k]? = some a) (hp : p a = true) (hb : ∀ (j : Nat) (b : α), j < k → l[j]? = some b → p b = false) : ixI p l = k := by
  rcases ixI_cases p l with ⟨_, h⟩ | ⟨j, b, h1, h2, h3, h4⟩
  · rw [h a (List.mem_of_getElem? ha)] at hp; cases hp
  · rcases Nat.lt_trichotomy j k with hj | hj | hj
    · rw [hb j b hj h2] at h3; cases h3
    · rw [h1, hj]
    · rw [h4 k a hj ha] at hp; cases hp
theorem ixI_end {α : Type} {p : α → Bool} {l : List α} (hb : ∀ (j : Nat) (b : α), j < l.length → l[j]? = some b → p b = false) : ixI p l = -1 :=
  ixI_none fun a ha => by
    obtain ⟨j, hj⟩ := List.getElem?_of_mem ha
    exact hb j a (List.getElem?_eq_some_iff.1 hj).1 hj
theorem upto_succ {α : Type} {P : α → Prop} {l : List α} {k : Nat} {a : α} (h : ∀ (j : Nat) (b : α), j < k → l[j]? = some b → P b) (ha : l[k]? = some a) (hp : P a) : ∀ (j : Nat) (b : α), j < k + 1 → l[j]? = some b → P b := fun j b hj hb => by
  by_cases e : j = k
  · subst e; rw [ha] at hb; cases hb; exact hp
  · exact h j b (by omega) hb
theorem f58_ok (d : DeskM) (h : SmallD d) (s : ByteArray) : FnOK Tryz.prog 58 [] [eDesk d, eStr s] [] (eInt (posN d.defs s)) := by
  have hl := h.defs
  obtain ⟨l, ws, nx, bz⟩ := d
  simp only at hl
  have hlm : (l.map oDef).length = l.length := List.length_map ..
  refine FnOK.startC (rvs := [.tmp 4]) G G_good Tryz.func58 rfl Tryz.ntmps58 rfl rfl ?_; with_reducible refine wD ?_
  refine LoopK.use G G_good (fun (k : Nat) => [(1, eStr s), (2, .ptr 20 0 0), (5, eInt k)]) (fun _ => [(20, .live 4 [eDesk ⟨l, ws, nx, bz⟩] false)]) (fun k => k ≤ l.length ∧ ∀ (j : Nat) (b : DefM), j < k → l[j]? = some b → hasN s b = false) (fun k => l.length - k) 0 ⟨Nat.zero_le _, fun j b hj => by omega⟩
    ⟨⟨rfl, rfl⟩, ⟨rfl, ⟨rfl, rfl⟩, rfl, trivial⟩, ⟨⟨rfl, rfl, rfl, rfl, trivial⟩, trivial⟩, trivial⟩ ?_
  intro k ⟨hk, hno⟩
  with_reducible refine wK ?_
  refine IfK.mk (fun h1 => ?_) (fun h1 => ?_) <;> (try simp only [castN] at h1) <;> with_reducible refine wK ?_
  · simp only [hlm, decide_eq_true_eq] at h1
    have hk' : k < l.length := by omega
    obtain ⟨⟨n, lo, c⟩, hx⟩ : ∃ a, l[k]? = some a := ⟨_, List.getElem?_eq_getElem hk'⟩
    refine IdxK.mk k (eDef ⟨n, lo, c⟩) rfl (def_get hx) ?_; with_reducible refine wK ?_
    by_cases e : n = s
    · have hp : posN l s = k := ixI_first hx (decide_eq_true e) hno
      rw [hp]
      (have fct := e; (repeat' (first
    | refine gF ?_
    | ((with_reducible show (_ ∧ _) ∧ _ ∧ _); (refine eK ?_ ?_ <;> with_reducible repeat' (first | exact trivial | (show _ ∧ _; refine aK ?_ ?_)))))); all_goals clear fct)
    · (have fct := e; (repeat' (first
    | refine gF ?_
    | (((with_reducible show NextK _ _); refine NextK.mk (k + 1) ⟨by omega, upto_succ (P := fun b => hasN s b = false) hno hx (decide_eq_false e)⟩ (by omega) ⟨⟨rfl, rfl⟩, ⟨rfl, ⟨rfl, rfl⟩, by show ((k + 1 : Nat) : Int) = (k : Int) + 1; omega, trivial⟩, ⟨⟨rfl, rfl, rfl, rfl, trivial⟩, trivial⟩, trivial⟩) <;> with_reducible refine wK ?_)
    | ((with_reducible show (_ ∧ _) ∧ _ ∧ _); (refine eK ?_ ?_ <;> with_reducible repeat' (first | exact trivial | (show _ ∧ _; refine aK ?_ ?_)))))); all_goals clear fct)
  · have hkl : k = l.length := by simp only [hlm, decide_eq_false_iff_not] at h1; omega
    subst hkl
    have hp : posN l s = -1 := ixI_end hno
    rw [hp]
    (have fct := hp; (repeat' (first
    | refine gF ?_
    | ((with_reducible show (_ ∧ _) ∧ _ ∧ _); (refine eK ?_ ?_ <;> with_reducible repeat' (first | exact trivial | (show _ ∧ _; refine aK ?_ ?_)))))); all_goals clear fct)
theorem f59_ok (d : DeskM) (h : SmallD d) (s : Int) : FnOK Tryz.prog 59 [] [eDesk d, eInt s] [] (eInt (posC d.defs s)) := by
  have hl := h.defs
  obtain ⟨l, ws, nx, bz⟩ := d
  simp only at hl
  have hlm : (l.map oDef).length = l.length := List.length_map ..
  refine FnOK.startC (rvs := [.tmp 4]) G G_good Tryz.func59 rfl Tryz.ntmps59 rfl rfl ?_; with_reducible refine wD ?_
  refine LoopK.use G G_good (fun (k : Nat) => [(1, eInt s), (2, .ptr 20 0 0), (5, eInt k)]) (fun _ => [(20, .live 4 [eDesk ⟨l, ws, nx, bz⟩] false)]) (fun k => k ≤ l.length ∧ ∀ (j : Nat) (b : DefM), j < k → l[j]? = some b → hasC s b = false) (fun k => l.length - k) 0 ⟨Nat.zero_le _, fun j b hj => by omega⟩
    ⟨⟨rfl, rfl⟩, ⟨rfl, ⟨rfl, rfl⟩, rfl, trivial⟩, ⟨⟨rfl, rfl, rfl, rfl, trivial⟩, trivial⟩, trivial⟩ ?_
  intro k ⟨hk, hno⟩
  with_reducible refine wK ?_
  refine IfK.mk (fun h1 => ?_) (fun h1 => ?_) <;> (try simp only [castN] at h1) <;> with_reducible refine wK ?_
  · simp only [hlm, decide_eq_true_eq] at h1
    have hk' : k < l.length := by omega
    obtain ⟨⟨n, lo, c⟩, hx⟩ : ∃ a, l[k]? = some a := ⟨_, List.getElem?_eq_getElem hk'⟩
    refine IdxK.mk k (eDef ⟨n, lo, c⟩) rfl (def_get hx) ?_; with_reducible refine wK ?_
    by_cases e : c = s
    · have hp : posC l s = k := ixI_first hx (decide_eq_true e) hno
      rw [hp]
      (have fct := e; (repeat' (first
    | refine gF ?_
    | ((with_reducible show (_ ∧ _) ∧ _ ∧ _); (refine eK ?_ ?_ <;> with_reducible repeat' (first | exact trivial | (show _ ∧ _; refine aK ?_ ?_)))))); all_goals clear fct)
    · (have fct := e; (repeat' (first
    | refine gF ?_
    | (((with_reducible show NextK _ _); refine NextK.mk (k + 1) ⟨by omega, upto_succ (P := fun b => hasC s b = false) hno hx (decide_eq_false e)⟩ (by omega) ⟨⟨rfl, rfl⟩, ⟨rfl, ⟨rfl, rfl⟩, by show ((k + 1 : Nat) : Int) = (k : Int) + 1; omega, trivial⟩, ⟨⟨rfl, rfl, rfl, rfl, trivial⟩, trivial⟩, trivial⟩) <;> with_reducible refine wK ?_)
    | ((with_reducible show (_ ∧ _) ∧ _ ∧ _); (refine eK ?_ ?_ <;> with_reducible repeat' (first | exact trivial | (show _ ∧ _; refine aK ?_ ?_)))))); all_goals clear fct)
  · have hkl : k = l.length := by simp only [hlm, decide_eq_false_iff_not] at h1; omega
    subst hkl
    have hp : posC l s = -1 := ixI_end hno
    rw [hp]
    (have fct := hp; (repeat' (first
    | refine gF ?_
    | ((with_reducible show (_ ∧ _) ∧ _ ∧ _); (refine eK ?_ ?_ <;> with_reducible repeat' (first | exact trivial | (show _ ∧ _; refine aK ?_ ?_)))))); all_goals clear fct)
theorem f58_at {d : DeskM} {s : ByteArray} {i : Int} (h : SmallD d) (hi : posN d.defs s = i) : FnOK Tryz.prog 58 [] [eDesk d, eStr s] [] (eInt i) := by have := f58_ok d h s; rwa [hi] at this
theorem f59_at {d : DeskM} {s i : Int} (h : SmallD d) (hi : posC d.defs s = i) : FnOK Tryz.prog 59 [] [eDesk d, eInt s] [] (eInt i) := by have := f59_ok d h s; rwa [hi] at this
def okD (l : List DefM) (k : Nat) (x : DefM) : Prop := goodD x = true ∧ posN l x.name = k ∧ posC l x.cls = k
theorem okD_all {l : List DefM} (h : ∀ (j : Nat) (b : DefM), j < l.length → l[j]? = some b → okD l j b) : defsB l = true :=
  defsB_iff.2 ⟨fun x hx => by
    obtain ⟨j, hj⟩ := List.getElem?_of_mem hx
    exact (h j x (List.getElem?_eq_some_iff.1 hj).1 hj).1,
  nodup_of_ix fun i j a b ha hb e => by
    have h1 := (h i a (List.getElem?_eq_some_iff.1 ha).1 ha).2.1
    have h2 := (h j b (List.getElem?_eq_some_iff.1 hb).1 hb).2.1
    rw [e] at h1; omega,
  nodup_of_ix fun i j a b ha hb e => by
    have h1 := (h i a (List.getElem?_eq_some_iff.1 ha).1 ha).2.2
    have h2 := (h j b (List.getElem?_eq_some_iff.1 hb).1 hb).2.2
    rw [e] at h1; omega⟩
theorem okD_of {l : List DefM} (h : defsB l = true) {k : Nat} {x : DefM} (hx : l[k]? = some x) : okD l k x := by
  obtain ⟨h1, h2, h3⟩ := defsB_iff.1 h
  exact ⟨h1 x (List.mem_of_getElem? hx), posN_at h2 hx, posC_at h3 hx⟩
end Go.Proofs.Heir
end
section
set_option linter.unusedSimpArgs false
set_option linter.unusedVariables false
namespace Go.Proofs.Heir
open Go.Am Go.RowKit Go.Lib
set_option maxRecDepth 100000
set_option maxHeartbeats 8000000
theorem upto_succ' {α : Type} {P : Nat → α → Prop} {l : List α} {k : Nat} {a : α} (h : ∀ (j : Nat) (b : α), j < k → l[j]? = some b → P j b) (ha : l[k]? = some a) (hp : P k a) : ∀ (j : Nat) (b : α), j < k + 1 → l[j]? = some b → P j b := fun j b hj hb => by
  by_cases e : j = k
  · subst e; rw [ha] at hb; cases hb; exact hp
  · exact h j b (by omega) hb
theorem f29_ok (d : DeskM) (h : ShortD d) : FnOK Tryz.prog 29 [] [eDesk d] [] (eBool (rightD d)) := by
  have hsm := h.small
  have hok := @okD_all d.defs
  have hof := @okD_of d.defs
  have hwf := @waitsB_false d.defs d.next
  have hrd := @rightD_iff d
  obtain ⟨r, hr⟩ : ∃ r, rightD d = r := ⟨_, rfl⟩
  rw [hr] at hrd ⊢
  obtain ⟨l, ws, nx, bz⟩ := d
  have hl : l.length ≤ 40 := h.defs
  have hw : ws.length ≤ 40 := h.waits
  have hnm : ∀ x ∈ l, x.name.size ≤ 300 ∧ x.locl.size ≤ 300 := h.names
  have hwn : ∀ w ∈ ws, w.name.size ≤ 300 := h.wnames
  simp only at hok hof hwf hrd
  have hlm : (l.map oDef).length = l.length := List.length_map ..
  have hwm : (ws.map oWait).length = ws.length := List.length_map ..
  refine FnOK.startC (rvs := [.tmp 2]) G G_good Tryz.func29 rfl Tryz.ntmps29 rfl rfl ?_; with_reducible refine wD ?_
  by_cases n0 : nx < 0
  · have : r = false := by cases r with | false => rfl | true => exact absurd (hrd.1 rfl).2.2.1 (by omega)
    rw [this]; (have fct := n0; (repeat' (first
    | refine gF ?_
    | ((with_reducible show (_ ∧ _) ∧ _ ∧ _); (refine eK ?_ ?_ <;> with_reducible repeat' (first | exact trivial | (show _ ∧ _; refine aK ?_ ?_)))))); all_goals clear fct)
  by_cases n1 : 100000 < nx
  · have : r = false := by cases r with | false => rfl | true => exact absurd (hrd.1 rfl).2.2.2 (by omega)
    rw [this]; (have fct := And.intro n0 (n1); (repeat' (first
    | refine gF ?_
    | ((with_reducible show (_ ∧ _) ∧ _ ∧ _); (refine eK ?_ ?_ <;> with_reducible repeat' (first | exact trivial | (show _ ∧ _; refine aK ?_ ?_)))))); all_goals clear fct)
  (have fct := And.intro n0 (n1); (repeat' (first
    | refine gF ?_
    | ((with_reducible show (_ ∧ _) ∧ _ ∧ _); (refine eK ?_ ?_ <;> with_reducible repeat' (first | exact trivial | (show _ ∧ _; refine aK ?_ ?_)))))); all_goals clear fct)
  refine LoopK.use G G_good (fun (k : Nat) => [(1, .ptr 10 0 0), (3, eInt k)]) (fun _ => [(10, .live 4 [eDesk ⟨l, ws, nx, bz⟩] false)]) (fun k => k ≤ l.length ∧ ∀ (j : Nat) (b : DefM), j < k → l[j]? = some b → okD l j b) (fun k => l.length - k) 0 ⟨Nat.zero_le _, fun j b hj => by omega⟩
    ⟨⟨rfl, rfl⟩, ⟨⟨rfl, rfl⟩, rfl, trivial⟩, ⟨⟨rfl, rfl, rfl, rfl, trivial⟩, trivial⟩, trivial⟩ ?_
  intro k ⟨hk, hno⟩
  with_reducible refine wK ?_
  refine IfK.mk (fun h1 => ?_) (fun h1 => ?_) <;> (try simp only [castN] at h1) <;> with_reducible refine wK ?_
  · simp only [hlm, decide_eq_true_eq] at h1
    have hk' : k < l.length := by omega
    obtain ⟨⟨n, lo, c⟩, hx⟩ : ∃ a, l[k]? = some a := ⟨_, List.getElem?_eq_getElem hk'⟩
    have hns : n.size ≤ 100000 := Nat.le_trans (hnm _ (List.mem_of_getElem? hx)).1 (by omega)
    have hf : (okD l k ⟨n, lo, c⟩ → False) → r = false := fun hn => by
      cases r with
      | false => rfl
      | true => exact absurd (hof (hrd.1 rfl).1 hx) hn
    refine IdxK.mk k (eDef ⟨n, lo, c⟩) rfl (def_get hx) ?_; with_reducible refine wK ?_
    cases hc : customS n with
    | false =>
      rw [hf (fun h => by have := (goodD_facts h.1).1; simp only at this; rw [hc] at this; cases this)]
      (have fct := n0; (repeat' (first
    | refine gF ?_
    | (((with_reducible show CallK _ _ 57 _ _ _ _); refine CallK.lit [] (f57_at hns hc) c57 ⟨rfl, trivial⟩ rfl rfl ?_) <;> with_reducible refine wK ?_)
    | ((with_reducible show (_ ∧ _) ∧ _ ∧ _); (refine eK ?_ ?_ <;> with_reducible repeat' (first | exact trivial | (show _ ∧ _; refine aK ?_ ?_)))))); all_goals clear fct)
    | true =>
      by_cases hlo : lo = n ∨ knowS lo = true
      · by_cases g3 : c < 0
        · rw [hf (fun h => by have := (goodD_facts h.1).2.2.1; simp only at this; omega)]
          by_cases e : lo = n
          · (have fct := And.intro g3 (e); (repeat' (first
    | refine gF ?_
    | (((with_reducible show CallK _ _ 57 _ _ _ _); refine CallK.lit [] (f57_at hns hc) c57 ⟨rfl, trivial⟩ rfl rfl ?_) <;> with_reducible refine wK ?_)
    | ((with_reducible show (_ ∧ _) ∧ _ ∧ _); (refine eK ?_ ?_ <;> with_reducible repeat' (first | exact trivial | (show _ ∧ _; refine aK ?_ ?_)))))); all_goals clear fct)
          · have hkn := hlo.resolve_left e
            (have fct := And.intro g3 (e); (repeat' (first
    | refine gF ?_
    | ((first
      | ((with_reducible show CallK _ _ 57 _ _ _ _); refine CallK.lit [] (f57_at hns hc) c57 ⟨rfl, trivial⟩ rfl rfl ?_)
      | ((with_reducible show CallK _ _ 60 _ _ _ _); refine CallK.lit [] (f60_at hkn) c60 ⟨rfl, trivial⟩ rfl rfl ?_)) <;> with_reducible refine wK ?_)
    | ((with_reducible show (_ ∧ _) ∧ _ ∧ _); (refine eK ?_ ?_ <;> with_reducible repeat' (first | exact trivial | (show _ ∧ _; refine aK ?_ ?_)))))); all_goals clear fct)
        · by_cases g4 : 11 < c
          · rw [hf (fun h => by have := (goodD_facts h.1).2.2.2; simp only at this; omega)]
            by_cases e : lo = n
            · (have fct := And.intro g3 (And.intro g4 (e)); (repeat' (first
    | refine gF ?_
    | (((with_reducible show CallK _ _ 57 _ _ _ _); refine CallK.lit [] (f57_at hns hc) c57 ⟨rfl, trivial⟩ rfl rfl ?_) <;> with_reducible refine wK ?_)
    | ((with_reducible show (_ ∧ _) ∧ _ ∧ _); (refine eK ?_ ?_ <;> with_reducible repeat' (first | exact trivial | (show _ ∧ _; refine aK ?_ ?_)))))); all_goals clear fct)
            · have hkn := hlo.resolve_left e
              (have fct := And.intro g3 (And.intro g4 (e)); (repeat' (first
    | refine gF ?_
    | ((first
      | ((with_reducible show CallK _ _ 57 _ _ _ _); refine CallK.lit [] (f57_at hns hc) c57 ⟨rfl, trivial⟩ rfl rfl ?_)
      | ((with_reducible show CallK _ _ 60 _ _ _ _); refine CallK.lit [] (f60_at hkn) c60 ⟨rfl, trivial⟩ rfl rfl ?_)) <;> with_reducible refine wK ?_)
    | ((with_reducible show (_ ∧ _) ∧ _ ∧ _); (refine eK ?_ ?_ <;> with_reducible repeat' (first | exact trivial | (show _ ∧ _; refine aK ?_ ?_)))))); all_goals clear fct)
          · obtain ⟨p, hp⟩ : ∃ p, posN l n = p := ⟨_, rfl⟩
            obtain ⟨q, hq⟩ : ∃ q, posC l c = q := ⟨_, rfl⟩
            by_cases g5 : p = k
            · by_cases g6 : q = k
              · have hokk : okD l k ⟨n, lo, c⟩ := by
                  refine ⟨?_, by rw [← g5]; exact hp, by rw [← g6]; exact hq⟩
                  unfold goodD localB
                  simp only [hc, Bool.true_and]
                  rw [show decide (0 ≤ c) = true from decide_eq_true (by omega), show decide (c < 12) = true from decide_eq_true (by omega)]
                  rcases hlo with e | e
                  · rw [decide_eq_true e]; rfl
                  · rw [e]; simp
                by_cases e : lo = n
                · (have fct := And.intro g3 (And.intro g4 (And.intro g5 (And.intro g6 (e)))); (repeat' (first
    | refine gF ?_
    | ((first
      | ((with_reducible show CallK _ _ 57 _ _ _ _); refine CallK.lit [] (f57_at hns hc) c57 ⟨rfl, trivial⟩ rfl rfl ?_)
      | ((with_reducible show CallK _ _ 58 _ _ _ _); refine CallK.lit [] (f58_at hsm hp) c58 ⟨⟨rfl, rfl, rfl, rfl, trivial⟩, rfl, trivial⟩ rfl rfl ?_)
      | ((with_reducible show CallK _ _ 59 _ _ _ _); refine CallK.lit [] (f59_at hsm hq) c59 ⟨⟨rfl, rfl, rfl, rfl, trivial⟩, rfl, trivial⟩ rfl rfl ?_)
      | ((with_reducible show NextK _ _); refine NextK.mk (k + 1) ⟨by omega, upto_succ' hno hx hokk⟩ (by omega) ⟨⟨rfl, rfl⟩, ⟨⟨rfl, rfl⟩, by show ((k + 1 : Nat) : Int) = (k : Int) + 1; omega, trivial⟩, ⟨⟨rfl, rfl, rfl, rfl, trivial⟩, trivial⟩, trivial⟩)) <;> with_reducible refine wK ?_)
    | ((with_reducible show (_ ∧ _) ∧ _ ∧ _); (refine eK ?_ ?_ <;> with_reducible repeat' (first | exact trivial | (show _ ∧ _; refine aK ?_ ?_)))))); all_goals clear fct)
                · have hkn := hlo.resolve_left e
                  (have fct := And.intro g3 (And.intro g4 (And.intro g5 (And.intro g6 (e)))); (repeat' (first
    | refine gF ?_
    | ((first
      | ((with_reducible show CallK _ _ 57 _ _ _ _); refine CallK.lit [] (f57_at hns hc) c57 ⟨rfl, trivial⟩ rfl rfl ?_)
      | ((with_reducible show CallK _ _ 60 _ _ _ _); refine CallK.lit [] (f60_at hkn) c60 ⟨rfl, trivial⟩ rfl rfl ?_)
      | ((with_reducible show CallK _ _ 58 _ _ _ _); refine CallK.lit [] (f58_at hsm hp) c58 ⟨⟨rfl, rfl, rfl, rfl, trivial⟩, rfl, trivial⟩ rfl rfl ?_)
      | ((with_reducible show CallK _ _ 59 _ _ _ _); refine CallK.lit [] (f59_at hsm hq) c59 ⟨⟨rfl, rfl, rfl, rfl, trivial⟩, rfl, trivial⟩ rfl rfl ?_)
      | ((with_reducible show NextK _ _); refine NextK.mk (k + 1) ⟨by omega, upto_succ' hno hx hokk⟩ (by omega) ⟨⟨rfl, rfl⟩, ⟨⟨rfl, rfl⟩, by show ((k + 1 : Nat) : Int) = (k : Int) + 1; omega, trivial⟩, ⟨⟨rfl, rfl, rfl, rfl, trivial⟩, trivial⟩, trivial⟩)) <;> with_reducible refine wK ?_)
    | ((with_reducible show (_ ∧ _) ∧ _ ∧ _); (refine eK ?_ ?_ <;> with_reducible repeat' (first | exact trivial | (show _ ∧ _; refine aK ?_ ?_)))))); all_goals clear fct)
              · rw [hf (fun h => g6 (by rw [← hq]; exact h.2.2))]
                by_cases e : lo = n
                · (have fct := And.intro g3 (And.intro g4 (And.intro g5 (And.intro g6 (e)))); (repeat' (first
    | refine gF ?_
    | ((first
      | ((with_reducible show CallK _ _ 57 _ _ _ _); refine CallK.lit [] (f57_at hns hc) c57 ⟨rfl, trivial⟩ rfl rfl ?_)
      | ((with_reducible show CallK _ _ 58 _ _ _ _); refine CallK.lit [] (f58_at hsm hp) c58 ⟨⟨rfl, rfl, rfl, rfl, trivial⟩, rfl, trivial⟩ rfl rfl ?_)
      | ((with_reducible show CallK _ _ 59 _ _ _ _); refine CallK.lit [] (f59_at hsm hq) c59 ⟨⟨rfl, rfl, rfl, rfl, trivial⟩, rfl, trivial⟩ rfl rfl ?_)) <;> with_reducible refine wK ?_)
    | ((with_reducible show (_ ∧ _) ∧ _ ∧ _); (refine eK ?_ ?_ <;> with_reducible repeat' (first | exact trivial | (show _ ∧ _; refine aK ?_ ?_)))))); all_goals clear fct)
                · have hkn := hlo.resolve_left e
                  (have fct := And.intro g3 (And.intro g4 (And.intro g5 (And.intro g6 (e)))); (repeat' (first
    | refine gF ?_
    | ((first
      | ((with_reducible show CallK _ _ 57 _ _ _ _); refine CallK.lit [] (f57_at hns hc) c57 ⟨rfl, trivial⟩ rfl rfl ?_)
      | ((with_reducible show CallK _ _ 60 _ _ _ _); refine CallK.lit [] (f60_at hkn) c60 ⟨rfl, trivial⟩ rfl rfl ?_)
      | ((with_reducible show CallK _ _ 58 _ _ _ _); refine CallK.lit [] (f58_at hsm hp) c58 ⟨⟨rfl, rfl, rfl, rfl, trivial⟩, rfl, trivial⟩ rfl rfl ?_)
      | ((with_reducible show CallK _ _ 59 _ _ _ _); refine CallK.lit [] (f59_at hsm hq) c59 ⟨⟨rfl, rfl, rfl, rfl, trivial⟩, rfl, trivial⟩ rfl rfl ?_)) <;> with_reducible refine wK ?_)
    | ((with_reducible show (_ ∧ _) ∧ _ ∧ _); (refine eK ?_ ?_ <;> with_reducible repeat' (first | exact trivial | (show _ ∧ _; refine aK ?_ ?_)))))); all_goals clear fct)
            · rw [hf (fun h => g5 (by rw [← hp]; exact h.2.1))]
              by_cases e : lo = n
              · (have fct := And.intro g3 (And.intro g4 (And.intro g5 (e))); (repeat' (first
    | refine gF ?_
    | ((first
      | ((with_reducible show CallK _ _ 57 _ _ _ _); refine CallK.lit [] (f57_at hns hc) c57 ⟨rfl, trivial⟩ rfl rfl ?_)
      | ((with_reducible show CallK _ _ 58 _ _ _ _); refine CallK.lit [] (f58_at hsm hp) c58 ⟨⟨rfl, rfl, rfl, rfl, trivial⟩, rfl, trivial⟩ rfl rfl ?_)) <;> with_reducible refine wK ?_)
    | ((with_reducible show (_ ∧ _) ∧ _ ∧ _); (refine eK ?_ ?_ <;> with_reducible repeat' (first | exact trivial | (show _ ∧ _; refine aK ?_ ?_)))))); all_goals clear fct)
              · have hkn := hlo.resolve_left e
                (have fct := And.intro g3 (And.intro g4 (And.intro g5 (e))); (repeat' (first
    | refine gF ?_
    | ((first
      | ((with_reducible show CallK _ _ 57 _ _ _ _); refine CallK.lit [] (f57_at hns hc) c57 ⟨rfl, trivial⟩ rfl rfl ?_)
      | ((with_reducible show CallK _ _ 60 _ _ _ _); refine CallK.lit [] (f60_at hkn) c60 ⟨rfl, trivial⟩ rfl rfl ?_)
      | ((with_reducible show CallK _ _ 58 _ _ _ _); refine CallK.lit [] (f58_at hsm hp) c58 ⟨⟨rfl, rfl, rfl, rfl, trivial⟩, rfl, trivial⟩ rfl rfl ?_)) <;> with_reducible refine wK ?_)
    | ((with_reducible show (_ ∧ _) ∧ _ ∧ _); (refine eK ?_ ?_ <;> with_reducible repeat' (first | exact trivial | (show _ ∧ _; refine aK ?_ ?_)))))); all_goals clear fct)
      · have e : ¬ lo = n := fun e => hlo (.inl e)
        have hkn : knowS lo = false := by cases h : knowS lo with | false => rfl | true => exact absurd (.inr h) hlo
        rw [hf (fun h => hlo (goodD_facts h.1).2.1)]
        (have fct := e; (repeat' (first
    | refine gF ?_
    | ((first
      | ((with_reducible show CallK _ _ 57 _ _ _ _); refine CallK.lit [] (f57_at hns hc) c57 ⟨rfl, trivial⟩ rfl rfl ?_)
      | ((with_reducible show CallK _ _ 60 _ _ _ _); refine CallK.lit [] (f60_at hkn) c60 ⟨rfl, trivial⟩ rfl rfl ?_)) <;> with_reducible refine wK ?_)
    | ((with_reducible show (_ ∧ _) ∧ _ ∧ _); (refine eK ?_ ?_ <;> with_reducible repeat' (first | exact trivial | (show _ ∧ _; refine aK ?_ ?_)))))); all_goals clear fct)
  · have hkl : k = l.length := by simp only [hlm, decide_eq_false_iff_not] at h1; omega
    subst hkl
    have hdefs : defsB l = true := hok hno
    have hrw : r = waitsB l nx (-1) ws := by
      cases hb : waitsB l nx (-1) ws with
      | true => exact hrd.2 ⟨hdefs, hb, by omega, by omega⟩
      | false => cases r with | false => rfl | true => rw [(hrd.1 rfl).2.1] at hb; cases hb
    (have fct := h1; (repeat' (first
    | refine gF ?_
    | ((with_reducible show (_ ∧ _) ∧ _ ∧ _); (refine eK ?_ ?_ <;> with_reducible repeat' (first | exact trivial | (show _ ∧ _; refine aK ?_ ?_)))))); all_goals clear fct)
    refine LoopK.use G G_good (fun (i : Nat × Int) => [(1, .ptr 10 0 0), (5, eInt i.2), (6, eInt i.1)]) (fun _ => [(10, .live 4 [eDesk ⟨l, ws, nx, bz⟩] false)]) (fun i => i.1 ≤ ws.length ∧ waitsB l nx i.2 (ws.drop i.1) = r) (fun i => ws.length - i.1) (0, -1) ⟨Nat.zero_le _, hrw.symm⟩
      ⟨⟨rfl, rfl⟩, ⟨⟨rfl, rfl⟩, rfl, rfl, trivial⟩, ⟨⟨rfl, rfl, rfl, rfl, trivial⟩, trivial⟩, trivial⟩ ?_
    rintro ⟨k, last⟩ ⟨hk, hI⟩
    simp only at hk hI
    with_reducible refine wK ?_
    refine IfK.mk (fun h2 => ?_) (fun h2 => ?_) <;> (try simp only [castN] at h2) <;> with_reducible refine wK ?_
    · simp only [hwm, decide_eq_true_eq] at h2
      have hk' : k < ws.length := by omega
      obtain ⟨⟨n, tk⟩, hx⟩ : ∃ a, ws[k]? = some a := ⟨_, List.getElem?_eq_getElem hk'⟩
      have hns : n.size ≤ 100000 := Nat.le_trans (hwn _ (List.mem_of_getElem? hx)) (by omega)
      rw [List.drop_eq_getElem_cons hk', (List.getElem?_eq_some_iff.1 hx).2, waitsB] at hI
      refine IdxK.mk k (eWait ⟨n, tk⟩) rfl (wait_get hx) ?_; with_reducible refine wK ?_
      obtain ⟨p, hp⟩ : ∃ p, posN l n = p := ⟨_, rfl⟩
      cases hc : customS n with
      | false =>
        rw [show r = false by rw [← hI]; unfold okW; simp [hc]]
        (have fct := hc; (repeat' (first
    | refine gF ?_
    | (((with_reducible show CallK _ _ 57 _ _ _ _); refine CallK.lit [] (f57_at hns hc) c57 ⟨rfl, trivial⟩ rfl rfl ?_) <;> with_reducible refine wK ?_)
    | ((with_reducible show (_ ∧ _) ∧ _ ∧ _); (refine eK ?_ ?_ <;> with_reducible repeat' (first | exact trivial | (show _ ∧ _; refine aK ?_ ?_)))))); all_goals clear fct)
      | true =>
        by_cases g1 : p = -1
        · by_cases g2 : tk ≤ last
          · rw [show r = false by rw [← hI]; unfold okW; simp [show ¬ last < tk from by omega]]
            (have fct := And.intro g1 (g2); (repeat' (first
    | refine gF ?_
    | ((first
      | ((with_reducible show CallK _ _ 57 _ _ _ _); refine CallK.lit [] (f57_at hns hc) c57 ⟨rfl, trivial⟩ rfl rfl ?_)
      | ((with_reducible show CallK _ _ 58 _ _ _ _); refine CallK.lit [] (f58_at hsm hp) c58 ⟨⟨rfl, rfl, rfl, rfl, trivial⟩, rfl, trivial⟩ rfl rfl ?_)) <;> with_reducible refine wK ?_)
    | ((with_reducible show (_ ∧ _) ∧ _ ∧ _); (refine eK ?_ ?_ <;> with_reducible repeat' (first | exact trivial | (show _ ∧ _; refine aK ?_ ?_)))))); all_goals clear fct)
          · by_cases g3 : nx ≤ tk
            · rw [show r = false by rw [← hI]; unfold okW; simp [show ¬ tk < nx from by omega]]
              (have fct := And.intro g1 (And.intro g2 (g3)); (repeat' (first
    | refine gF ?_
    | ((first
      | ((with_reducible show CallK _ _ 57 _ _ _ _); refine CallK.lit [] (f57_at hns hc) c57 ⟨rfl, trivial⟩ rfl rfl ?_)
      | ((with_reducible show CallK _ _ 58 _ _ _ _); refine CallK.lit [] (f58_at hsm hp) c58 ⟨⟨rfl, rfl, rfl, rfl, trivial⟩, rfl, trivial⟩ rfl rfl ?_)) <;> with_reducible refine wK ?_)
    | ((with_reducible show (_ ∧ _) ∧ _ ∧ _); (refine eK ?_ ?_ <;> with_reducible repeat' (first | exact trivial | (show _ ∧ _; refine aK ?_ ?_)))))); all_goals clear fct)
            · have hnext : waitsB l nx tk (ws.drop (k + 1)) = r := by
                rw [← hI]; unfold okW
                simp [hc, hp, g1, show last < tk from by omega, show tk < nx from by omega]
              (have fct := And.intro g1 (And.intro g2 (g3)); (repeat' (first
    | refine gF ?_
    | ((first
      | ((with_reducible show CallK _ _ 57 _ _ _ _); refine CallK.lit [] (f57_at hns hc) c57 ⟨rfl, trivial⟩ rfl rfl ?_)
      | ((with_reducible show CallK _ _ 58 _ _ _ _); refine CallK.lit [] (f58_at hsm hp) c58 ⟨⟨rfl, rfl, rfl, rfl, trivial⟩, rfl, trivial⟩ rfl rfl ?_)
      | ((with_reducible show NextK _ _); refine NextK.mk (k + 1, tk) ⟨by show k + 1 ≤ _; omega, hnext⟩ (by show ws.length - (k + 1) < ws.length - k; omega) ⟨⟨rfl, rfl⟩, ⟨⟨rfl, rfl⟩, rfl, by show ((k + 1 : Nat) : Int) = (k : Int) + 1; omega, trivial⟩, ⟨⟨rfl, rfl, rfl, rfl, trivial⟩, trivial⟩, trivial⟩)) <;> with_reducible refine wK ?_)
    | ((with_reducible show (_ ∧ _) ∧ _ ∧ _); (refine eK ?_ ?_ <;> with_reducible repeat' (first | exact trivial | (show _ ∧ _; refine aK ?_ ?_)))))); all_goals clear fct)
        · rw [show r = false by rw [← hI]; unfold okW; simp [hp, g1]]
          (have fct := g1; (repeat' (first
    | refine gF ?_
    | ((first
      | ((with_reducible show CallK _ _ 57 _ _ _ _); refine CallK.lit [] (f57_at hns hc) c57 ⟨rfl, trivial⟩ rfl rfl ?_)
      | ((with_reducible show CallK _ _ 58 _ _ _ _); refine CallK.lit [] (f58_at hsm hp) c58 ⟨⟨rfl, rfl, rfl, rfl, trivial⟩, rfl, trivial⟩ rfl rfl ?_)) <;> with_reducible refine wK ?_)
    | ((with_reducible show (_ ∧ _) ∧ _ ∧ _); (refine eK ?_ ?_ <;> with_reducible repeat' (first | exact trivial | (show _ ∧ _; refine aK ?_ ?_)))))); all_goals clear fct)
    · have hkl : k = ws.length := by simp only [hwm, decide_eq_false_iff_not] at h2; omega
      subst hkl
      rw [List.drop_length] at hI
      rw [← hI, show waitsB l nx last [] = true from by simp [waitsB]]
      (have fct := h2; (repeat' (first
    | refine gF ?_
    | ((with_reducible show (_ ∧ _) ∧ _ ∧ _); (refine eK ?_ ?_ <;> with_reducible repeat' (first | exact trivial | (show _ ∧ _; refine aK ?_ ?_)))))); all_goals clear fct)
end Go.Proofs.Heir
end
section
set_option linter.unusedSimpArgs false
set_option linter.unusedVariables false
namespace Go.Proofs.Heir
open Go.Am Go.RowKit Go.Lib
set_option maxRecDepth 100000
set_option maxHeartbeats 8000000
theorem f29_at {d : DeskM} {b : Bool} (h : ShortD d) (hb : rightD d = b) : FnOK Tryz.prog 29 [] [eDesk d] [] (eBool b) := by have := f29_ok d h; rwa [hb] at this
theorem f17_ok (d : DeskM) (h : ShortD d) (k : Int) (s base : ByteArray) (c : Int) (hs : s.size ≤ 100000) : FnOK Tryz.prog 17 [] [eDesk d, eInt k, eStr s, eStr base, eInt c] [] (eInt (mayD d k s base c)) := by
  have hsm := h.small
  obtain ⟨r, hr⟩ : ∃ r, rightD d = r := ⟨_, rfl⟩
  obtain ⟨p, hp⟩ : ∃ p, posN d.defs s = p := ⟨_, rfl⟩
  obtain ⟨q, hq⟩ : ∃ q, posC d.defs c = q := ⟨_, rfl⟩
  have hpc : p = -1 ∨ 0 ≤ p := by
    rcases ixI_cases (hasN s) d.defs with ⟨a, _⟩ | ⟨n, _, a, _⟩
    · exact .inl (by rw [← hp]; exact a)
    · exact .inr (by rw [← hp]; unfold posN; omega)
  have hqc : q = -1 ∨ 0 ≤ q := by
    rcases ixI_cases (hasC c) d.defs with ⟨a, _⟩ | ⟨n, _, a, _⟩
    · exact .inl (by rw [← hq]; exact a)
    · exact .inr (by rw [← hq]; unfold posC; omega)
  obtain ⟨l, ws, nx, bz⟩ := d
  refine FnOK.startC (rvs := [.tmp 10]) G G_good Tryz.func17 rfl Tryz.ntmps17 rfl rfl ?_; with_reducible refine wD ?_
  refine CallK.lit [] (f29_at h hr) c29 ⟨⟨rfl, rfl, rfl, rfl, trivial⟩, trivial⟩ rfl rfl ?_; with_reducible refine wK ?_
  cases r with
  | false =>
    rw [may1 (.inl hr)]
    (have fct := hr; (repeat' (first
    | refine gF ?_
    | ((with_reducible show (_ ∧ _) ∧ _ ∧ _); (refine eK ?_ ?_ <;> with_reducible repeat' (first | exact trivial | (show _ ∧ _; refine aK ?_ ?_)))))); all_goals clear fct)
  | true =>
    by_cases g2 : c < 0
    · rw [may1 (.inr (.inl g2))]
      (have fct := g2; (repeat' (first
    | refine gF ?_
    | ((with_reducible show (_ ∧ _) ∧ _ ∧ _); (refine eK ?_ ?_ <;> with_reducible repeat' (first | exact trivial | (show _ ∧ _; refine aK ?_ ?_)))))); all_goals clear fct)
    · by_cases g3 : k ≤ c
      · rw [may1 (.inr (.inr (.inl g3)))]
        (have fct := And.intro g2 (g3); (repeat' (first
    | refine gF ?_
    | ((with_reducible show (_ ∧ _) ∧ _ ∧ _); (refine eK ?_ ?_ <;> with_reducible repeat' (first | exact trivial | (show _ ∧ _; refine aK ?_ ?_)))))); all_goals clear fct)
      · by_cases g4 : 12 ≤ c
        · rw [may1 (.inr (.inr (.inr g4)))]
          have g4' : 11 < c := by omega
          (have fct := And.intro g2 (And.intro g3 (g4')); (repeat' (first
    | refine gF ?_
    | ((with_reducible show (_ ∧ _) ∧ _ ∧ _); (refine eK ?_ ?_ <;> with_reducible repeat' (first | exact trivial | (show _ ∧ _; refine aK ?_ ?_)))))); all_goals clear fct)
        · have g4' : ¬ 11 < c := by omega
          have hR : MayR ⟨l, ws, nx, bz⟩ k c := ⟨hr, by omega, by omega, by omega⟩
          cases hc : customS s with
          | false =>
            rw [may4 hR hc]
            (have fct := And.intro g2 (And.intro g3 (g4')); (repeat' (first
    | refine gF ?_
    | (((with_reducible show CallK _ _ 57 _ _ _ _); refine CallK.lit [] (f57_at hs hc) c57 ⟨rfl, trivial⟩ rfl rfl ?_) <;> with_reducible refine wK ?_)
    | ((with_reducible show (_ ∧ _) ∧ _ ∧ _); (refine eK ?_ ?_ <;> with_reducible repeat' (first | exact trivial | (show _ ∧ _; refine aK ?_ ?_)))))); all_goals clear fct)
          | true =>
            rcases hpc with rfl | hp0
            · rcases hqc with rfl | hq0
              · by_cases hb : base = emptyS
                · have hm7 := fun hz => may7 (s := s) (base := base) hR hc hp hq (.inl hb) hz
                  have hm0 := fun hz => may0 (s := s) (base := base) hR hc hp hq (.inl hb) hz
                  cases bz with
                  | true =>
                    rw [hm7 rfl]
                    rw [hb]
                    (have fct := And.intro g2 (And.intro g3 (And.intro g4' (e0))); (repeat' (first
    | refine gF ?_
    | ((first
      | ((with_reducible show CallK _ _ 57 _ _ _ _); refine CallK.lit [] (f57_at hs hc) c57 ⟨rfl, trivial⟩ rfl rfl ?_)
      | ((with_reducible show CallK _ _ 58 _ _ _ _); refine CallK.lit [] (f58_at hsm hp) c58 ⟨⟨rfl, rfl, rfl, rfl, trivial⟩, rfl, trivial⟩ rfl rfl ?_)
      | ((with_reducible show CallK _ _ 59 _ _ _ _); refine CallK.lit [] (f59_at hsm hq) c59 ⟨⟨rfl, rfl, rfl, rfl, trivial⟩, rfl, trivial⟩ rfl rfl ?_)) <;> with_reducible refine wK ?_)
    | ((with_reducible show (_ ∧ _) ∧ _ ∧ _); (refine eK ?_ ?_ <;> with_reducible repeat' (first | exact trivial | (show _ ∧ _; refine aK ?_ ?_)))))); all_goals clear fct)
                  | false =>
                    rw [hm0 rfl]
                    rw [hb]
                    (have fct := And.intro g2 (And.intro g3 (And.intro g4' (e0))); (repeat' (first
    | refine gF ?_
    | ((first
      | ((with_reducible show CallK _ _ 57 _ _ _ _); refine CallK.lit [] (f57_at hs hc) c57 ⟨rfl, trivial⟩ rfl rfl ?_)
      | ((with_reducible show CallK _ _ 58 _ _ _ _); refine CallK.lit [] (f58_at hsm hp) c58 ⟨⟨rfl, rfl, rfl, rfl, trivial⟩, rfl, trivial⟩ rfl rfl ?_)
      | ((with_reducible show CallK _ _ 59 _ _ _ _); refine CallK.lit [] (f59_at hsm hq) c59 ⟨⟨rfl, rfl, rfl, rfl, trivial⟩, rfl, trivial⟩ rfl rfl ?_)) <;> with_reducible refine wK ?_)
    | ((with_reducible show (_ ∧ _) ∧ _ ∧ _); (refine eK ?_ ?_ <;> with_reducible repeat' (first | exact trivial | (show _ ∧ _; refine aK ?_ ?_)))))); all_goals clear fct)
                · have hb' := empty_ne hb
                  cases hkn : knowS base with
                  | false =>
                    rw [may6 hR hc hp hq hb hkn]
                    (have fct := And.intro g2 (And.intro g3 (And.intro g4' (hb'))); (repeat' (first
    | refine gF ?_
    | ((first
      | ((with_reducible show CallK _ _ 57 _ _ _ _); refine CallK.lit [] (f57_at hs hc) c57 ⟨rfl, trivial⟩ rfl rfl ?_)
      | ((with_reducible show CallK _ _ 60 _ _ _ _); refine CallK.lit [] (f60_at hkn) c60 ⟨rfl, trivial⟩ rfl rfl ?_)
      | ((with_reducible show CallK _ _ 58 _ _ _ _); refine CallK.lit [] (f58_at hsm hp) c58 ⟨⟨rfl, rfl, rfl, rfl, trivial⟩, rfl, trivial⟩ rfl rfl ?_)
      | ((with_reducible show CallK _ _ 59 _ _ _ _); refine CallK.lit [] (f59_at hsm hq) c59 ⟨⟨rfl, rfl, rfl, rfl, trivial⟩, rfl, trivial⟩ rfl rfl ?_)) <;> with_reducible refine wK ?_)
    | ((with_reducible show (_ ∧ _) ∧ _ ∧ _); (refine eK ?_ ?_ <;> with_reducible repeat' (first | exact trivial | (show _ ∧ _; refine aK ?_ ?_)))))); all_goals clear fct)
                  | true =>
                    have hm7 := fun hz => may7 (s := s) (base := base) hR hc hp hq (.inr hkn) hz
                    have hm0 := fun hz => may0 (s := s) (base := base) hR hc hp hq (.inr hkn) hz
                    cases bz with
                    | true =>
                      rw [hm7 rfl]
                      (have fct := And.intro g2 (And.intro g3 (And.intro g4' (hb'))); (repeat' (first
    | refine gF ?_
    | ((first
      | ((with_reducible show CallK _ _ 57 _ _ _ _); refine CallK.lit [] (f57_at hs hc) c57 ⟨rfl, trivial⟩ rfl rfl ?_)
      | ((with_reducible show CallK _ _ 60 _ _ _ _); refine CallK.lit [] (f60_at hkn) c60 ⟨rfl, trivial⟩ rfl rfl ?_)
      | ((with_reducible show CallK _ _ 58 _ _ _ _); refine CallK.lit [] (f58_at hsm hp) c58 ⟨⟨rfl, rfl, rfl, rfl, trivial⟩, rfl, trivial⟩ rfl rfl ?_)
      | ((with_reducible show CallK _ _ 59 _ _ _ _); refine CallK.lit [] (f59_at hsm hq) c59 ⟨⟨rfl, rfl, rfl, rfl, trivial⟩, rfl, trivial⟩ rfl rfl ?_)) <;> with_reducible refine wK ?_)
    | ((with_reducible show (_ ∧ _) ∧ _ ∧ _); (refine eK ?_ ?_ <;> with_reducible repeat' (first | exact trivial | (show _ ∧ _; refine aK ?_ ?_)))))); all_goals clear fct)
                    | false =>
                      rw [hm0 rfl]
                      (have fct := And.intro g2 (And.intro g3 (And.intro g4' (hb'))); (repeat' (first
    | refine gF ?_
    | ((first
      | ((with_reducible show CallK _ _ 57 _ _ _ _); refine CallK.lit [] (f57_at hs hc) c57 ⟨rfl, trivial⟩ rfl rfl ?_)
      | ((with_reducible show CallK _ _ 60 _ _ _ _); refine CallK.lit [] (f60_at hkn) c60 ⟨rfl, trivial⟩ rfl rfl ?_)
      | ((with_reducible show CallK _ _ 58 _ _ _ _); refine CallK.lit [] (f58_at hsm hp) c58 ⟨⟨rfl, rfl, rfl, rfl, trivial⟩, rfl, trivial⟩ rfl rfl ?_)
      | ((with_reducible show CallK _ _ 59 _ _ _ _); refine CallK.lit [] (f59_at hsm hq) c59 ⟨⟨rfl, rfl, rfl, rfl, trivial⟩, rfl, trivial⟩ rfl rfl ?_)) <;> with_reducible refine wK ?_)
    | ((with_reducible show (_ ∧ _) ∧ _ ∧ _); (refine eK ?_ ?_ <;> with_reducible repeat' (first | exact trivial | (show _ ∧ _; refine aK ?_ ?_)))))); all_goals clear fct)
              · rw [may10 hR hc (.inr (by rw [hq]; exact hq0))]
                (have fct := And.intro g2 (And.intro g3 (And.intro g4' (hq0))); (repeat' (first
    | refine gF ?_
    | ((first
      | ((with_reducible show CallK _ _ 57 _ _ _ _); refine CallK.lit [] (f57_at hs hc) c57 ⟨rfl, trivial⟩ rfl rfl ?_)
      | ((with_reducible show CallK _ _ 58 _ _ _ _); refine CallK.lit [] (f58_at hsm hp) c58 ⟨⟨rfl, rfl, rfl, rfl, trivial⟩, rfl, trivial⟩ rfl rfl ?_)
      | ((with_reducible show CallK _ _ 59 _ _ _ _); refine CallK.lit [] (f59_at hsm hq) c59 ⟨⟨rfl, rfl, rfl, rfl, trivial⟩, rfl, trivial⟩ rfl rfl ?_)) <;> with_reducible refine wK ?_)
    | ((with_reducible show (_ ∧ _) ∧ _ ∧ _); (refine eK ?_ ?_ <;> with_reducible repeat' (first | exact trivial | (show _ ∧ _; refine aK ?_ ?_)))))); all_goals clear fct)
            · rw [may10 hR hc (.inl (by rw [hp]; exact hp0))]
              (have fct := And.intro g2 (And.intro g3 (And.intro g4' (hp0))); (repeat' (first
    | refine gF ?_
    | ((first
      | ((with_reducible show CallK _ _ 57 _ _ _ _); refine CallK.lit [] (f57_at hs hc) c57 ⟨rfl, trivial⟩ rfl rfl ?_)
      | ((with_reducible show CallK _ _ 58 _ _ _ _); refine CallK.lit [] (f58_at hsm hp) c58 ⟨⟨rfl, rfl, rfl, rfl, trivial⟩, rfl, trivial⟩ rfl rfl ?_)) <;> with_reducible refine wK ?_)
    | ((with_reducible show (_ ∧ _) ∧ _ ∧ _); (refine eK ?_ ?_ <;> with_reducible repeat' (first | exact trivial | (show _ ∧ _; refine aK ?_ ?_)))))); all_goals clear fct)
end Go.Proofs.Heir
end
section
set_option linter.unusedSimpArgs false
set_option linter.unusedVariables false
namespace Go.Proofs.Heir
open Go.Am Go.RowKit Go.Lib
set_option maxRecDepth 100000
set_option maxHeartbeats 8000000
def shortX (x : DefM) : Bool := decide (x.name.size ≤ 300) && decide (x.locl.size ≤ 300)
def shortW (w : WaitM) : Bool := decide (w.name.size ≤ 300)
def shortB (d : DeskM) : Bool := decide (d.defs.length ≤ 40) && decide (d.waits.length ≤ 40) && d.defs.all shortX && d.waits.all shortW
theorem shortB_iff {d : DeskM} : shortB d = true ↔ ShortD d := by
  unfold shortB shortX shortW
  simp only [Bool.and_eq_true, decide_eq_true_eq, List.all_eq_true]
  exact ⟨fun h => ⟨h.1.1.1, h.1.1.2, h.1.2, h.2⟩, fun h => ⟨⟨⟨h.defs, h.waits⟩, h.names⟩, h.wnames⟩⟩
theorem all_upto {α : Type} {p : α → Bool} {l : List α} (h : ∀ (j : Nat) (b : α), j < l.length → l[j]? = some b → p b = true) : l.all p = true := by
  rw [List.all_eq_true]
  intro x hx
  obtain ⟨j, hj⟩ := List.getElem?_of_mem hx
  exact h j x (List.getElem?_eq_some_iff.1 hj).1 hj
theorem all_fails {α : Type} {p : α → Bool} {l : List α} {x : α} (hx : x ∈ l) (h : p x = false) : l.all p = false := by
  cases hh : l.all p with
  | false => rfl
  | true => rw [List.all_eq_true.1 hh x hx] at h; cases h
theorem f14_ok (d : DeskM) : FnOK Tryz.prog 14 [] [eDesk d] [] (eBool (shortB d)) := by
  obtain ⟨r, hr⟩ : ∃ r, shortB d = r := ⟨_, rfl⟩
  rw [hr]
  have hsh := @shortB_iff d
  rw [hr] at hsh
  obtain ⟨l, ws, nx, bz⟩ := d
  unfold shortB at hr
  simp only at hr
  have hlm : (l.map oDef).length = l.length := List.length_map ..
  have hwm : (ws.map oWait).length = ws.length := List.length_map ..
  refine FnOK.startC (rvs := [.tmp 2]) G G_good Tryz.func14 rfl Tryz.ntmps14 rfl rfl ?_; with_reducible refine wD ?_
  by_cases g1 : l.length ≤ 40
  · by_cases g2 : ws.length ≤ 40
    · (have fct := And.intro hlm (And.intro hwm (And.intro g1 (g2))); (repeat' (first
    | refine gF ?_
    | ((with_reducible show (_ ∧ _) ∧ _ ∧ _); (refine eK ?_ ?_ <;> with_reducible repeat' (first | exact trivial | (show _ ∧ _; refine aK ?_ ?_)))))); all_goals clear fct)
      refine LoopK.use G G_good (fun (k : Nat) => [(1, .ptr 10 0 0), (3, eInt k)]) (fun _ => [(10, .live 4 [eDesk ⟨l, ws, nx, bz⟩] false)]) (fun k => k ≤ l.length ∧ ∀ (j : Nat) (b : DefM), j < k → l[j]? = some b → shortX b = true) (fun k => l.length - k) 0 ⟨Nat.zero_le _, fun j b hj => by omega⟩
        ⟨⟨rfl, rfl⟩, ⟨⟨rfl, rfl⟩, rfl, trivial⟩, ⟨⟨rfl, rfl, rfl, rfl, trivial⟩, trivial⟩, trivial⟩ ?_
      intro k ⟨hk, hno⟩
      with_reducible refine wK ?_
      refine IfK.mk (fun h1 => ?_) (fun h1 => ?_) <;> (try simp only [castN] at h1) <;> with_reducible refine wK ?_
      · simp only [hlm, decide_eq_true_eq] at h1
        have hk' : k < l.length := by omega
        obtain ⟨⟨n, lo, c⟩, hx⟩ : ∃ a, l[k]? = some a := ⟨_, List.getElem?_eq_getElem hk'⟩
        have hf : shortX ⟨n, lo, c⟩ = false → r = false := fun h => by rw [← hr, all_fails (List.mem_of_getElem? hx) h]; simp
        refine IdxK.mk k (eDef ⟨n, lo, c⟩) rfl (def_get hx) ?_; with_reducible refine wK ?_
        by_cases e1 : n.size ≤ 300
        · by_cases e2 : lo.size ≤ 300
          · (have fct := And.intro e1 (e2); (repeat' (first
    | refine gF ?_
    | ((first
      | ((with_reducible show IdxK _ _ _ _ _); refine IdxK.mk k (eDef ⟨n, lo, c⟩) rfl (def_get hx) ?_)
      | ((with_reducible show NextK _ _); refine NextK.mk (k + 1) ⟨by omega, upto_succ (P := fun b => shortX b = true) hno hx (by unfold shortX; simp [e1, e2])⟩ (by omega) ⟨⟨rfl, rfl⟩, ⟨⟨rfl, rfl⟩, by show ((k + 1 : Nat) : Int) = (k : Int) + 1; omega, trivial⟩, ⟨⟨rfl, rfl, rfl, rfl, trivial⟩, trivial⟩, trivial⟩)) <;> with_reducible refine wK ?_)
    | ((with_reducible show (_ ∧ _) ∧ _ ∧ _); (refine eK ?_ ?_ <;> with_reducible repeat' (first | exact trivial | (show _ ∧ _; refine aK ?_ ?_)))))); all_goals clear fct)
          · rw [hf (by unfold shortX; simp [e2])]
            (have fct := And.intro e1 (e2); (repeat' (first
    | refine gF ?_
    | (((with_reducible show IdxK _ _ _ _ _); refine IdxK.mk k (eDef ⟨n, lo, c⟩) rfl (def_get hx) ?_) <;> with_reducible refine wK ?_)
    | ((with_reducible show (_ ∧ _) ∧ _ ∧ _); (refine eK ?_ ?_ <;> with_reducible repeat' (first | exact trivial | (show _ ∧ _; refine aK ?_ ?_)))))); all_goals clear fct)
        · rw [hf (by unfold shortX; simp [e1])]
          (have fct := e1; (repeat' (first
    | refine gF ?_
    | ((with_reducible show (_ ∧ _) ∧ _ ∧ _); (refine eK ?_ ?_ <;> with_reducible repeat' (first | exact trivial | (show _ ∧ _; refine aK ?_ ?_)))))); all_goals clear fct)
      · have hkl : k = l.length := by simp only [hlm, decide_eq_false_iff_not] at h1; omega
        subst hkl
        have hall1 := all_upto hno
        (have fct := hlm; (repeat' (first
    | refine gF ?_
    | ((with_reducible show (_ ∧ _) ∧ _ ∧ _); (refine eK ?_ ?_ <;> with_reducible repeat' (first | exact trivial | (show _ ∧ _; refine aK ?_ ?_)))))); all_goals clear fct)
        refine LoopK.use G G_good (fun (k : Nat) => [(1, .ptr 10 0 0), (4, eInt k)]) (fun _ => [(10, .live 4 [eDesk ⟨l, ws, nx, bz⟩] false)]) (fun k => k ≤ ws.length ∧ ∀ (j : Nat) (b : WaitM), j < k → ws[j]? = some b → shortW b = true) (fun k => ws.length - k) 0 ⟨Nat.zero_le _, fun j b hj => by omega⟩
          ⟨⟨rfl, rfl⟩, ⟨⟨rfl, rfl⟩, rfl, trivial⟩, ⟨⟨rfl, rfl, rfl, rfl, trivial⟩, trivial⟩, trivial⟩ ?_
        intro k ⟨hk, hno⟩
        with_reducible refine wK ?_
        refine IfK.mk (fun h2 => ?_) (fun h2 => ?_) <;> (try simp only [castN] at h2) <;> with_reducible refine wK ?_
        · simp only [hwm, decide_eq_true_eq] at h2
          have hk' : k < ws.length := by omega
          obtain ⟨⟨n, t⟩, hx⟩ : ∃ a, ws[k]? = some a := ⟨_, List.getElem?_eq_getElem hk'⟩
          have hf : shortW ⟨n, t⟩ = false → r = false := fun h => by rw [← hr, all_fails (List.mem_of_getElem? hx) h]; simp
          refine IdxK.mk k (eWait ⟨n, t⟩) rfl (wait_get hx) ?_; with_reducible refine wK ?_
          by_cases e1 : n.size ≤ 300
          · (have fct := e1; (repeat' (first
    | refine gF ?_
    | (((with_reducible show NextK _ _); refine NextK.mk (k + 1) ⟨by omega, upto_succ (P := fun b => shortW b = true) hno hx (by unfold shortW; simp [e1])⟩ (by omega) ⟨⟨rfl, rfl⟩, ⟨⟨rfl, rfl⟩, by show ((k + 1 : Nat) : Int) = (k : Int) + 1; omega, trivial⟩, ⟨⟨rfl, rfl, rfl, rfl, trivial⟩, trivial⟩, trivial⟩) <;> with_reducible refine wK ?_)
    | ((with_reducible show (_ ∧ _) ∧ _ ∧ _); (refine eK ?_ ?_ <;> with_reducible repeat' (first | exact trivial | (show _ ∧ _; refine aK ?_ ?_)))))); all_goals clear fct)
          · rw [hf (by unfold shortW; simp [e1])]
            (have fct := e1; (repeat' (first
    | refine gF ?_
    | ((with_reducible show (_ ∧ _) ∧ _ ∧ _); (refine eK ?_ ?_ <;> with_reducible repeat' (first | exact trivial | (show _ ∧ _; refine aK ?_ ?_)))))); all_goals clear fct)
        · have hkl : k = ws.length := by simp only [hwm, decide_eq_false_iff_not] at h2; omega
          subst hkl
          have hall2 := all_upto hno
          rw [show r = true by rw [← hr, hall1, hall2]; simp [g1, g2]]
          (have fct := hwm; (repeat' (first
    | refine gF ?_
    | ((with_reducible show (_ ∧ _) ∧ _ ∧ _); (refine eK ?_ ?_ <;> with_reducible repeat' (first | exact trivial | (show _ ∧ _; refine aK ?_ ?_)))))); all_goals clear fct)
    · rw [show r = false by rw [← hr]; simp [g2]]
      (have fct := And.intro hlm (And.intro hwm (And.intro g1 (g2))); (repeat' (first
    | refine gF ?_
    | ((with_reducible show (_ ∧ _) ∧ _ ∧ _); (refine eK ?_ ?_ <;> with_reducible repeat' (first | exact trivial | (show _ ∧ _; refine aK ?_ ?_)))))); all_goals clear fct)
  · rw [show r = false by rw [← hr]; simp [g1]]
    (have fct := And.intro hlm (g1); (repeat' (first
    | refine gF ?_
    | ((with_reducible show (_ ∧ _) ∧ _ ∧ _); (refine eK ?_ ?_ <;> with_reducible repeat' (first | exact trivial | (show _ ∧ _; refine aK ?_ ?_)))))); all_goals clear fct)
end Go.Proofs.Heir
end
section
set_option linter.unusedSimpArgs false
set_option linter.unusedVariables false
namespace Go.Proofs.Heir
open Go Go.Am Go.RowKit Go.Lib
set_option maxRecDepth 100000
set_option maxHeartbeats 8000000
theorem f61_ok (f : ForM) (n : Int) : FnOK Tryz.prog 61 [] [eFor f, eInt n] [] (.clo (.func 103) [] [.fptr (eFor f) 0, .fptr (eInt n) 0]) := by
  obtain ⟨l, m⟩ := f
  refine FnOK.startC (rvs := [.tmp 4]) G G_good Tryz.func61 rfl Tryz.ntmps61 rfl rfl ?_; with_reducible refine wD ?_
  refine ⟨⟨rfl, rfl⟩, ⟨rfl, trivial, ⟨_, _, _, _, _, rfl, rfl, rfl, rfl, rfl, ⟨rfl, rfl, trivial⟩⟩, ⟨_, _, _, _, _, rfl, rfl, rfl, rfl, rfl, rfl⟩, trivial⟩, ?_⟩
  exact trivial
def bornM (s i : ByteArray) : Int := if (!decide (i = ⟨#[]⟩) || customS s) = true then 1 else 0
theorem f53_ok (s i : ByteArray) : FnOK Tryz.prog 53 [] [eStr s, eStr i] [] (eInt (bornM s i)) := by
  have h42 := f91_ok s
  unfold bornM
  refine FnOK.startC (rvs := [.tmp 4]) G G_good Tryz.func53 rfl Tryz.ntmps53 rfl rfl ?_; with_reducible refine wD ?_
  cases e : decide (i = ⟨#[]⟩) with
  | true =>
    cases hc : customS s <;> rw [hc] at h42 <;> (have fct := e; (repeat' (first
    | refine gF ?_
    | (((with_reducible show CallK _ _ 91 _ _ _ _); refine CallK.lit [] h42 c91 ⟨rfl, trivial⟩ rfl rfl ?_) <;> with_reducible refine wK ?_)
    | ((with_reducible show (_ ∧ _) ∧ _ ∧ _); (refine eK ?_ ?_ <;> with_reducible repeat' (first | exact trivial | (show _ ∧ _; refine aK ?_ ?_)))))); all_goals clear fct)
    all_goals rfl
  | false =>
    (have fct := e; (repeat' (first
    | refine gF ?_
    | ((with_reducible show (_ ∧ _) ∧ _ ∧ _); (refine eK ?_ ?_ <;> with_reducible repeat' (first | exact trivial | (show _ ∧ _; refine aK ?_ ?_)))))); all_goals clear fct)
    all_goals rfl
def fateD (x : NodeM) (d : DeskM) : Int := if x.kind = 1 ∧ x.doc = 0 then findD d x.name x.is else -1
theorem f62_ok (x : NodeM) (d : DeskM) (h : SmallD d) : FnOK Tryz.prog 62 [] [eNode x, eDesk d] [] (eInt (fateD x d)) := by
  have h78 := f105_ok d h x.name x.is
  obtain ⟨a1, a2, a3, a4, a5, a6, a7, a8, a9, a10⟩ := x
  obtain ⟨d1, d2, d3, d4⟩ := d
  unfold fateD
  simp only at h78 ⊢
  refine FnOK.startC (rvs := [.tmp 4]) G G_good Tryz.func62 rfl Tryz.ntmps62 rfl rfl ?_; with_reducible refine wD ?_
  by_cases e1 : a1 = 1
  · subst e1
    by_cases e2 : a10 = 0
    · subst e2
      rw [if_pos ⟨rfl, rfl⟩]
      repeat' (first
    | refine gK ?_
    | (((with_reducible show CallK _ _ 105 _ _ _ _); refine CallK.lit [] h78 c105 ⟨⟨rfl, rfl, rfl, rfl, trivial⟩, rfl, rfl, trivial⟩ rfl rfl ?_) <;> with_reducible refine wK ?_)
    | ((with_reducible show (_ ∧ _) ∧ _ ∧ _); (refine eK ?_ ?_ <;> with_reducible repeat' (first | exact trivial | (show _ ∧ _; refine aK ?_ ?_)))))
    · rw [if_neg fun h => e2 h.2]
      (have fct := e2; (repeat' (first
    | refine gF ?_
    | ((with_reducible show (_ ∧ _) ∧ _ ∧ _); (refine eK ?_ ?_ <;> with_reducible repeat' (first | exact trivial | (show _ ∧ _; refine aK ?_ ?_)))))); all_goals clear fct)
  · rw [if_neg fun h => e1 h.1]
    (have fct := e1; (repeat' (first
    | refine gF ?_
    | ((with_reducible show (_ ∧ _) ∧ _ ∧ _); (refine eK ?_ ?_ <;> with_reducible repeat' (first | exact trivial | (show _ ∧ _; refine aK ?_ ?_)))))); all_goals clear fct)
def fateF (f : ForM) (n : Int) (d : DeskM) : Int := if (thereN f.nodes n && rightF f) = true then fateD (nd f.nodes n) d else -1
theorem f19_ok (f : ForM) (hs : SmallN f.nodes) (n : Int) (d : DeskM) (h : SmallD d) : FnOK Tryz.prog 19 [] [eFor f, eInt n, eDesk d] [] (eInt (fateF f n d)) := by
  have h48 := f15_ok f hs
  have h49 := fun x => f62_ok x d h
  obtain ⟨l, m⟩ := f
  obtain ⟨d1, d2, d3, d4⟩ := d
  have hlm : (l.map oNode).length = l.length := List.length_map ..
  unfold fateF
  simp only at h48 h49 ⊢
  refine FnOK.startC (rvs := [.tmp 6]) G G_good Tryz.func19 rfl Tryz.ntmps19 rfl rfl ?_; with_reducible refine wD ?_
  by_cases e1 : n < 0
  · have e : thereN l n = false := by unfold thereN; rw [decide_eq_false (show ¬ 0 ≤ n by omega)]; rfl
    rw [e, Bool.false_and, if_neg (by simp)]
    (have fct := e1; (repeat' (first
    | refine gF ?_
    | ((with_reducible show (_ ∧ _) ∧ _ ∧ _); (refine eK ?_ ?_ <;> with_reducible repeat' (first | exact trivial | (show _ ∧ _; refine aK ?_ ?_)))))); all_goals clear fct)
  by_cases e2 : (l.length : Int) ≤ n
  · have e : thereN l n = false := by unfold thereN; rw [decide_eq_false (show ¬ n < (l.length : Int) by omega)]; simp
    rw [e, Bool.false_and, if_neg (by simp)]
    (have fct := And.intro hlm (And.intro (eq_false e1) (e2)); (repeat' (first
    | refine gF ?_
    | ((with_reducible show (_ ∧ _) ∧ _ ∧ _); (refine eK ?_ ?_ <;> with_reducible repeat' (first | exact trivial | (show _ ∧ _; refine aK ?_ ?_)))))); all_goals clear fct)
  have e : thereN l n = true := by unfold thereN; simp; omega
  rw [e, Bool.true_and]
  cases hr : rightF ⟨l, m⟩ with
  | false =>
    rw [hr] at h48
    rw [if_neg (by simp)]
    (have fct := And.intro hlm (And.intro (eq_false e1) ((eq_false e2))); (repeat' (first
    | refine gF ?_
    | (((with_reducible show CallK _ _ 15 _ _ _ _); refine CallK.lit [] h48 c15 ⟨⟨rfl, rfl, trivial⟩, trivial⟩ rfl rfl ?_) <;> with_reducible refine wK ?_)
    | ((with_reducible show (_ ∧ _) ∧ _ ∧ _); (refine eK ?_ ?_ <;> with_reducible repeat' (first | exact trivial | (show _ ∧ _; refine aK ?_ ?_)))))); all_goals clear fct)
  | true =>
    rw [hr] at h48
    rw [if_pos rfl]
    obtain ⟨k, x, rfl, hx, hnx⟩ := there_iff.1 e
    have h49 := h49 x
    rw [hnx]
    obtain ⟨a1, a2, a3, a4, a5, a6, a7, a8, a9, a10⟩ := x
    (have fct := And.intro hlm (And.intro (eq_false e1) ((eq_false e2))); (repeat' (first
    | refine gF ?_
    | ((first
      | ((with_reducible show CallK _ _ 15 _ _ _ _); refine CallK.lit [] h48 c15 ⟨⟨rfl, rfl, trivial⟩, trivial⟩ rfl rfl ?_)
      | ((with_reducible show IdxK _ _ _ _ _); refine IdxK.mk k (eNode ⟨a1, a2, a3, a4, a5, a6, a7, a8, a9, a10⟩) rfl (node_get hx) ?_)
      | ((with_reducible show CallK _ _ 62 _ _ _ _); refine CallK.lit [] h49 c62 ⟨⟨rfl, rfl, rfl, rfl, rfl, rfl, rfl, rfl, rfl, rfl, trivial⟩, ⟨rfl, rfl, rfl, rfl, trivial⟩, trivial⟩ rfl rfl ?_)) <;> with_reducible refine wK ?_)
    | ((with_reducible show (_ ∧ _) ∧ _ ∧ _); (refine eK ?_ ?_ <;> with_reducible repeat' (first | exact trivial | (show _ ∧ _; refine aK ?_ ?_)))))); all_goals clear fct)
end Go.Proofs.Heir
end
section
set_option linter.unusedSimpArgs false
set_option linter.unusedVariables false
namespace Go.Proofs.Heir
open Go Go.Am Go.RowKit Go.Lib
set_option maxRecDepth 100000
set_option maxHeartbeats 8000000
def isHeir (x : DefM) (y : NodeM) : Bool := decide (y.name = x.locl) && (decide (y.is = x.name) || decide (y.name = x.name))
def heirsU (f : ForM) (x : DefM) : List Int := (elemsU f.nodes (allU f 0)).filter fun c => isHeir x (nd f.nodes c)
theorem allU_there {f : ForM} {n : Int} : ∀ c ∈ allU f n, thereN f.nodes c = true := by
  intro c hc
  unfold allU at hc
  split at hc
  · rename_i h
    obtain ⟨hr, hn⟩ : rightF f = true ∧ thereN f.nodes n = true := by simpa using h
    exact (U.ord_way (U.tree_of hr) _ n hn c hc).1
  · simp at hc
theorem allU_len {f : ForM} {n : Int} : (allU f n).length ≤ f.nodes.length := by
  unfold allU
  split
  · rename_i h
    obtain ⟨hr, hn⟩ : rightF f = true ∧ thereN f.nodes n = true := by simpa using h
    exact U.ord_len (U.tree_of hr) _ hn
  · simp
theorem each_it' (f : ForM) (hs : SmallN f.nodes) (n : Int) : ItOK Tryz.prog 103 [.fptr (eFor f) 0, .fptr (eInt n) 0] (elemsU f.nodes (allU f n)).length (fun k => [oInt (((elemsU f.nodes (allU f n))[k]?).getD 0), eNode (nd f.nodes (((elemsU f.nodes (allU f n))[k]?).getD 0))]) := each_it f n (allU f n) (Nat.le_trans allU_len (by have := hs.len; omega)) allU_there (f104_ok f hs n) c104
theorem f18_ok (f : ForM) (hs : SmallN f.nodes) (x : DefM) : FnOK Tryz.prog 18 [] [eFor f, eDef x] [] (eInts (heirsU f x)) := by
  have h50 := f61_ok f 0
  have hit := each_it' f hs 0
  obtain ⟨es, hes⟩ : ∃ es, es = elemsU f.nodes (allU f 0) := ⟨_, rfl⟩
  rw [← hes] at hit
  unfold heirsU
  rw [← hes]
  have hel : es.length ≤ 60 := by
    rw [hes]; unfold elemsU
    exact Nat.le_trans (List.length_filter_le _ _) (Nat.le_trans allU_len hs.len)
  obtain ⟨l, m⟩ := f
  obtain ⟨x1, x2, x3⟩ := x
  simp only at hit hel ⊢
  refine FnOK.startC (rvs := [.tmp 4]) G G_good Tryz.func18 rfl Tryz.ntmps18 rfl rfl ?_; with_reducible refine wD ?_
  refine CallK.val [] h50 c61 ⟨⟨rfl, rfl, trivial⟩, rfl, trivial⟩ rfl rfl rfl ?_; with_reducible refine wK ?_
  repeat' (first
    | refine gK ?_
    | ((with_reducible show (_ ∧ _) ∧ _ ∧ _); (refine eK ?_ ?_ <;> with_reducible repeat' (first | exact trivial | (show _ ∧ _; refine aK ?_ ?_)))))
  refine LoopK.ghostRow 5 50 57 1 0 0 (.lit (.slice none 0 0)) (.own 57 0 0) rfl rfl rfl rfl rfl rfl ?_
  obtain ⟨ks, hks⟩ : ∃ ks : Nat → List Int, ks = fun k => (es.take k).filter fun c => isHeir ⟨x1, x2, x3⟩ (nd l c) := ⟨_, rfl⟩
  have hkl : ∀ k, (ks k).length ≤ 60 := fun k => by
    rw [hks]; exact Nat.le_trans (List.length_filter_le _ _) (by rw [List.length_take]; omega)
  have hk0 : ks 0 = [] := by rw [hks]; rfl
  have hstep : ∀ (k : Nat) (c : Int), es[k]? = some c → ks (k + 1) = ks k ++ if isHeir ⟨x1, x2, x3⟩ (nd l c) = true then [c] else [] := fun k c hc => by
    rw [hks]; show ((es.take (k + 1)).filter _) = _
    rw [List.take_add_one, hc, List.filter_append]
    congr 1
    show List.filter _ [c] = _
    rw [List.filter_cons]; rfl
  refine LoopK.range G G_good 2 [(3, .ptr 1 0 0), (5, .ptr 0 0 0), (9, .clo (.func 103) [] [.fptr (eFor ⟨l, m⟩) 0, .fptr (eInt 0) 0])]
    (fun k => [(0, .live 1 [.own 57 0 (ks k).length] false), (1, .live 3 [eDef ⟨x1, x2, x3⟩] false), (57, rInts (ks k))])
    hit c103 ?_ rfl ⟨⟨rfl, rfl⟩, rfl⟩ (fun _ _ => rfl) (fun _ _ => rfl) ⟨⟨rfl, rfl⟩, rfl, rfl⟩ ?_ ?_
  · rw [hk0]
    (refine fK ?_; (with_reducible repeat' (first | exact trivial | (show _ ∧ _; refine aK ?_ ?_))); (all_goals try rfl))
    · exact ⟨⟨rfl, rfl⟩, trivial⟩
    · exact ⟨.refl rfl, rfl⟩
    · show ObjK (MF _ _ _ 12) [] []
      exact ⟨.refl rfl, rfl⟩
  · intro k hk
    obtain ⟨c, hc⟩ : ∃ c, es[k]? = some c := ⟨_, List.getElem?_eq_getElem hk⟩
    rw [hc, Option.getD_some, show oInt c = eInt c from rfl]
    generalize hy : nd l c = y
    obtain ⟨a1, a2, a3, a4, a5, a6, a7, a8, a9, a10⟩ := y
    have hst := hstep k c hc
    rw [hy] at hst
    have hkk := hkl k
    have turn0 : isHeir ⟨x1, x2, x3⟩ ⟨a1, a2, a3, a4, a5, a6, a7, a8, a9, a10⟩ = false → ks (k + 1) = ks k := fun h => by rw [hst, h]; simp
    have turn1 : isHeir ⟨x1, x2, x3⟩ ⟨a1, a2, a3, a4, a5, a6, a7, a8, a9, a10⟩ = true → ks (k + 1) = ks k ++ [c] := fun h => by rw [hst, h]; simp
    clear hst hstep hit hy
    with_reducible refine wK ?_
    refine BodyK.mk rfl ?_; with_reducible refine wK ?_
    by_cases e1 : a2 = x2
    · by_cases e2 : a3 = x1
      · have h0 := turn1 (by unfold isHeir; rw [decide_eq_true e1, decide_eq_true e2]; rfl)
        (have fct := And.intro (eq_true e1) ((eq_true e2)); (repeat' (first
    | refine gF ?_
    | ((first
      | ((with_reducible show ElemK _ _ _ _ _); refine ElemK.mk (.agg [eStr x1, eStr x2, eInt x3]) rfl ?_)
      | ((with_reducible show AppK _ _ _ _ _ _ _ _ _ _); refine AppK.mk ((ks k).map oInt) [eInt c] ⟨rfl, (List.length_map ..).symm, rfl⟩ ⟨rfl, rfl, rfl⟩ rfl (by simp; omega) (by simp; omega) ?_)) <;> with_reducible refine wK ?_)
    | ((with_reducible show (_ ∧ _) ∧ _ ∧ _); (refine eK ?_ ?_ <;> with_reducible repeat' (first | exact trivial | (show _ ∧ _; refine aK ?_ ?_)))))); all_goals clear fct)
        refine TurnK.mk ?_
        rw [h0]
        (refine fK ?_; (with_reducible repeat' (first | exact trivial | (show _ ∧ _; refine aK ?_ ?_))); (all_goals try rfl))
        · simp
        · exact ⟨.refl rfl, rfl⟩
        · refine ⟨?_, noRef_ints _⟩
          rw [List.map_append]; exact .refl (by rw [← List.map_append]; exact noRef_ints _)
      · by_cases e3 : a2 = x1
        · have h0 := turn1 (by unfold isHeir; rw [decide_eq_true e1, decide_eq_true e3, Bool.or_true]; rfl)
          (have fct := And.intro (eq_true e1) (And.intro (eq_false e2) ((eq_true e3))); (repeat' (first
    | refine gF ?_
    | ((first
      | ((with_reducible show ElemK _ _ _ _ _); refine ElemK.mk (.agg [eStr x1, eStr x2, eInt x3]) rfl ?_)
      | ((with_reducible show AppK _ _ _ _ _ _ _ _ _ _); refine AppK.mk ((ks k).map oInt) [eInt c] ⟨rfl, (List.length_map ..).symm, rfl⟩ ⟨rfl, rfl, rfl⟩ rfl (by simp; omega) (by simp; omega) ?_)) <;> with_reducible refine wK ?_)
    | ((with_reducible show (_ ∧ _) ∧ _ ∧ _); (refine eK ?_ ?_ <;> with_reducible repeat' (first | exact trivial | (show _ ∧ _; refine aK ?_ ?_)))))); all_goals clear fct)
          refine TurnK.mk ?_
          rw [h0]
          (refine fK ?_; (with_reducible repeat' (first | exact trivial | (show _ ∧ _; refine aK ?_ ?_))); (all_goals try rfl))
          · simp
          · exact ⟨.refl rfl, rfl⟩
          · refine ⟨?_, noRef_ints _⟩
            rw [List.map_append]; exact .refl (by rw [← List.map_append]; exact noRef_ints _)
        · have h0 := turn0 (by unfold isHeir; rw [decide_eq_true e1, decide_eq_false e2, decide_eq_false e3]; rfl)
          (have fct := And.intro (eq_true e1) (And.intro (eq_false e2) ((eq_false e3))); (repeat' (first
    | refine gF ?_
    | (((with_reducible show ElemK _ _ _ _ _); refine ElemK.mk (.agg [eStr x1, eStr x2, eInt x3]) rfl ?_) <;> with_reducible refine wK ?_)
    | ((with_reducible show (_ ∧ _) ∧ _ ∧ _); (refine eK ?_ ?_ <;> with_reducible repeat' (first | exact trivial | (show _ ∧ _; refine aK ?_ ?_)))))); all_goals clear fct)
          refine TurnK.mk ?_
          rw [h0]
          (refine fK ?_; (with_reducible repeat' (first | exact trivial | (show _ ∧ _; refine aK ?_ ?_))); (all_goals try rfl))
          · exact ⟨.refl rfl, rfl⟩
          · exact ⟨.refl (noRef_ints _), noRef_ints _⟩
    · have h0 := turn0 (by unfold isHeir; rw [decide_eq_false e1]; rfl)
      (have fct := (eq_false e1); (repeat' (first
    | refine gF ?_
    | (((with_reducible show ElemK _ _ _ _ _); refine ElemK.mk (.agg [eStr x1, eStr x2, eInt x3]) rfl ?_) <;> with_reducible refine wK ?_)
    | ((with_reducible show (_ ∧ _) ∧ _ ∧ _); (refine eK ?_ ?_ <;> with_reducible repeat' (first | exact trivial | (show _ ∧ _; refine aK ?_ ?_)))))); all_goals clear fct)
      refine TurnK.mk ?_
      rw [h0]
      (refine fK ?_; (with_reducible repeat' (first | exact trivial | (show _ ∧ _; refine aK ?_ ?_))); (all_goals try rfl))
      · exact ⟨.refl rfl, rfl⟩
      · exact ⟨.refl (noRef_ints _), noRef_ints _⟩
  · with_reducible refine wK ?_
    have hke : ks es.length = es.filter fun c => isHeir ⟨x1, x2, x3⟩ (nd l c) := by rw [hks]; show List.filter _ (es.take es.length) = _; rw [List.take_length]
    rw [← hke]
    (refine eK ?_ ?_ <;> with_reducible repeat' (first | exact trivial | (show _ ∧ _; refine aK ?_ ?_)))
    all_goals exact frz_ints rfl rfl rfl rfl
end Go.Proofs.Heir
end
section
set_option linter.unusedSimpArgs false
set_option linter.unusedVariables false
namespace Go.Proofs.Heir
open Go Go.Am Go.RowKit Go.Lib
set_option maxRecDepth 100000
set_option maxHeartbeats 8000000
structure DueM where
  node : Int
  at' : Int
  deriving DecidableEq
@[reducible] def eDue (x : DueM) : AV := .agg [eInt x.node, eInt 9, eInt x.at', eStr ⟨#[]⟩, eBool false, eBool false, eStr ⟨#[]⟩, eStr ⟨#[]⟩, eInt 0, eInt 0, eBool false]
def oDue (x : DueM) : AV := eDue x
@[reducible] def eDues (l : List DueM) : AV := .sl 11 (l.map oDue)
@[reducible] def rDues (l : List DueM) : MS := .live 11 (l.map oDue) false
theorem noRef_dues (l : List DueM) : noRefL (l.map oDue) = true := noRefL_map oDue (fun _ => rfl) l
theorem frz_dues {m : ML} {fz : Nat → Bool} {tab : List (Nat × Nat)} {n t len : Nat} {ro : Bool} {rows : List AV} {l : List DueM} (h1 : lkM m t = .live 11 rows ro) (h2 : fz t = true) (h3 : rows = l.map oDue) (h4 : len = l.length) : FrzK m fz (MF tab fz m n) (eDues l) t 0 len := by
  subst h3; subst h4
  have e : (l.map oDue).length = l.length := List.length_map ..
  exact .cut h1 h2 (by omega) (by rw [List.drop_zero, List.take_of_length_le (by omega)]) (noRef_dues l)
def dueOf (l : List NodeM) (d : DeskM) (c : Int) : List DueM := if fateD (nd l c) d = -1 then [] else [⟨c, fateD (nd l c) d⟩]
def triesU (f : ForM) (n : Int) (d : DeskM) : List DueM := (elemsU f.nodes (allU f n)).flatMap (dueOf f.nodes d)
theorem dueOf_len (l : List NodeM) (d : DeskM) : ∀ cs : List Int, (cs.flatMap (dueOf l d)).length ≤ cs.length
  | [] => Nat.le_refl _
  | c :: r => by
    have := dueOf_len l d r
    rw [List.flatMap_cons, List.length_append, List.length_cons]
    have h2 : (dueOf l d c).length ≤ 1 := by unfold dueOf; split <;> simp
    omega
theorem f52_ok (f : ForM) (hs : SmallN f.nodes) (n : Int) (d : DeskM) (hd : SmallD d) : FnOK Tryz.prog 52 [] [eFor f, eInt n, eDesk d] [] (eDues (triesU f n d)) := by
  have h50 := f61_ok f n
  have hit := each_it' f hs n
  obtain ⟨es, hes⟩ : ∃ es, es = elemsU f.nodes (allU f n) := ⟨_, rfl⟩
  rw [← hes] at hit
  unfold triesU
  rw [← hes]
  have hel : es.length ≤ 60 := by
    rw [hes]; unfold elemsU
    exact Nat.le_trans (List.length_filter_le _ _) (Nat.le_trans allU_len hs.len)
  obtain ⟨l, m⟩ := f
  simp only at hit hel ⊢
  obtain ⟨ks, hks⟩ : ∃ ks : Nat → List DueM, ks = fun k => (es.take k).flatMap (dueOf l d) := ⟨_, rfl⟩
  have hkl : ∀ k, (ks k).length ≤ 60 := fun k => by
    rw [hks]; exact Nat.le_trans (dueOf_len _ _ _) (by rw [List.length_take]; omega)
  have hk0 : ks 0 = [] := by rw [hks]; rfl
  have hke : ks es.length = es.flatMap (dueOf l d) := by rw [hks]; show List.flatMap _ (es.take es.length) = _; rw [List.take_length]
  have hstep : ∀ (k : Nat) (c : Int), es[k]? = some c → ks (k + 1) = ks k ++ dueOf l d c := fun k c hc => by
    rw [hks]; show ((es.take (k + 1)).flatMap _) = _
    rw [List.take_add_one, hc, List.flatMap_append]
    congr 1
    show List.flatMap _ [c] = _
    rw [List.flatMap_cons]; simp
  rw [← hke]
  have h49 := fun x => f62_ok x d hd
  unfold dueOf at hstep
  obtain ⟨d1, d2, d3, d4⟩ := d
  refine FnOK.startC (rvs := [.tmp 6]) G G_good Tryz.func52 rfl Tryz.ntmps52 rfl rfl ?_; with_reducible refine wD ?_
  refine CallK.val [] h50 c61 ⟨⟨rfl, rfl, trivial⟩, rfl, trivial⟩ rfl rfl rfl ?_; with_reducible refine wK ?_
  repeat' (first
    | refine gK ?_
    | ((with_reducible show (_ ∧ _) ∧ _ ∧ _); (refine eK ?_ ?_ <;> with_reducible repeat' (first | exact trivial | (show _ ∧ _; refine aK ?_ ?_)))))
  refine LoopK.ghostRow 7 70 77 11 0 0 (.lit (.slice none 0 0)) (.own 77 0 0) rfl rfl rfl rfl rfl rfl ?_
  refine LoopK.range G G_good 2 [(5, .ptr 1 0 0), (7, .ptr 0 0 0), (13, .clo (.func 103) [] [.fptr (eFor ⟨l, m⟩) 0, .fptr (eInt n) 0])]
    (fun k => [(0, .live 1 [.own 77 0 (ks k).length] false), (1, .live 4 [eDesk ⟨d1, d2, d3, d4⟩] false), (77, rDues (ks k))])
    hit c103 ?_ rfl ⟨⟨rfl, rfl⟩, rfl⟩ (fun _ _ => rfl) (fun _ _ => rfl) ⟨⟨rfl, rfl⟩, rfl, rfl⟩ ?_ ?_
  · rw [hk0]
    (refine fK ?_; (with_reducible repeat' (first | exact trivial | (show _ ∧ _; refine aK ?_ ?_))); (all_goals try rfl))
    · exact ⟨⟨rfl, rfl⟩, trivial⟩
    · exact ⟨.refl rfl, rfl⟩
    · show ObjK (MF _ _ _ 12) [] []
      exact ⟨.refl rfl, rfl⟩
  · intro k hk
    obtain ⟨c, hc⟩ : ∃ c, es[k]? = some c := ⟨_, List.getElem?_eq_getElem hk⟩
    rw [hc, Option.getD_some, show oInt c = eInt c from rfl]
    generalize hy : nd l c = y
    have hst := hstep k c hc
    rw [hy] at hst
    have hkk := hkl k
    have h49y := h49 y
    obtain ⟨a1, a2, a3, a4, a5, a6, a7, a8, a9, a10⟩ := y
    clear hstep hit hy h49 hes hks hke
    generalize fateD ⟨a1, a2, a3, a4, a5, a6, a7, a8, a9, a10⟩ ⟨d1, d2, d3, d4⟩ = at' at hst h49y
    with_reducible refine wK ?_
    refine BodyK.mk rfl ?_; with_reducible refine wK ?_
    refine ElemK.mk (.agg [.sl 3 (d1.map oDef), .sl 2 (d2.map oWait), eInt d3, eBool d4]) rfl ?_; with_reducible refine wK ?_
    repeat' (first
    | refine gK ?_
    | (((with_reducible show CallK _ _ 62 _ _ _ _); refine CallK.lit [] h49y c62 ⟨⟨rfl, rfl, rfl, rfl, rfl, rfl, rfl, rfl, rfl, rfl, trivial⟩, ⟨rfl, rfl, rfl, rfl, trivial⟩, trivial⟩ rfl rfl ?_) <;> with_reducible refine wK ?_)
    | ((with_reducible show (_ ∧ _) ∧ _ ∧ _); (refine eK ?_ ?_ <;> with_reducible repeat' (first | exact trivial | (show _ ∧ _; refine aK ?_ ?_)))))
    by_cases e : at' = -1
    · rw [if_pos e, List.append_nil] at hst
      (have fct := (eq_true e); (repeat' (first
    | refine gF ?_
    | ((with_reducible show (_ ∧ _) ∧ _ ∧ _); (refine eK ?_ ?_ <;> with_reducible repeat' (first | exact trivial | (show _ ∧ _; refine aK ?_ ?_)))))); all_goals clear fct)
      refine TurnK.mk ?_
      rw [hst]
      (refine fK ?_; (with_reducible repeat' (first | exact trivial | (show _ ∧ _; refine aK ?_ ?_))); (all_goals try rfl))
      · exact ⟨.refl rfl, rfl⟩
      · exact ⟨.refl (noRef_dues _), noRef_dues _⟩
    · rw [if_neg e] at hst
      (have fct := (eq_false e); (repeat' (first
    | refine gF ?_
    | (((with_reducible show AppK _ _ _ _ _ _ _ _ _ _); refine AppK.mk ((ks k).map oDue) [eDue ⟨c, at'⟩] ⟨rfl, (List.length_map ..).symm, rfl⟩ ⟨rfl, rfl, rfl⟩ rfl (by simp; omega) (by simp; omega) ?_) <;> with_reducible refine wK ?_)
    | ((with_reducible show (_ ∧ _) ∧ _ ∧ _); (refine eK ?_ ?_ <;> with_reducible repeat' (first | exact trivial | (show _ ∧ _; refine aK ?_ ?_)))))); all_goals clear fct)
      refine TurnK.mk ?_
      rw [hst]
      (refine fK ?_; (with_reducible repeat' (first | exact trivial | (show _ ∧ _; refine aK ?_ ?_))); (all_goals try rfl))
      · simp
      · exact ⟨.refl rfl, rfl⟩
      · refine ⟨?_, noRef_dues _⟩
        rw [List.map_append]; exact .refl (by rw [← List.map_append]; exact noRef_dues _)
  · with_reducible refine wK ?_
    (refine eK ?_ ?_ <;> with_reducible repeat' (first | exact trivial | (show _ ∧ _; refine aK ?_ ?_)))
    all_goals exact frz_dues rfl rfl rfl rfl
end Go.Proofs.Heir
end
section
set_option linter.unusedSimpArgs false
set_option linter.unusedVariables false
namespace Go.Proofs.Heir
open Go Go.Am Go.RowKit Go.Lib
set_option maxRecDepth 100000
end Go.Proofs.Heir
end
section
set_option linter.unusedSimpArgs false
set_option linter.unusedVariables false
namespace Go.Proofs.Heir
open Go Go.Am Go.RowKit Go.Lib
set_option maxRecDepth 100000
set_option maxHeartbeats 8000000
end Go.Proofs.Heir
end
section
set_option linter.unusedSimpArgs false
set_option linter.unusedVariables false
namespace Go.Proofs.Heir
open Go Go.Am Go.RowKit Go.Lib
set_option maxRecDepth 100000
set_option maxHeartbeats 8000000
@[reducible] def vDue (a : DueM) : Value := .agg #[.int .i64 a.node, .int .i64 9, .int .i64 a.at', .string ⟨#[]⟩, .bool false, .bool false, .string ⟨#[]⟩, .string ⟨#[]⟩, .int .i64 0, .int .i64 0, .bool false]
theorem todo_eq (a b : Int) (w : World) : (Op.equalIn 9999 70 (.agg #[.int .i64 9, .int .i64 a, .string ⟨#[]⟩, .bool false, .bool false, .string ⟨#[]⟩, .string ⟨#[]⟩, .int .i64 0, .int .i64 0, .bool false]) (.agg #[.int .i64 9, .int .i64 b, .string ⟨#[]⟩, .bool false, .bool false, .string ⟨#[]⟩, .string ⟨#[]⟩, .int .i64 0, .int .i64 0, .bool false])).run Tryz.prog w = .ok (decide (a = b)) w := by
  have hS : Tryz.prog.underlying 70 = some (.struct (Tryz.prog.fieldsOf 70)) := by kernel_rfl
  have hp : Tryz.prog.stoodInHeld 70 = false := by kernel_rfl
  have u9 := Tryz.underlying9
  have a9 := Tryz.isAgg9
  have z9 := Tryz.sizeOf9
  have u3 := Tryz.underlying3
  have a3 := Tryz.isAgg3
  have z3 := Tryz.sizeOf3
  have u4 := Tryz.underlying4
  have a4 := Tryz.isAgg4
  have z4 := Tryz.sizeOf4
  rw [show (9999 : Nat) = 9998 + 1 from rfl, run_equalIn_agg w 9998 70 _ _ hS hp]
  simp only [Program.fieldsOf, Tryz.underlying70]
  go_simp
  by_cases h : a = b <;> simp [h]
theorem due_eq (a b : DueM) (w : World) : (Op.equalIn 10000 72 (vDue a) (vDue b)).run Tryz.prog w = .ok (decide (a = b)) w := by
  have hS : Tryz.prog.underlying 72 = some (.struct (Tryz.prog.fieldsOf 72)) := by kernel_rfl
  have hp : Tryz.prog.stoodInHeld 72 = false := by kernel_rfl
  have ht := todo_eq a.at' b.at' w
  have u72 := Tryz.underlying70
  have a72 := Tryz.isAgg70
  have z72 := Tryz.sizeOf70
  have u3 := Tryz.underlying3
  have a3 := Tryz.isAgg3
  have z3 := Tryz.sizeOf3
  rw [show (10000 : Nat) = 9999 + 1 from rfl, run_equalIn_agg w 9999 72 _ _ hS hp]
  simp only [Program.fieldsOf, Tryz.underlying72]
  go_simp
  obtain ⟨a1, a2⟩ := a
  obtain ⟨b1, b2⟩ := b
  simp only [DueM.mk.injEq]
  by_cases h1 : a1 = b1 <;> by_cases h2 : a2 = b2 <;> simp [h1, h2]
end Go.Proofs.Heir
end
section
set_option linter.unusedSimpArgs false
set_option linter.unusedVariables false
namespace Go.Proofs.Heir
open Go Go.Am Go.RowKit Go.Lib
set_option maxRecDepth 100000
set_option maxHeartbeats 8000000
end Go.Proofs.Heir
end
section
set_option linter.unusedSimpArgs false
set_option linter.unusedVariables false
namespace Go.Proofs.Heir
open Go Go.Am Go.RowKit Go.Lib
set_option maxRecDepth 100000
set_option maxHeartbeats 8000000
end Go.Proofs.Heir
end
section
set_option linter.unusedSimpArgs false
set_option linter.unusedVariables false
namespace Go.Proofs.Heir
open Go Go.Am Go.RowKit Go.Lib
set_option maxRecDepth 100000
set_option maxHeartbeats 8000000
def topN (l : List NodeM) (n : Int) : Int := ((U.wayN l n).getLast?).getD n
theorem top_top {l : List NodeM} (T : U.Tree l) {n : Int} (hn : thereN l n = true) (hp : upN (nd l n) = -1) : topN l n = n := by
  unfold topN; rw [U.way_top T hn hp]; rfl
theorem top_step {l : List NodeM} (T : U.Tree l) {n : Int} (hn : thereN l n = true) (hp : upN (nd l n) ≠ -1) (hu : thereN l (upN (nd l n)) = true) : topN l n = topN l (upN (nd l n)) := by
  obtain ⟨r, hr⟩ := U.way_head T hu
  unfold topN; rw [U.way_step T hn hp, hr, List.getLast?_cons_cons]
  cases h : (upN (nd l n) :: r).getLast? with
  | none => simp at h
  | some a => rfl
theorem up_there {l : List NodeM} (T : U.Tree l) : ∀ n, thereN l n = true → upN (nd l n) ≠ -1 → thereN l (upN (nd l n)) = true := by
  refine U.up_ind T (P := fun n => upN (nd l n) ≠ -1 → thereN l (upN (nd l n)) = true) (fun n hn h0 h => absurd h0 h) (fun n hn h0 h1 _ _ => h1)
theorem top_there {l : List NodeM} (T : U.Tree l) : ∀ n, thereN l n = true → thereN l (topN l n) = true := by
  refine U.up_ind T (fun n hn h => ?_) (fun n hn h hu ih => ?_)
  · rw [top_top T hn h]; exact hn
  · rw [top_step T hn h hu]; exact ih
theorem f107_ok (f : ForM) (k : Nat) (x : NodeM) (hx : f.nodes[k]? = some x) : FnOK Tryz.prog 107 [] [eFor f, eInt k] [] (eInt (upN x)) := by
  obtain ⟨l, m⟩ := f
  obtain ⟨a1, a2, a3, a4, a5, a6, a7, a8, a9, a10⟩ := x
  unfold upN
  refine FnOK.startC (rvs := [.tmp 4]) G G_good Tryz.func107 rfl Tryz.ntmps107 rfl rfl ?_; with_reducible refine wD ?_
  by_cases e : a6 = -1
  · subst e
    rw [if_pos rfl]
    repeat' (first
    | refine gK ?_
    | (((with_reducible show IdxK _ _ _ _ _); refine IdxK.mk k (eNode _) rfl (node_get hx) ?_) <;> with_reducible refine wK ?_)
    | ((with_reducible show (_ ∧ _) ∧ _ ∧ _); (refine eK ?_ ?_ <;> with_reducible repeat' (first | exact trivial | (show _ ∧ _; refine aK ?_ ?_)))))
  · rw [if_neg e]
    (have fct := (eq_false e); (repeat' (first
    | refine gF ?_
    | (((with_reducible show IdxK _ _ _ _ _); refine IdxK.mk k (eNode _) rfl (node_get hx) ?_) <;> with_reducible refine wK ?_)
    | ((with_reducible show (_ ∧ _) ∧ _ ∧ _); (refine eK ?_ ?_ <;> with_reducible repeat' (first | exact trivial | (show _ ∧ _; refine aK ?_ ?_)))))); all_goals clear fct)
def topF (f : ForM) (n : Int) : Int := if (rightF f && thereN f.nodes n) = true then topN f.nodes n else -1
theorem f63_ok (f : ForM) (hs : SmallN f.nodes) (n : Int) : FnOK Tryz.prog 63 [] [eFor f, eInt n] [] (eInt (topF f n)) := by
  have h86 := f106_ok f hs [n] (by simp)
  have e1 : (rightF f && !decide (0 ≤ idxI (fun n => !thereN f.nodes n) [n])) = (rightF f && thereN f.nodes n) := by
    congr 1
    unfold idxI
    cases h : thereN f.nodes n <;> simp [List.findIdx?_cons, h]
  rw [e1] at h86
  have h87 := fun k x hx => f107_ok f k x hx
  obtain ⟨l, m⟩ := f
  unfold topF
  simp only at h86 h87 ⊢
  refine FnOK.startC (rvs := [.tmp 4]) G G_good Tryz.func63 rfl Tryz.ntmps63 rfl rfl ?_; with_reducible refine wD ?_
  cases e0 : (rightF ⟨l, m⟩ && thereN l n) with
  | false =>
    rw [e0] at h86
    refine CallK.lit [71] h86 c106 ⟨⟨rfl, rfl, trivial⟩, frz_ints (l := [n]) rfl rfl rfl rfl, trivial⟩ rfl rfl ?_; with_reducible refine wK ?_
    repeat' (first
    | refine gK ?_
    | ((with_reducible show (_ ∧ _) ∧ _ ∧ _); (refine eK ?_ ?_ <;> with_reducible repeat' (first | exact trivial | (show _ ∧ _; refine aK ?_ ?_)))))
    all_goals rfl
  | true =>
    rw [e0] at h86
    refine CallK.lit [71] h86 c106 ⟨⟨rfl, rfl, trivial⟩, frz_ints (l := [n]) rfl rfl rfl rfl, trivial⟩ rfl rfl ?_; with_reducible refine wK ?_
    rw [if_pos rfl]
    obtain ⟨hr, hn⟩ : rightF ⟨l, m⟩ = true ∧ thereN l n = true := by simpa using e0
    have T := U.tree_of hr
    simp only at T
    repeat' (first
    | refine gK ?_
    | ((with_reducible show (_ ∧ _) ∧ _ ∧ _); (refine eK ?_ ?_ <;> with_reducible repeat' (first | exact trivial | (show _ ∧ _; refine aK ?_ ?_)))))
    refine LoopK.use G G_good (fun (c : Int) => [(1, eInt c), (2, .ptr 20 0 0)]) (fun c => [(20, .live 2 [eFor ⟨l, m⟩] false)])
      (fun c => thereN l c = true ∧ topN l c = topN l n) (fun c => (U.wayN l c).length) n ⟨hn, rfl⟩
      (by refine ⟨⟨rfl, rfl⟩, ⟨rfl, ⟨rfl, rfl⟩, trivial⟩, ⟨⟨rfl, rfl, trivial⟩, trivial⟩, trivial⟩) ?_
    rintro c ⟨hc, htop⟩
    with_reducible refine wK ?_
    obtain ⟨i, y, rfl, hy, hny⟩ := there_iff.1 hc
    have h := h87 i y hy
    by_cases e : upN y = -1
    · rw [e] at h
      rw [top_top T hc (by rw [hny]; exact e)] at htop
      repeat' (first
    | refine gK ?_
    | (((with_reducible show CallK _ _ 107 _ _ _ _); refine CallK.lit [] h c107 ⟨⟨rfl, rfl, trivial⟩, rfl, trivial⟩ rfl rfl ?_) <;> with_reducible refine wK ?_)
    | ((with_reducible show (_ ∧ _) ∧ _ ∧ _); (refine eK ?_ ?_ <;> with_reducible repeat' (first | exact trivial | (show _ ∧ _; refine aK ?_ ?_)))))
      all_goals exact htop.symm
    · have hu := up_there T _ hc (by rw [hny]; exact e)
      have hst := top_step T hc (by rw [hny]; exact e) hu
      have hway := U.way_step T hc (by rw [hny]; exact e)
      rw [hny] at hu hst hway
      generalize upN y = u at h e hu hst hway
      (have fct := (eq_false e); (repeat' (first
    | refine gF ?_
    | (((with_reducible show CallK _ _ 107 _ _ _ _); refine CallK.lit [] h c107 ⟨⟨rfl, rfl, trivial⟩, rfl, trivial⟩ rfl rfl ?_) <;> with_reducible refine wK ?_)
    | ((with_reducible show (_ ∧ _) ∧ _ ∧ _); (refine eK ?_ ?_ <;> with_reducible repeat' (first | exact trivial | (show _ ∧ _; refine aK ?_ ?_)))))); all_goals clear fct)
      refine NextK.mk u ⟨hu, by rw [← hst, htop]⟩ (by rw [hway]; simp) ⟨⟨rfl, rfl⟩, ⟨rfl, ⟨rfl, rfl⟩, trivial⟩, ⟨⟨rfl, rfl, trivial⟩, trivial⟩, trivial⟩
def conF (f : ForM) (n : Int) : Bool := (rightF f && thereN f.nodes n) && decide ((nd f.nodes (topN f.nodes n)).kind = 0)
theorem f21_ok (f : ForM) (hs : SmallN f.nodes) (n : Int) : FnOK Tryz.prog 21 [] [eFor f, eInt n] [] (eBool (conF f n)) := by
  have h63 := f63_ok f hs n
  unfold topF at h63
  unfold conF
  cases e0 : (rightF f && thereN f.nodes n) with
  | false =>
    rw [e0, if_neg (by simp)] at h63
    obtain ⟨l, m⟩ := f
    refine FnOK.startC (rvs := [.tmp 4]) G G_good Tryz.func21 rfl Tryz.ntmps21 rfl rfl ?_; with_reducible refine wD ?_
    repeat' (first
    | refine gK ?_
    | (((with_reducible show CallK _ _ 63 _ _ _ _); refine CallK.lit [] h63 c63 ⟨⟨rfl, rfl, trivial⟩, rfl, trivial⟩ rfl rfl ?_) <;> with_reducible refine wK ?_)
    | ((with_reducible show (_ ∧ _) ∧ _ ∧ _); (refine eK ?_ ?_ <;> with_reducible repeat' (first | exact trivial | (show _ ∧ _; refine aK ?_ ?_)))))
    all_goals rfl
  | true =>
    rw [e0, if_pos rfl] at h63
    obtain ⟨hr, hn⟩ : rightF f = true ∧ thereN f.nodes n = true := by simpa using e0
    have ht := top_there (U.tree_of hr) n hn
    obtain ⟨l, m⟩ := f
    simp only at h63 ht ⊢
    generalize topN l n = t at h63 ht ⊢
    obtain ⟨i, y, rfl, hy, hny⟩ := there_iff.1 ht
    rw [hny]
    obtain ⟨a1, a2, a3, a4, a5, a6, a7, a8, a9, a10⟩ := y
    refine FnOK.startC (rvs := [.tmp 4]) G G_good Tryz.func21 rfl Tryz.ntmps21 rfl rfl ?_; with_reducible refine wD ?_
    refine CallK.lit [] h63 c63 ⟨⟨rfl, rfl, trivial⟩, rfl, trivial⟩ rfl rfl ?_; with_reducible refine wK ?_
    (have fct := (show ¬ (i : Int) = -1 by omega); (repeat' (first
    | refine gF ?_
    | (((with_reducible show IdxK _ _ _ _ _); refine IdxK.mk i (eNode _) rfl (node_get hy) ?_) <;> with_reducible refine wK ?_)
    | ((with_reducible show (_ ∧ _) ∧ _ ∧ _); (refine eK ?_ ?_ <;> with_reducible repeat' (first | exact trivial | (show _ ∧ _; refine aK ?_ ?_)))))); all_goals clear fct)
    all_goals simp
end Go.Proofs.Heir
end
section
set_option linter.unusedSimpArgs false
set_option linter.unusedVariables false
namespace Go.Proofs.Heir
open Go Go.Am
set_option maxRecDepth 100000
set_option maxHeartbeats 8000000
theorem mt78 : MapTy Tryz.prog 204 .string (.agg #[.string ByteArray.empty, .string ByteArray.empty]) := ⟨9, 130, by kernel_rfl, by kernel_rfl, fun w => Tryz.zeroValue130 w⟩
noncomputable def fnsT : List (Nat × Func) := [(13, Tryz.f13), (45, Tryz.f45), (51, Tryz.f51), (91, Tryz.f91), (15, Tryz.f15), (144, Tryz.f144), (89, Tryz.f89), (90, Tryz.f90), (139, Tryz.f139), (142, Tryz.f142), (145, Tryz.f145), (54, Tryz.f54), (180, Tryz.f180), (136, Tryz.f136), (137, Tryz.f137), (138, Tryz.f138), (177, Tryz.f177), (92, Tryz.f92), (93, Tryz.f93), (94, Tryz.f94), (95, Tryz.f95), (96, Tryz.f96), (97, Tryz.f97), (120, Tryz.f120), (171, Tryz.f171), (172, Tryz.f172), (173, Tryz.f173), (174, Tryz.f174), (175, Tryz.f175), (134, Tryz.f134), (133, Tryz.f133), (146, Tryz.f146), (122, Tryz.f122), (147, Tryz.f147), (148, Tryz.f148), (149, Tryz.f149), (130, Tryz.f130), (192, Tryz.f192), (193, Tryz.f193), (194, Tryz.f194), (168, Tryz.f168), (165, Tryz.f165), (166, Tryz.f166), (167, Tryz.f167), (79, Tryz.f79), (208, Tryz.f208), (209, Tryz.f209), (169, Tryz.f169), (220, Tryz.f220)]
def kindsT : List (Nat × IntKind) := [(3, .i64), (5, .u8), (21, .i32), (33, .i64)]
theorem fnsT_ok : ∀ p ∈ fnsT, Tryz.prog.funcs[p.1]? = some p.2 ∧ Callable Tryz.prog p.1 := List.forall_mem_cons.2 ⟨⟨Tryz.func13, c13⟩, List.forall_mem_cons.2 ⟨⟨Tryz.func45, c45⟩, List.forall_mem_cons.2 ⟨⟨Tryz.func51, c51⟩, List.forall_mem_cons.2 ⟨⟨Tryz.func91, c91⟩, List.forall_mem_cons.2 ⟨⟨Tryz.func15, c15⟩, List.forall_mem_cons.2 ⟨⟨Tryz.func144, c144⟩, List.forall_mem_cons.2 ⟨⟨Tryz.func89, c89⟩, List.forall_mem_cons.2 ⟨⟨Tryz.func90, c90⟩, List.forall_mem_cons.2 ⟨⟨Tryz.func139, c139⟩, List.forall_mem_cons.2 ⟨⟨Tryz.func142, c142⟩, List.forall_mem_cons.2 ⟨⟨Tryz.func145, c145⟩, List.forall_mem_cons.2 ⟨⟨Tryz.func54, c54⟩, List.forall_mem_cons.2 ⟨⟨Tryz.func180, c180⟩, List.forall_mem_cons.2 ⟨⟨Tryz.func136, c136⟩, List.forall_mem_cons.2 ⟨⟨Tryz.func137, c137⟩, List.forall_mem_cons.2 ⟨⟨Tryz.func138, c138⟩, List.forall_mem_cons.2 ⟨⟨Tryz.func177, c177⟩, List.forall_mem_cons.2 ⟨⟨Tryz.func92, c92⟩, List.forall_mem_cons.2 ⟨⟨Tryz.func93, c93⟩, List.forall_mem_cons.2 ⟨⟨Tryz.func94, c94⟩, List.forall_mem_cons.2 ⟨⟨Tryz.func95, c95⟩, List.forall_mem_cons.2 ⟨⟨Tryz.func96, c96⟩, List.forall_mem_cons.2 ⟨⟨Tryz.func97, c97⟩, List.forall_mem_cons.2 ⟨⟨Tryz.func120, c120⟩, List.forall_mem_cons.2 ⟨⟨Tryz.func171, c171⟩, List.forall_mem_cons.2 ⟨⟨Tryz.func172, c172⟩, List.forall_mem_cons.2 ⟨⟨Tryz.func173, c173⟩, List.forall_mem_cons.2 ⟨⟨Tryz.func174, c174⟩, List.forall_mem_cons.2 ⟨⟨Tryz.func175, c175⟩, List.forall_mem_cons.2 ⟨⟨Tryz.func134, c134⟩, List.forall_mem_cons.2 ⟨⟨Tryz.func133, c133⟩, List.forall_mem_cons.2 ⟨⟨Tryz.func146, c146⟩, List.forall_mem_cons.2 ⟨⟨Tryz.func122, c122⟩, List.forall_mem_cons.2 ⟨⟨Tryz.func147, c147⟩, List.forall_mem_cons.2 ⟨⟨Tryz.func148, c148⟩, List.forall_mem_cons.2 ⟨⟨Tryz.func149, c149⟩, List.forall_mem_cons.2 ⟨⟨Tryz.func130, c130⟩, List.forall_mem_cons.2 ⟨⟨Tryz.func192, c192⟩, List.forall_mem_cons.2 ⟨⟨Tryz.func193, c193⟩, List.forall_mem_cons.2 ⟨⟨Tryz.func194, c194⟩, List.forall_mem_cons.2 ⟨⟨Tryz.func168, c168⟩, List.forall_mem_cons.2 ⟨⟨Tryz.func165, c165⟩, List.forall_mem_cons.2 ⟨⟨Tryz.func166, c166⟩, List.forall_mem_cons.2 ⟨⟨Tryz.func167, c167⟩, List.forall_mem_cons.2 ⟨⟨Tryz.func79, c79⟩, List.forall_mem_cons.2 ⟨⟨Tryz.func208, c208⟩, List.forall_mem_cons.2 ⟨⟨Tryz.func209, c209⟩, List.forall_mem_cons.2 ⟨⟨Tryz.func169, c169⟩, List.forall_mem_cons.2 ⟨⟨Tryz.func220, c220⟩, fun _ h => by simp at h⟩⟩⟩⟩⟩⟩⟩⟩⟩⟩⟩⟩⟩⟩⟩⟩⟩⟩⟩⟩⟩⟩⟩⟩⟩⟩⟩⟩⟩⟩⟩⟩⟩⟩⟩⟩⟩⟩⟩⟩⟩⟩⟩⟩⟩⟩⟩⟩⟩
theorem kindsT_ok : ∀ p ∈ kindsT, Tryz.prog.underlying p.1 = some (.int p.2) := List.forall_mem_cons.2 ⟨by kernel_rfl, List.forall_mem_cons.2 ⟨by kernel_rfl, List.forall_mem_cons.2 ⟨by kernel_rfl, List.forall_mem_cons.2 ⟨by kernel_rfl, fun _ h => by simp at h⟩⟩⟩⟩
def mapsT : MEnv := [(135, .int .i64, .int .i64 0), (204, .string, .agg #[.string ByteArray.empty, .string ByteArray.empty])]
theorem mapsT_ok : MEnv.Good Tryz.prog mapsT := List.forall_mem_cons.2 ⟨mt74, List.forall_mem_cons.2 ⟨mt78, fun _ h => by simp at h⟩⟩
end Go.Proofs.Heir
end
section
set_option linter.unusedSimpArgs false
set_option linter.unusedVariables false
namespace Go.Proofs.Heir
open Go Go.Am Go.RowKit Go.Lib
set_option maxRecDepth 100000
set_option maxHeartbeats 8000000
theorem i32_run (s t : TypeId) (c : Int) (h1 : Tryz.prog.underlying s = some (.int .i32)) (h2 : Tryz.prog.underlying t = some .string) : ∀ w, (convert s t (.int .i32 c)).run Tryz.prog w = .ok (.string (Utf8.encode c)) w :=
  fun w => run_convert_int_string w s t .i32 c (by rw [h1]; rfl) h2
theorem enc_size (c : Int) : (Utf8.encode c).size ≤ 4 := by
  unfold Utf8.encode
  simp only
  repeat' split
  all_goals exact Nat.le_of_ble_eq_true rfl
@[reducible] def aB : ByteArray := ⟨#[97]⟩
def wordB (r : Nat) : Bool := !rightS (aB ++ Utf8.encode (r : Int))
theorem f209_ok (c : Int) : FnOK Tryz.prog 209 [] [eRune c] [] (eBool (!rightS (aB ++ Utf8.encode c))) := by
  have hsz := enc_size c
  have ha : aB.size = 1 := rfl
  refine FnOK.startC (rvs := [.tmp 2]) G G_good Tryz.func209 rfl Tryz.ntmps209 rfl rfl ?_; with_reducible refine wD ?_
  refine ConvK.mk _ (i32_run 21 9 c (by kernel_rfl) (by kernel_rfl)) ?_; with_reducible refine wK ?_
  refine NeedK.mk (by have := enc_size c; have h1 : (⟨⟨[97]⟩⟩ : ByteArray).size = 1 := rfl; omega) ?_; with_reducible refine wK ?_
  refine CallK.lit [] (f139_ok _) c139 ⟨rfl, trivial⟩ rfl rfl ?_; with_reducible refine wK ?_
  (refine eK ?_ ?_ <;> with_reducible repeat' (first | exact trivial | (show _ ∧ _; refine aK ?_ ?_)))
  all_goals first | rfl | trace_state
theorem f178_word (s : ByteArray) : FnOK Tryz.prog 178 [] [eStr s, .lit (.func (.func 209) #[] #[])] [] (eInt (Lib.idxFunc wordB true s)) :=
  FnOK.of_calls (vs := [.string s, .func (.func 209) #[] #[]]) fun w ht => f178_calls 209 c209 wordB s w ht fun W x ht _ => (f209_ok (x : Int)).below (vs := [.int .i32 (x : Int)]) W ht
theorem f195_nil : FnOK Tryz.prog 195 [.live 2 [.agg [.lit (.pointer none), .lit (.slice none 0 0)]] false] [.ptr 0 0 0] [.live 2 [.agg [.lit (.pointer none), .lit (.slice none 0 0)]] false] (eStr ⟨#[]⟩) := by
  refine FnOK.startC (rvs := [.tmp 2]) G G_good Tryz.func195 rfl Tryz.ntmps195 rfl rfl ?_; with_reducible refine wD ?_
  refine ⟨[], .lit (.pointer none), [], EffOK.lits (ρ := fun _ => .slice none 0 0) (r := .pointer none) (by simp) (fun y hy => ?_) (fun w => ?_) (dst_ok rfl), ?_⟩
  · simp [Op.operands, Call.operands] at hy
    subst hy
    rfl
  · kernel_rfl
  with_reducible refine wK ?_
  refine ⟨[], .lit (.string ⟨#[]⟩), [], EffOK.lits (ρ := fun y => match y with | .tmp 7 => .pointer none | _ => .int .i64 0) (r := .string ⟨#[]⟩) (by simp) (fun y hy => ?_) (fun w => ?_) (dst_ok rfl), ?_⟩
  · simp [Op.operands, Call.operands] at hy
    rcases hy with rfl | rfl <;> rfl
  · kernel_rfl
  with_reducible refine wK ?_
  refine dK ?_; with_reducible refine wK ?_
  (refine eK ?_ ?_ <;> with_reducible repeat' (first | exact trivial | (show _ ∧ _; refine aK ?_ ?_)))
  all_goals first | rfl | exact .inl rfl | exact ⟨rfl, rfl⟩ | trace_state
def orcA : CallT := fun g ins args => match g with
  | 91 => match ins, args with
    | [], [.lit (.string s)] => some ([], eBool (customS s))
    | _, _ => none
  | 139 => match ins, args with
    | [], [.lit (.string s)] => some ([], eBool (rightS s))
    | _, _ => none
  | 134 => match ins, args with
    | [], [.lit (.string s)] => some ([], .tup [eStr (if rightS s then lowS s else ⟨#[]⟩), eInt (if rightS s then 0 else 4)])
    | _, _ => none
  | 178 => match ins, args with
    | [], [.lit (.string s), .lit (.func (.func 209) a b)] => match a.toList, b.toList with
      | [], [] => some ([], eInt (Lib.idxFunc wordB true s))
      | _, _ => none
    | _, _ => none
  | 195 => match ins, args with
    | [.live 2 [.agg [.lit (.pointer none), .lit (.slice none 0 0)]] false], [.ptr 0 0 0] => some ([.live 2 [.agg [.lit (.pointer none), .lit (.slice none 0 0)]] false], eStr ⟨#[]⟩)
    | _, _ => none
  | _ => none
theorem orcA_ok : ∀ g ins args outs res, orcA g ins args = some (outs, res) → FnOK Tryz.prog g ins args outs res ∧ Callable Tryz.prog g := by
  intro g ins args outs res h
  unfold orcA at h
  split at h
  · split at h
    · cases h; exact ⟨f91_ok _, c91⟩
    · cases h
  · split at h
    · cases h; exact ⟨f139_ok _, c139⟩
    · cases h
  · split at h
    · cases h; exact ⟨f134_ok _, c134⟩
    · cases h
  · split at h
    · split at h
      · rename_i ha hb
        cases h
        rename_i a b _ _
        obtain rfl := (Array.ext' ha : _ = #[])
        obtain rfl := (Array.ext' hb : _ = #[])
        exact ⟨f178_word _, c178⟩
      · cases h
    · cases h
  · split at h
    · cases h; exact ⟨f195_nil, c195⟩
    · cases h
  · cases h
noncomputable def envA : EEnv := ⟨G, mapsT, fnsT, kindsT, orcA⟩
theorem envA_good : envA.Good Tryz.prog := ⟨G_good, mapsT_ok, fnsT_ok, kindsT_ok, orcA_ok, by kernel_rfl⟩
end Go.Proofs.Heir
end
section
set_option linter.unusedSimpArgs false
set_option linter.unusedVariables false
namespace Go.Proofs.Heir
open Go Go.Am
set_option maxRecDepth 100000
def r15 : Ans := ⟨51, [], [.lit (.string ⟨⟨[60, 112, 62, 60, 120, 45, 97, 62, 60, 47, 120, 45, 97, 62, 60, 98, 33, 120, 45, 98, 62, 60, 47, 98, 62, 60, 120, 45, 98, 62, 60, 47, 120, 45, 98, 62, 60, 47, 112, 62]⟩⟩), .lit (.int .i64 (9))], [.live 10 [.agg [.lit (.int .i64 (0)), .lit (.string ⟨⟨[]⟩⟩), .lit (.string ⟨⟨[]⟩⟩), .lit (.string ⟨⟨[]⟩⟩), .lit (.slice none 0 0), .lit (.int .i64 (-1)), .lit (.slice none 0 0), .lit (.int .i64 (-1)), .lit (.int .i64 (-1)), .lit (.int .i64 (0))], .agg [.lit (.int .i64 (1)), .lit (.string ⟨⟨[112]⟩⟩), .lit (.string ⟨⟨[]⟩⟩), .lit (.string ⟨⟨[]⟩⟩), .lit (.slice none 0 0), .lit (.int .i64 (-1)), .own 1 0 3, .lit (.int .i64 (-1)), .lit (.int .i64 (-1)), .lit (.int .i64 (0))], .agg [.lit (.int .i64 (1)), .lit (.string ⟨⟨[120, 45, 97]⟩⟩), .lit (.string ⟨⟨[]⟩⟩), .lit (.string ⟨⟨[]⟩⟩), .lit (.slice none 0 0), .lit (.int .i64 (1)), .lit (.slice none 0 0), .lit (.int .i64 (-1)), .lit (.int .i64 (-1)), .lit (.int .i64 (0))], .agg [.lit (.int .i64 (1)), .lit (.string ⟨⟨[98]⟩⟩), .lit (.string ⟨⟨[120, 45, 98]⟩⟩), .lit (.string ⟨⟨[]⟩⟩), .lit (.slice none 0 0), .lit (.int .i64 (1)), .lit (.slice none 0 0), .lit (.int .i64 (-1)), .lit (.int .i64 (-1)), .lit (.int .i64 (0))], .agg [.lit (.int .i64 (1)), .lit (.string ⟨⟨[120, 45, 98]⟩⟩), .lit (.string ⟨⟨[]⟩⟩), .lit (.string ⟨⟨[]⟩⟩), .lit (.slice none 0 0), .lit (.int .i64 (1)), .lit (.slice none 0 0), .lit (.int .i64 (-1)), .lit (.int .i64 (-1)), .lit (.int .i64 (0))]] false, .live 1 [.lit (.int .i64 (2)), .lit (.int .i64 (3)), .lit (.int .i64 (4))] false], .tup [.agg [.own 0 0 5, .lit (.int .i64 (9))], .lit (.int .i64 (1)), .lit (.int .i64 (0))]⟩
theorem r15_run : runF envA 1000 60 r15.g r15.ins r15.args = some (r15.outs, r15.res) := by kernel_rfl
theorem r15_ok : r15.OK Tryz.prog := Ans.of envA_good r15_run
theorem r_last : FnOK Tryz.prog 51 r15.ins r15.args r15.outs r15.res := r15_ok.1
end Go.Proofs.Heir
end
section
set_option linter.unusedSimpArgs false
set_option linter.unusedVariables false
namespace Go.Am
open Go
theorem RowsM.of {R : AV → AV → Prop} : ∀ {a b : List AV}, MFL R a b → RowsM R a b
  | [], [], _ => ⟨rfl, fun i x y h => by simp at h⟩
  | x :: xs, y :: ys, h => by
    obtain ⟨h1, h2⟩ := RowsM.of h.2
    refine ⟨by simp [h1], fun i u v hu hv => ?_⟩
    cases i with
    | zero => cases hu; cases hv; exact h.1
    | succ i => exact h2 i u v hu hv
  | [], _ :: _, h => h.elim
  | _ :: _, [], h => h.elim
def wideB (wd : Nat) (rows : List AV) : Bool := rows.all fun r => (cells r).length == wd
def wideM (m : ML) : Bool := m.all fun p => match p.2 with
  | .live wd rows _ => wideB wd rows
  | _ => true
theorem wideM_ok {m : ML} (h : wideM m = true) : ∀ t wd rows ro, lkM m t = .live wd rows ro → Wide wd rows := by
  induction m with
  | nil => intro t wd rows ro h; cases h
  | cons p r ih =>
    intro t wd rows ro hl
    obtain ⟨a, b⟩ := p
    unfold wideM at h
    rw [List.all_cons, Bool.and_eq_true] at h
    rw [lkM_eq] at hl
    simp only [lookM] at hl
    cases hta : t == a with
    | true =>
      rw [hta] at hl
      change b = _ at hl
      subst hl
      exact Wide.of_mem fun x hx => by simpa using (List.all_eq_true.1 h.1) x hx
    | false =>
      rw [hta] at hl
      exact ih h.2 t wd rows ro (by rw [lkM_eq]; exact hl)
theorem FnOK.frozen {P : Program} {f : FuncId} {args : List AV} {outs : List MS} {res res' : AV} (m : ML) (hm : lookM m = objsOf outs) (hw : wideM m = true) (h : FnOK P f [] args outs res) (hcv : MF [] (fun _ => true) m 12 res' res) : FnOK P f [] args [] res' := by
  intro w W0 L vs hL hs hargs
  refine (h w W0 L vs hL hs hargs).mono ?_
  rintro e w' ⟨v, μ', rfl, hs', hv⟩
  have hLn : ∀ t, L t = none := fun t => hL t (Nat.zero_le _)
  have hW : ∀ b, Wr W0 (fun _ => none) (objsOf []) b → W0 b := by
    rintro b (h | ⟨t, B, wd, rows, _, h, _⟩)
    · exact h
    · cases h
  refine ⟨v, fun _ => none, rfl, ?_, ?_⟩
  · refine ⟨hs'.tsize, hs'.defers, hs'.os, hs'.tape, hs'.output, hs'.hsize, hs'.shp, hs'.keep, hs'.w0lt, fun t B _ h => (by rw [hLn] at h; cases h), fun t => by simp [bare, objsOf], fun _ => .any, fun t wd rows ro h => ?_, fun t t' wd rows wd' rows' ro' B B' _ h => ?_, fun t wd rows ro B h => ?_, hs'.tabs⟩ <;> simp [bare, objsOf] at h
  · have hc : Cv (lookM m) (renT []) (fun _ => False) (fun t => ∃ wd rows ro, lookM m t = .live wd rows ro) res' res :=
      MF_cv (fun t wd rows ro h _ => wideM_ok hw t wd rows ro h) (fun t u h => by cases h) (fun t wd rows ro h _ => ⟨wd, rows, ro, by rw [← lkM_eq]; exact h⟩) 12 res' res hcv
    rw [hm] at hc
    refine Cv.rep (W := Wr W0 μ' (objsOf outs)) (μ := μ') (fun t wd rows ro h => hs'.objs t wd rows ro h) (fun b _ hb => .inl (hW b hb)) (fun t h => h.elim) ?_ hc hv
    rintro s B ⟨wd, rows, ro, hl⟩ hB hv hb
    exact (hs'.out s wd rows ro B hl hB hv).1 (hW _ hb)
end Go.Am
namespace Go.Proofs.Heir
open Go Go.Am Go.RowKit Go.Lib
set_option maxRecDepth 100000
set_option maxHeartbeats 8000000
def awP : ByteArray := ⟨#[112]⟩
def awA : ByteArray := ⟨#[120, 45, 97]⟩
def awB : ByteArray := ⟨#[98]⟩
def awX : ByteArray := ⟨#[120, 45, 98]⟩
def awF : ForM := ⟨[⟨0, ⟨#[]⟩, ⟨#[]⟩, ⟨#[]⟩, [], -1, [], -1, -1, 0⟩, ⟨1, awP, ⟨#[]⟩, ⟨#[]⟩, [], -1, [2, 3, 4], -1, -1, 0⟩, ⟨1, awA, ⟨#[]⟩, ⟨#[]⟩, [], 1, [], -1, -1, 0⟩, ⟨1, awB, awX, ⟨#[]⟩, [], 1, [], -1, -1, 0⟩, ⟨1, awX, ⟨#[]⟩, ⟨#[]⟩, [], 1, [], -1, -1, 0⟩], 9⟩
def awT : ByteArray := ⟨#[60, 112, 62, 60, 120, 45, 97, 62, 60, 47, 120, 45, 97, 62, 60, 98, 33, 120, 45, 98, 62, 60, 47, 98, 62, 60, 120, 45, 98, 62, 60, 47, 120, 45, 98, 62, 60, 47, 112, 62]⟩
theorem fresh_ok : FnOK Tryz.prog 51 [] [eStr awT, eInt 9] [] (.tup [eFor awF, eInt 1, eInt 0]) := by
  have h := r_last
  refine FnOK.frozen (objsR 0 r15.outs) ?_ (by kernel_rfl) h ?_
  · funext t
    match t with
    | 0 => rfl
    | 1 => rfl
    | n + 2 => rfl
  · have nil2 : ∀ wd, NilK (.sl wd []) := fun wd => .inr (.inr ⟨wd, rfl⟩)
    refine ⟨⟨⟨10, _, _, _, rfl, rfl, rfl, by decide, rfl, RowsM.of ⟨?_, ?_, ?_, ?_, ?_, trivial⟩⟩, rfl, trivial⟩, rfl, rfl, trivial⟩
    · exact ⟨rfl, rfl, rfl, rfl, nil2 _, rfl, nil2 _, rfl, rfl, rfl, trivial⟩
    · exact ⟨rfl, rfl, rfl, rfl, nil2 _, rfl, ⟨1, _, _, _, rfl, rfl, rfl, by decide, rfl, RowsM.of ⟨rfl, rfl, rfl, trivial⟩⟩, rfl, rfl, rfl, trivial⟩
    · exact ⟨rfl, rfl, rfl, rfl, nil2 _, rfl, nil2 _, rfl, rfl, rfl, trivial⟩
    · exact ⟨rfl, rfl, rfl, rfl, nil2 _, rfl, nil2 _, rfl, rfl, rfl, trivial⟩
    · exact ⟨rfl, rfl, rfl, rfl, nil2 _, rfl, nil2 _, rfl, rfl, rfl, trivial⟩
end Go.Proofs.Heir
end
section
set_option linter.unusedSimpArgs false
set_option linter.unusedVariables false
namespace Go.Proofs.Heir
open Go Go.Am Go.RowKit Go.Lib
set_option maxRecDepth 100000
set_option maxHeartbeats 8000000
def awD : DeskM := ⟨[⟨awA, awA, 0⟩, ⟨awX, awB, 1⟩], [], 0, false⟩
theorem aw_small : SmallN awF.nodes := ⟨by decide, by decide, by decide, by decide⟩
theorem aw_smallD : SmallD awD := ⟨by decide, by decide⟩
theorem aw17 : FnOK Tryz.prog 52 [] [eFor awF, eInt 1, eDesk awD] [] (eDues [⟨2, 0⟩, ⟨3, 1⟩]) := by
  have h := f52_ok awF aw_small 1 awD aw_smallD
  rwa [show triesU awF 1 awD = [⟨2, 0⟩, ⟨3, 1⟩] from by kernel_rfl] at h
theorem aw16 : FnOK Tryz.prog 18 [] [eFor awF, eDef ⟨awA, awA, 0⟩] [] (eInts []) := by
  have h := f18_ok awF aw_small ⟨awA, awA, 0⟩
  rwa [show heirsU awF ⟨awA, awA, 0⟩ = [] from by kernel_rfl] at h
theorem aw15a : FnOK Tryz.prog 19 [] [eFor awF, eInt 4, eDesk awD] [] (eInt (-1)) := by
  have h := f19_ok awF aw_small 4 awD aw_smallD
  rwa [show fateF awF 4 awD = -1 from by kernel_rfl] at h
theorem aw15b : FnOK Tryz.prog 19 [] [eFor awF, eInt 3, eDesk awD] [] (eInt 1) := by
  have h := f19_ok awF aw_small 3 awD aw_smallD
  rwa [show fateF awF 3 awD = 1 from by kernel_rfl] at h
theorem aw11a : FnOK Tryz.prog 53 [] [eStr awP, eStr ⟨#[]⟩] [] (eInt 0) := by
  have h := f53_ok awP ⟨#[]⟩
  rwa [show bornM awP ⟨#[]⟩ = 0 from by kernel_rfl] at h
theorem aw11b : FnOK Tryz.prog 53 [] [eStr awA, eStr ⟨#[]⟩] [] (eInt 1) := by
  have h := f53_ok awA ⟨#[]⟩
  rwa [show bornM awA ⟨#[]⟩ = 1 from by kernel_rfl] at h
theorem due_eql (a b : DueM) (y z : Operand) (w : World) : ((do eqGuard .eql 72 y z (vDue a) (vDue b); binOp .eql 72 (vDue a) (vDue b) : Sem Value)).run Tryz.prog w = .ok (.bool (decide (a = b))) w := by
  rw [Sem.run_bind, run_eqGuard_agg w .eql 72 y z _ _ (by kernel_rfl), Result.andThen_ok, run_eql_struct, due_eq]
  rfl
theorem f12_ok : FnOK Tryz.prog 12 [] [] [] (eBool true) := by
  refine FnOK.startC (rvs := [.tmp 0]) G G_good Tryz.func12 rfl Tryz.ntmps12 rfl rfl ?_; with_reducible refine wD ?_
  refine CallK.val [] fresh_ok c51 ⟨rfl, rfl, trivial⟩ rfl rfl rfl ?_; with_reducible refine wK ?_
  repeat' (first
    | refine gK ?_
    | ((first
      | ((with_reducible show CallK _ _ 52 _ _ _ _); refine CallK.val [131] aw17 c52 ⟨⟨rfl, rfl, trivial⟩, rfl, ⟨⟨3, _, _, _, rfl, rfl, rfl, by decide, rfl, RowsM.of ⟨⟨rfl, rfl, rfl, trivial⟩, ⟨rfl, rfl, rfl, trivial⟩, trivial⟩⟩, .inr (.inr ⟨_, rfl⟩), rfl, rfl, trivial⟩, trivial⟩ rfl rfl rfl ?_)
      | ((with_reducible show CallK _ _ 19 _ _ _ _); first | refine CallK.lit [131] aw15a c19 ⟨⟨rfl, rfl, trivial⟩, rfl, ⟨⟨3, _, _, _, rfl, rfl, rfl, by decide, rfl, RowsM.of ⟨⟨rfl, rfl, rfl, trivial⟩, ⟨rfl, rfl, rfl, trivial⟩, trivial⟩⟩, .inr (.inr ⟨_, rfl⟩), rfl, rfl, trivial⟩, trivial⟩ rfl rfl ?_ | refine CallK.lit [131] aw15b c19 ⟨⟨rfl, rfl, trivial⟩, rfl, ⟨⟨3, _, _, _, rfl, rfl, rfl, by decide, rfl, RowsM.of ⟨⟨rfl, rfl, rfl, trivial⟩, ⟨rfl, rfl, rfl, trivial⟩, trivial⟩⟩, .inr (.inr ⟨_, rfl⟩), rfl, rfl, trivial⟩, trivial⟩ rfl rfl ?_)
      | ((with_reducible show CallK _ _ 18 _ _ _ _); refine CallK.val [] aw16 c18 ⟨⟨rfl, rfl, trivial⟩, ⟨rfl, rfl, rfl, trivial⟩, trivial⟩ rfl rfl rfl ?_)
      | ((with_reducible show CallK _ _ 53 _ _ _ _); first | refine CallK.lit [] aw11a c53 ⟨rfl, rfl, trivial⟩ rfl rfl ?_ | refine CallK.lit [] aw11b c53 ⟨rfl, rfl, trivial⟩ rfl rfl ?_)
      | ((with_reducible show IdxK _ 0 _ _ _); refine IdxK.mk 0 (eDue ⟨2, 0⟩) rfl rfl ?_)
      | ((with_reducible show IdxK _ 1 _ _ _); refine IdxK.mk 1 (eDue ⟨3, 1⟩) rfl rfl ?_)
      | ((with_reducible show LtK _ _ _ _ _); refine LtK.mk 0 rfl (by decide) ?_)
      | ((with_reducible show ElemK _ _ _ _ _); refine ElemK.mk (eDef ⟨awA, awA, 0⟩) rfl ?_)
      | ((with_reducible show EqK _ _ _ _ _ _ _ _); refine EqK.mk _ (fun y z w => due_eql ⟨3, 1⟩ ⟨3, 1⟩ y z w) ?_)) <;> with_reducible refine wK ?_)
    | ((with_reducible show (_ ∧ _) ∧ _ ∧ _); (refine eK ?_ ?_ <;> with_reducible repeat' (first | exact trivial | (show _ ∧ _; refine aK ?_ ?_)))))
  all_goals rfl
end Go.Proofs.Heir
end
section
set_option linter.unusedSimpArgs false
set_option linter.unusedVariables false
namespace Go.Proofs.Heir
open Go Go.Am Go.RowKit Go.Lib
set_option maxRecDepth 100000
set_option maxHeartbeats 8000000
theorem there0 {f : ForM} (h : rightF f = true) : thereN f.nodes 0 = true := by
  unfold rightF at h
  rw [Bool.and_eq_true] at h
  have h1 := h.1
  obtain ⟨l, m⟩ := f
  cases l with
  | nil => simp [headOK] at h1
  | cons a r => unfold thereN; simp
theorem heirs_some {f : ForM} (x : DefM) (h : rightF f = true) : heirsU f x = ((elemsU f.nodes (U.ordN f.nodes f.nodes.length 0)).filter fun c => isHeir x (nd f.nodes c)) := by unfold heirsU allU; rw [h, there0 h]; rfl
end Go.Proofs.Heir
end
section
set_option linter.unusedSimpArgs false
set_option linter.unusedVariables false
namespace Go.Proofs.Heir
open Go Go.Am Go.RowKit Go.Lib
set_option maxRecDepth 100000
set_option maxHeartbeats 8000000
theorem ch_doc {f : ForM} (h : rightF f = true) {n k : Int} (hn : thereN f.nodes n = true) (hk : k ∈ chU (nd f.nodes n)) : (nd f.nodes k).doc = (nd f.nodes n).doc := by
  have hN := right_nodes h
  have h1 := hN n hn
  unfold chU at hk
  rcases List.mem_append.1 hk with hk | hk
  · by_cases hu : (nd f.nodes n).under = -1
    · rw [if_pos hu] at hk; cases hk
    · rw [if_neg hu, List.mem_singleton] at hk
      subst hk
      unfold nodeOK shadedN isN at h1
      simp only [Bool.and_eq_true, Bool.or_eq_true, decide_eq_true_eq] at h1
      rcases h1.2.2.2.2.2 with h2 | h2
      · exact absurd h2 hu
      · have h3 := hN _ h2.1.2.1
        unfold nodeOK shadedN at h3
        simp only [Bool.and_eq_true] at h3
        have h4 := h3.2.2.2.2.1
        rw [if_pos h2.1.2.2] at h4
        simp only [Bool.and_eq_true, decide_eq_true_eq] at h4
        rw [← h4.2, h2.2]
  · unfold nodeOK bearsN at h1
    simp only [Bool.and_eq_true] at h1
    have h2 := (kidsOK_iff.1 h1.2.2.2.1.1).1 k hk
    unfold kidP at h2
    simp only [Bool.and_eq_true, Bool.or_eq_true, decide_eq_true_eq] at h2
    exact h2.2.2.1
theorem doc0 {f : ForM} (h : rightF f = true) : (nd f.nodes 0).doc = 0 := by
  have h1 := right_nodes h 0 (there0 h)
  unfold nodeOK ownedN at h1
  simp only [Bool.and_eq_true, Bool.or_eq_true, decide_eq_true_eq] at h1
  have h2 : (nd f.nodes 0).kind = 0 := by
    unfold rightF headOK at h
    simp only [Bool.and_eq_true, decide_eq_true_eq] at h
    exact h.1.2
  rcases h1.2.1.2 with h3 | h3
  · exact absurd h2 h3
  · exact h3
theorem doc_up {f : ForM} (h : rightF f = true) {n : Int} (hn : thereN f.nodes n = true) (hu : upN (nd f.nodes n) ≠ -1) : (nd f.nodes (upN (nd f.nodes n))).doc = (nd f.nodes n).doc := by
  have T := U.tree_of h
  obtain ⟨h1, h2⟩ := T.par n hn hu
  exact (ch_doc h h1 h2).symm
theorem top_doc {f : ForM} (h : rightF f = true) : ∀ n, thereN f.nodes n = true → (nd f.nodes (topN f.nodes n)).doc = (nd f.nodes n).doc := by
  have T := U.tree_of h
  refine U.up_ind T (fun n hn h0 => ?_) (fun n hn h0 hu ih => ?_)
  · rw [top_top T hn h0]
  · rw [top_step T hn h0 hu, ih, doc_up h hn h0]
theorem doc_self {f : ForM} (h : rightF f = true) {n : Int} (hn : thereN f.nodes n = true) (hk : (nd f.nodes n).kind = 0) : (nd f.nodes n).doc = n := by
  have h1 := right_nodes h n hn
  unfold nodeOK ownedN at h1
  simp only [Bool.and_eq_true, Bool.or_eq_true, decide_eq_true_eq] at h1
  rcases h1.2.1.2 with h3 | h3
  · exact absurd hk h3
  · exact h3
theorem up0 {f : ForM} (h : rightF f = true) : upN (nd f.nodes 0) = -1 ∧ (nd f.nodes 0).kind = 0 := by
  have h2 : (nd f.nodes 0).kind = 0 := by
    unfold rightF headOK at h
    simp only [Bool.and_eq_true, decide_eq_true_eq] at h
    exact h.1.2
  have h1 := right_nodes h 0 (there0 h)
  unfold nodeOK hungN shadedN at h1
  simp only [Bool.and_eq_true, Bool.or_eq_true, decide_eq_true_eq] at h1
  refine ⟨?_, h2⟩
  have hp : (nd f.nodes 0).parent = -1 := by
    rcases h1.2.2.1 with h3 | h3
    · exact h3
    · rcases h3.1.1.1 with h4 | h4 <;> (rw [h2] at h4; cases h4)
  have hh := h1.2.2.2.2.1
  rw [if_neg (by rw [h2]; decide)] at hh
  unfold upN; rw [if_pos hp]; simpa using hh
theorem top_way {l : List NodeM} (T : U.Tree l) : ∀ n, thereN l n = true → topN l n ∈ U.wayN l n ∧ ∀ a ∈ U.wayN l n, topN l a = topN l n := by
  refine U.up_ind T (fun n hn h0 => ?_) (fun n hn h0 hu ih => ?_)
  · rw [top_top T hn h0]
    refine ⟨U.way_self T hn, fun a ha => ?_⟩
    rw [U.way_top T hn h0] at ha; rw [List.mem_singleton.1 ha, top_top T hn h0]
  · rw [top_step T hn h0 hu, U.way_step T hn h0]
    refine ⟨List.mem_cons_of_mem _ ih.1, fun a ha => ?_⟩
    rcases List.mem_cons.1 ha with rfl | ha
    · exact top_step T hn h0 hu
    · exact ih.2 a ha
theorem ord_top {f : ForM} (h : rightF f = true) {n : Int} (hn : thereN f.nodes n = true) : n ∈ U.ordN f.nodes f.nodes.length 0 ↔ topN f.nodes n = 0 := by
  have T := U.tree_of h
  rw [U.ord_iff T (there0 h) hn]
  constructor
  · intro hw
    rw [← (top_way T n hn).2 0 hw, top_top T (there0 h) (up0 h).1]
  · intro e
    have := (top_way T n hn).1
    rw [e] at this; exact this
def isFor (x : NodeM) (s base : ByteArray) : Bool := decide (x.kind = 1) && (decide (x.doc = 0) && ((decide (base = emptyS) && decide (x.name = s)) || (!decide (base = emptyS) && (decide (x.name = base) && decide (x.is = s)))))
theorem fits_new {d : DeskM} {s base : ByteArray} {c k : Int} (hm : mayD d k s base c = 0) (x : NodeM) : fitsB x.name x.is (newD s base c) = ((decide (base = emptyS) && decide (x.name = s)) || (!decide (base = emptyS) && (decide (x.name = base) && decide (x.is = s)))) := by
  obtain ⟨_, _, _, _, hc, _, _, hb, _⟩ := mayD_zero hm
  unfold fitsB newD
  by_cases e : base = emptyS
  · subst e
    simp only [if_pos]
    by_cases e1 : s = x.name
    · simp [e1]
    · have e2 : ¬ x.name = s := fun h => e1 h.symm
      simp [e1, e2]
  · simp only [if_neg e]
    rcases hb with hb | hb
    · exact absurd hb e
    · by_cases e1 : base = x.name
      · subst e1
        have hne : ¬ s = x.name := fun h => by rw [h] at hc; rw [know_no hc] at hb; cases hb
        by_cases e2 : s = x.is
        · simp [e, e2]
        · have e3 : ¬ x.is = s := fun h => e2 h.symm
          simp [e, hne, e2, e3]
      · have e2 : ¬ x.name = base := fun h => e1 h.symm
        simp [e, e1, e2]
theorem isFor_eq {d : DeskM} {s base : ByteArray} {c k : Int} (hm : mayD d k s base c = 0) (x : NodeM) : isFor x s base = (decide (x.kind = 1) && (decide (x.doc = 0) && fitsB x.name x.is (newD s base c))) := by
  rw [fits_new hm]; rfl
theorem fate_add {f : ForM} (h : rightF f = true) {d : DeskM} {s base : ByteArray} {c k : Int} (hm : mayD d k s base c = 0) {n : Int} (hn : thereN f.nodes n = true) :
    (isFor (nd f.nodes n) s base = true → fateF f n (addD d s base c) = (d.defs.length : Int) ∧ fateF f n d = -1) ∧
    (isFor (nd f.nodes n) s base = false → fateF f n (addD d s base c) = fateF f n d ∧ fateF f n d ≠ (d.defs.length : Int)) := by
  have hr := (mayD_zero hm).1
  have hg := right_add hm
  have hdd := (rightD_iff.1 hr).1
  have hgg := (rightD_iff.1 hg).1
  have e0 : (thereN f.nodes n && rightF f) = true := by rw [hn, h]; rfl
  have hgd : (addD d s base c).defs = d.defs ++ [newD s base c] := rfl
  rw [hgd] at hgg
  rw [isFor_eq hm]
  unfold fateF fateD findD
  rw [if_pos e0, if_pos e0, if_pos hr, if_pos hg, hgd]
  generalize nd f.nodes n = x
  have hat : (d.defs ++ [newD s base c])[d.defs.length]? = some (newD s base c) := by simp
  have low : ∀ (j : Nat) (y : DefM), d.defs[j]? = some y → j < d.defs.length ∧ (d.defs ++ [newD s base c])[j]? = some y := fun j y hy => by
    have hj := (List.getElem?_eq_some_iff.1 hy).1
    exact ⟨hj, by rw [List.getElem?_append_left hj]; exact hy⟩
  by_cases hk : x.kind = 1 ∧ x.doc = 0
  · rw [if_pos hk, if_pos hk, decide_eq_true hk.1, decide_eq_true hk.2, Bool.true_and, Bool.true_and]
    constructor
    · intro hf
      refine ⟨(findR_iff hgg hat).2 hf, ?_⟩
      rcases findR_cases d.defs x.name x.is with ⟨h1, _⟩ | ⟨j, y, h1, h2, h3⟩
      · exact h1
      · obtain ⟨hj, hy⟩ := low j y h2
        have := fit_uniq hgg hy hat h3 hf
        omega
    · intro hf
      rcases findR_cases d.defs x.name x.is with ⟨h1, h2⟩ | ⟨j, y, h1, h2, h3⟩
      · rw [h1]
        refine ⟨?_, by omega⟩
        rcases findR_cases (d.defs ++ [newD s base c]) x.name x.is with ⟨h4, _⟩ | ⟨j, y, h4, h5, h6⟩
        · exact h4
        · rcases List.mem_append.1 (List.mem_of_getElem? h5) with h7 | h7
          · rw [h2 y h7] at h6; cases h6
          · rw [List.mem_singleton.1 h7, hf] at h6; cases h6
      · obtain ⟨hj, hy⟩ := low j y h2
        rw [h1]
        exact ⟨(findR_iff hgg hy).2 h3, by omega⟩
  · rw [if_neg hk, if_neg hk]
    have e : (decide (x.kind = 1) && (decide (x.doc = 0) && fitsB x.name x.is (newD s base c))) = false := by
      by_cases h1 : x.kind = 1
      · by_cases h2 : x.doc = 0
        · exact absurd ⟨h1, h2⟩ hk
        · simp [h2]
      · simp [h1]
    rw [e]
    refine ⟨fun h => (by cases h), fun _ => ⟨rfl, ?_⟩⟩
    omega
theorem heirs_add {f : ForM} (h : rightF f = true) {d : DeskM} {s base : ByteArray} {c k : Int} (hm : mayD d k s base c = 0) {n : Int} (hn : thereN f.nodes n = true) :
    decide (((heirsU f (newD s base c)).count n : Int) = 1) = (isFor (nd f.nodes n) s base && conF f n) := by
  have T := U.tree_of h
  have e0 : conF f n = decide ((nd f.nodes (topN f.nodes n)).kind = 0) := by unfold conF; rw [h, hn]; rfl
  have hnd : (heirsU f (newD s base c)).Nodup := by
    rw [heirs_some _ h]
    unfold elemsU
    exact ((U.ord_nodup T _ 0 (there0 h)).sublist List.filter_sublist).sublist List.filter_sublist
  have hcnt : ((heirsU f (newD s base c)).count n : Int) = 1 ↔ n ∈ heirsU f (newD s base c) := by
    rw [show (((heirsU f (newD s base c)).count n : Int) = 1) = ((heirsU f (newD s base c)).count n = 1) from by rw [eq_iff_iff]; omega]
    constructor
    · intro h1; exact List.count_pos_iff.1 (by omega)
    · intro h1
      have h2 := List.count_pos_iff.2 h1
      have h3 := List.nodup_iff_count.1 hnd n
      omega
  rw [Bool.eq_iff_iff, decide_eq_true_iff, hcnt, heirs_some _ h, isFor_eq hm, e0]
  unfold elemsU
  rw [List.mem_filter, List.mem_filter, ord_top h hn]
  have hh : isHeir (newD s base c) (nd f.nodes n) = fitsB (nd f.nodes n).name (nd f.nodes n).is (newD s base c) := by
    unfold isHeir fitsB
    rw [Bool.eq_iff_iff]
    simp only [Bool.and_eq_true, Bool.or_eq_true, decide_eq_true_eq]
    constructor
    · rintro ⟨a, b | b⟩
      · exact ⟨a.symm, .inr b.symm⟩
      · exact ⟨a.symm, .inl b.symm⟩
    · rintro ⟨a, b | b⟩
      · exact ⟨a.symm, .inr b.symm⟩
      · exact ⟨a.symm, .inl b.symm⟩
  rw [hh]
  have hdoc := top_doc h n hn
  have hself := doc_self h (top_there T n hn)
  simp only [Bool.and_eq_true, decide_eq_true_eq]
  constructor
  · rintro ⟨⟨h1, h2⟩, h3⟩
    have h4 := (up0 h).2
    rw [h1] at hdoc ⊢
    exact ⟨⟨by simpa using h2, by rw [← hdoc, doc0 h], h3⟩, h4⟩
  · rintro ⟨⟨h1, h2, h3⟩, h4⟩
    refine ⟨⟨?_, by simpa using h1⟩, h3⟩
    rw [← hself h4, hdoc, h2]
end Go.Proofs.Heir
end
section
set_option linter.unusedSimpArgs false
set_option linter.unusedVariables false
namespace Go.Proofs.Heir
open Go.Am Go.RowKit Go.Lib
set_option maxRecDepth 100000
set_option maxHeartbeats 8000000
@[reducible] def rDefs (l : List DefM) : MS := .live 3 (l.map oDef) false
@[reducible] def rWaits (l : List WaitM) : MS := .live 2 (l.map oWait) false
theorem noRef_defs (l : List DefM) : noRefL (l.map oDef) = true := by
  rw [noRefL_iff]; intro x hx
  obtain ⟨a, _, rfl⟩ := List.mem_map.1 hx
  rfl
theorem noRef_waits (l : List WaitM) : noRefL (l.map oWait) = true := by
  rw [noRefL_iff]; intro x hx
  obtain ⟨a, _, rfl⟩ := List.mem_map.1 hx
  rfl
theorem one_defs (l : List DefM) : oneL (flat (l.map oDef)) = true := oneL_map oDef (fun a => rfl) l
theorem frz_defs {m : ML} {fz : Nat → Bool} {tab : List (Nat × Nat)} {n t len : Nat} {ro : Bool} {rows : List AV} {l : List DefM} (h1 : lkM m t = .live 3 rows ro) (h2 : fz t = true) (h3 : rows = l.map oDef) (h4 : len = l.length) : FrzK m fz (MF tab fz m n) (eDefs l) t 0 len := by
  subst h3; subst h4
  have e : (l.map oDef).length = l.length := List.length_map ..
  exact .cut h1 h2 (by omega) (by rw [List.drop_zero, List.take_of_length_le (by omega)]) (noRef_defs l)
theorem frz_waits {m : ML} {fz : Nat → Bool} {tab : List (Nat × Nat)} {n t len : Nat} {ro : Bool} {rows : List AV} {l : List WaitM} (h1 : lkM m t = .live 2 rows ro) (h2 : fz t = true) (h3 : rows = l.map oWait) (h4 : len = l.length) : FrzK m fz (MF tab fz m n) (eWaits l) t 0 len := by
  subst h3; subst h4
  have e : (l.map oWait).length = l.length := List.length_map ..
  exact .cut h1 h2 (by omega) (by rw [List.drop_zero, List.take_of_length_le (by omega)]) (noRef_waits l)
theorem defs_outs (l : List DefM) : okOuts [rDefs l] := ⟨Wide.of_mem fun r hr => by
  obtain ⟨a, _, rfl⟩ := List.mem_map.1 hr
  rfl, noRef_defs l, trivial⟩
theorem f56_ok (l : List DefM) (hl : l.length ≤ 100000) : FnOK Tryz.prog 56 [] [eDefs l] [rDefs l] (.own 0 0 l.length) := by
  have hlm : (l.map oDef).length = l.length := List.length_map ..
  refine FnOK.startC (rvs := [.tmp 2]) G G_good Tryz.func56 rfl Tryz.ntmps56 rfl rfl ?_; with_reducible refine wD ?_
  refine GuessK.mk (fun h => ?_) (fun _ => ?_) <;> with_reducible refine wK ?_
  · obtain rfl : l = [] := by simpa using h
    (refine eK ?_ ?_ <;> with_reducible repeat' (first | exact trivial | (show _ ∧ _; refine aK ?_ ?_)))
    all_goals first | rfl | trivial
  · refine AppK.mk [] (l.map oDef) ⟨rfl, rfl, rfl⟩ ⟨rfl, rfl, rfl⟩ (one_defs l) (by simp; omega) (by simp; omega) ?_; with_reducible refine wK ?_
    (refine eK ?_ ?_ <;> with_reducible repeat' (first | exact trivial | (show _ ∧ _; refine aK ?_ ?_)))
    · exact hlm.symm
    · exact MFL_refl (noRef_defs l)
theorem snoc_defs (l : List DefM) (n lo : ByteArray) (c : Int) : l.map oDef ++ [eDef ⟨n, lo, c⟩] = (l ++ [(⟨n, lo, c⟩ : DefM)]).map oDef := by rw [List.map_append]; rfl
theorem snoc_waits (l : List WaitM) (n : ByteArray) (t : Int) : l.map oWait ++ [eWait ⟨n, t⟩] = (l ++ [(⟨n, t⟩ : WaitM)]).map oWait := by rw [List.map_append]; rfl
theorem f55_at {d : DeskM} {k c e : Int} {s base : ByteArray} (h : SmallD d) (he : mayD d k s base c = e) : FnOK Tryz.prog 55 [] [eDesk d, eInt k, eStr s, eStr base, eInt c] [] (eInt e) := by have := f55_ok d h k s base c; rwa [he] at this
theorem f16_ok (d : DeskM) (h : SmallD d) (k : Int) (s base : ByteArray) (c : Int) : FnOK Tryz.prog 16 [] [eDesk d, eInt k, eStr s, eStr base, eInt c] [] (.tup [eDesk (defineD d k s base c).1, eInt (defineD d k s base c).2.1, eInts (defineD d k s base c).2.2.1, eInt (defineD d k s base c).2.2.2]) := by
  obtain ⟨e, he⟩ : ∃ e, mayD d k s base c = e := ⟨_, rfl⟩
  have h20 := f55_at h he
  unfold defineD
  rw [he]
  have hl := h.defs
  have hw := h.waits
  obtain ⟨l, ws, nx, bz⟩ := d
  simp only at hl hw
  have hlm : (l.map oDef).length = l.length := List.length_map ..
  have hwm : (ws.map oWait).length = ws.length := List.length_map ..
  refine FnOK.startC (rvs := [.cell 10 28, .tmp 11, .tmp 12, .tmp 13]) G G_good Tryz.func16 rfl Tryz.ntmps16 rfl rfl ?_; with_reducible refine wD ?_
  refine CallK.lit [] h20 c55 ⟨⟨rfl, rfl, rfl, rfl, trivial⟩, rfl, rfl, rfl, rfl, trivial⟩ rfl rfl ?_; with_reducible refine wK ?_
  by_cases e1 : e = 0
  · subst e1
    rw [if_pos rfl]
    by_cases hb : base = emptyS
    · have hn : newD s base c = ⟨s, s, c⟩ := by unfold newD; rw [if_pos hb]
      rw [hb]
      rw [← hb]
      refine IfK.ff ?_; with_reducible refine wK ?_
      refine IfK.yes (decide_eq_true hb) ?_; with_reducible refine wK ?_
      refine CallK.new 401 [] (f56_ok l hl) c56 ⟨rfl, trivial⟩ rfl rfl rfl (defs_outs l) rfl ?_; with_reducible refine wK ?_
      refine AppK.mk (l.map oDef) [eDef ⟨s, s, c⟩] ⟨rfl, hlm.symm, rfl⟩ ⟨rfl, rfl, rfl⟩ rfl (by simp; omega) (by simp; omega) ?_; with_reducible refine wK ?_
      rw [snoc_defs]
      obtain ⟨L, hL⟩ : ∃ L, l ++ [(⟨s, s, c⟩ : DefM)] = L := ⟨_, rfl⟩
      rw [hL]
      rw [← hn] at hL
      have hLm : (L.map oDef).length = L.length := List.length_map ..
      refine LoopK.ghost 17 171 2 rfl rfl ?_
      refine LoopK.ghost 18 181 1 rfl rfl ?_
      refine LoopK.use G G_good (fun (j : Nat) => [(2, eStr s), (5, .ptr 50 0 0), (10, .ptr 100 0 0), (16, eInt l.length), (17, .own 171 0 (restW (ws.take j) s).length), (18, .own 181 0 (toldW (ws.take j) s).length), (49, eWaits ws), (50, eInt ws.length), (51, eInt j)])
        (fun j => [(50, .live 4 [.agg [.own 461 0 L.length, eWaits ws, eInt nx, eBool bz]] false), (100, .live 4 [.agg [.lit (.slice none 0 0), .lit (.slice none 0 0), eInt 0, eBool false]] false), (461, rDefs L), (171, rWaits (restW (ws.take j) s)), (181, .live 1 ((toldW (ws.take j) s).map oInt) false)])
        (fun j => j ≤ ws.length) (fun j => ws.length - j) 0 (Nat.zero_le _)
        ⟨⟨rfl, rfl⟩, ⟨rfl, ⟨rfl, rfl⟩, ⟨rfl, rfl⟩, by show (l.length : Int) = ((l.map oDef).length : Int); rw [hlm], ⟨rfl, rfl⟩, ⟨rfl, rfl⟩, rfl, by show (ws.length : Int) = ((ws.map oWait).length : Int); rw [hwm], rfl, trivial⟩, ⟨⟨⟨rfl, hLm.symm⟩, rfl, rfl, rfl, trivial⟩, trivial⟩, ⟨⟨.inl rfl, .inl rfl, rfl, rfl, trivial⟩, trivial⟩, ⟨.refl (noRef_defs _), noRef_defs _⟩, ⟨.refl rfl, rfl⟩, ⟨.refl rfl, rfl⟩, trivial⟩ ?_
      intro j hj
      with_reducible refine wK ?_
      refine IfK.mk (fun g1 => ?_) (fun g1 => ?_) <;> (try simp only [castN] at g1) <;> with_reducible refine wK ?_
      · simp only [decide_eq_true_eq] at g1
        have hj' : j < ws.length := by omega
        obtain ⟨⟨n, tk⟩, hx⟩ : ∃ a, ws[j]? = some a := ⟨_, List.getElem?_eq_getElem hj'⟩
        have hr1 := restW_len ws s j
        have ht1 := toldW_len ws s j
        have hr2 := restW_snoc (s := s) hx
        have ht2 := toldW_snoc (s := s) hx
        have hrm : ((restW (ws.take j) s).map oWait).length = (restW (ws.take j) s).length := List.length_map ..
        have htm : ((toldW (ws.take j) s).map oInt).length = (toldW (ws.take j) s).length := List.length_map ..
        refine IdxK.mk j (eWait ⟨n, tk⟩) rfl (wait_get hx) ?_; with_reducible refine wK ?_
        by_cases hns : n = s
        · rw [if_pos hns] at hr2 ht2
          (have fct := hns; (repeat' (first
    | refine gF ?_
    | ((first
      | ((with_reducible show AppK _ _ _ _ _ _ _ _ _ _); refine AppK.mk ((toldW (ws.take j) s).map oInt) [eInt tk] ⟨rfl, htm.symm, rfl⟩ ⟨rfl, rfl, rfl⟩ rfl (by simp; omega) (by simp; omega) ?_)
      | ((with_reducible show NextK _ _); refine NextK.mk (j + 1) (by omega) (by omega) ⟨⟨rfl, rfl⟩, ⟨rfl, ⟨rfl, rfl⟩, ⟨rfl, rfl⟩, rfl, ⟨rfl, by rw [hr2]⟩, ⟨rfl, by rw [ht2]; simp⟩, rfl, rfl, by show ((j + 1 : Nat) : Int) = (j : Int) + 1; omega, trivial⟩, ⟨⟨⟨rfl, rfl⟩, rfl, rfl, rfl, trivial⟩, trivial⟩, ⟨⟨.inl rfl, .inl rfl, rfl, rfl, trivial⟩, trivial⟩, ⟨.refl (noRef_defs _), noRef_defs _⟩, ⟨by rw [hr2]; exact .refl (noRef_waits _), noRef_waits _⟩, ⟨by rw [ht2, ← snoc_ints]; exact .refl (by rw [snoc_ints]; exact noRef_ints _), noRef_ints _⟩, trivial⟩)) <;> with_reducible refine wK ?_)
    | ((with_reducible show (_ ∧ _) ∧ _ ∧ _); (refine eK ?_ ?_ <;> with_reducible repeat' (first | exact trivial | (show _ ∧ _; refine aK ?_ ?_)))))); all_goals clear fct)
        · rw [if_neg hns] at hr2 ht2
          (have fct := hns; (repeat' (first
    | refine gF ?_
    | ((first
      | ((with_reducible show AppK _ _ _ _ _ _ _ _ _ _); refine AppK.mk ((restW (ws.take j) s).map oWait) [eWait ⟨n, tk⟩] ⟨rfl, hrm.symm, rfl⟩ ⟨rfl, rfl, rfl⟩ rfl (by simp; omega) (by simp; omega) ?_)
      | ((with_reducible show NextK _ _); refine NextK.mk (j + 1) (by omega) (by omega) ⟨⟨rfl, rfl⟩, ⟨rfl, ⟨rfl, rfl⟩, ⟨rfl, rfl⟩, rfl, ⟨rfl, by rw [hr2]; simp⟩, ⟨rfl, by rw [ht2]⟩, rfl, rfl, by show ((j + 1 : Nat) : Int) = (j : Int) + 1; omega, trivial⟩, ⟨⟨⟨rfl, rfl⟩, rfl, rfl, rfl, trivial⟩, trivial⟩, ⟨⟨.inl rfl, .inl rfl, rfl, rfl, trivial⟩, trivial⟩, ⟨.refl (noRef_defs _), noRef_defs _⟩, ⟨by rw [hr2, ← snoc_waits]; exact .refl (by rw [snoc_waits]; exact noRef_waits _), noRef_waits _⟩, ⟨by rw [ht2]; exact .refl (noRef_ints _), noRef_ints _⟩, trivial⟩)) <;> with_reducible refine wK ?_)
    | ((with_reducible show (_ ∧ _) ∧ _ ∧ _); (refine eK ?_ ?_ <;> with_reducible repeat' (first | exact trivial | (show _ ∧ _; refine aK ?_ ?_)))))); all_goals clear fct)
      · have hjl : j = ws.length := by simp only [decide_eq_false_iff_not] at g1; omega
        subst hjl
        rw [List.take_length]
        ((have fct := hL; (repeat' (first
    | refine gF ?_
    | ((with_reducible show (_ ∧ _) ∧ _ ∧ _); (refine eK ?_ ?_ <;> with_reducible repeat' (first | exact trivial | (show _ ∧ _; refine aK ?_ ?_)))))); all_goals clear fct)) <;> first | exact frz_defs rfl rfl (by show L.map oDef = (l ++ [newD s base c]).map oDef; rw [hL]) (by show L.length = (l ++ [newD s base c]).length; rw [hL]) | exact frz_waits rfl rfl rfl rfl | exact frz_ints rfl rfl rfl rfl | rfl
    · have hn : newD s base c = ⟨s, base, c⟩ := by unfold newD; rw [if_neg hb]
      refine IfK.ff ?_; with_reducible refine wK ?_
      refine IfK.no (decide_eq_false hb) ?_; with_reducible refine wK ?_
      refine CallK.new 401 [] (f56_ok l hl) c56 ⟨rfl, trivial⟩ rfl rfl rfl (defs_outs l) rfl ?_; with_reducible refine wK ?_
      refine AppK.mk (l.map oDef) [eDef ⟨s, base, c⟩] ⟨rfl, hlm.symm, rfl⟩ ⟨rfl, rfl, rfl⟩ rfl (by simp; omega) (by simp; omega) ?_; with_reducible refine wK ?_
      rw [snoc_defs]
      obtain ⟨L, hL⟩ : ∃ L, l ++ [(⟨s, base, c⟩ : DefM)] = L := ⟨_, rfl⟩
      rw [hL]
      rw [← hn] at hL
      have hLm : (L.map oDef).length = L.length := List.length_map ..
      refine LoopK.ghost 17 171 2 rfl rfl ?_
      refine LoopK.ghost 18 181 1 rfl rfl ?_
      refine LoopK.use G G_good (fun (j : Nat) => [(2, eStr s), (5, .ptr 50 0 0), (10, .ptr 100 0 0), (16, eInt l.length), (17, .own 171 0 (restW (ws.take j) s).length), (18, .own 181 0 (toldW (ws.take j) s).length), (49, eWaits ws), (50, eInt ws.length), (51, eInt j)])
        (fun j => [(50, .live 4 [.agg [.own 461 0 L.length, eWaits ws, eInt nx, eBool bz]] false), (100, .live 4 [.agg [.lit (.slice none 0 0), .lit (.slice none 0 0), eInt 0, eBool false]] false), (461, rDefs L), (171, rWaits (restW (ws.take j) s)), (181, .live 1 ((toldW (ws.take j) s).map oInt) false)])
        (fun j => j ≤ ws.length) (fun j => ws.length - j) 0 (Nat.zero_le _)
        ⟨⟨rfl, rfl⟩, ⟨rfl, ⟨rfl, rfl⟩, ⟨rfl, rfl⟩, by show (l.length : Int) = ((l.map oDef).length : Int); rw [hlm], ⟨rfl, rfl⟩, ⟨rfl, rfl⟩, rfl, by show (ws.length : Int) = ((ws.map oWait).length : Int); rw [hwm], rfl, trivial⟩, ⟨⟨⟨rfl, hLm.symm⟩, rfl, rfl, rfl, trivial⟩, trivial⟩, ⟨⟨.inl rfl, .inl rfl, rfl, rfl, trivial⟩, trivial⟩, ⟨.refl (noRef_defs _), noRef_defs _⟩, ⟨.refl rfl, rfl⟩, ⟨.refl rfl, rfl⟩, trivial⟩ ?_
      intro j hj
      with_reducible refine wK ?_
      refine IfK.mk (fun g1 => ?_) (fun g1 => ?_) <;> (try simp only [castN] at g1) <;> with_reducible refine wK ?_
      · simp only [decide_eq_true_eq] at g1
        have hj' : j < ws.length := by omega
        obtain ⟨⟨n, tk⟩, hx⟩ : ∃ a, ws[j]? = some a := ⟨_, List.getElem?_eq_getElem hj'⟩
        have hr1 := restW_len ws s j
        have ht1 := toldW_len ws s j
        have hr2 := restW_snoc (s := s) hx
        have ht2 := toldW_snoc (s := s) hx
        have hrm : ((restW (ws.take j) s).map oWait).length = (restW (ws.take j) s).length := List.length_map ..
        have htm : ((toldW (ws.take j) s).map oInt).length = (toldW (ws.take j) s).length := List.length_map ..
        refine IdxK.mk j (eWait ⟨n, tk⟩) rfl (wait_get hx) ?_; with_reducible refine wK ?_
        by_cases hns : n = s
        · rw [if_pos hns] at hr2 ht2
          (have fct := hns; (repeat' (first
    | refine gF ?_
    | ((first
      | ((with_reducible show AppK _ _ _ _ _ _ _ _ _ _); refine AppK.mk ((toldW (ws.take j) s).map oInt) [eInt tk] ⟨rfl, htm.symm, rfl⟩ ⟨rfl, rfl, rfl⟩ rfl (by simp; omega) (by simp; omega) ?_)
      | ((with_reducible show NextK _ _); refine NextK.mk (j + 1) (by omega) (by omega) ⟨⟨rfl, rfl⟩, ⟨rfl, ⟨rfl, rfl⟩, ⟨rfl, rfl⟩, rfl, ⟨rfl, by rw [hr2]⟩, ⟨rfl, by rw [ht2]; simp⟩, rfl, rfl, by show ((j + 1 : Nat) : Int) = (j : Int) + 1; omega, trivial⟩, ⟨⟨⟨rfl, rfl⟩, rfl, rfl, rfl, trivial⟩, trivial⟩, ⟨⟨.inl rfl, .inl rfl, rfl, rfl, trivial⟩, trivial⟩, ⟨.refl (noRef_defs _), noRef_defs _⟩, ⟨by rw [hr2]; exact .refl (noRef_waits _), noRef_waits _⟩, ⟨by rw [ht2, ← snoc_ints]; exact .refl (by rw [snoc_ints]; exact noRef_ints _), noRef_ints _⟩, trivial⟩)) <;> with_reducible refine wK ?_)
    | ((with_reducible show (_ ∧ _) ∧ _ ∧ _); (refine eK ?_ ?_ <;> with_reducible repeat' (first | exact trivial | (show _ ∧ _; refine aK ?_ ?_)))))); all_goals clear fct)
        · rw [if_neg hns] at hr2 ht2
          (have fct := hns; (repeat' (first
    | refine gF ?_
    | ((first
      | ((with_reducible show AppK _ _ _ _ _ _ _ _ _ _); refine AppK.mk ((restW (ws.take j) s).map oWait) [eWait ⟨n, tk⟩] ⟨rfl, hrm.symm, rfl⟩ ⟨rfl, rfl, rfl⟩ rfl (by simp; omega) (by simp; omega) ?_)
      | ((with_reducible show NextK _ _); refine NextK.mk (j + 1) (by omega) (by omega) ⟨⟨rfl, rfl⟩, ⟨rfl, ⟨rfl, rfl⟩, ⟨rfl, rfl⟩, rfl, ⟨rfl, by rw [hr2]; simp⟩, ⟨rfl, by rw [ht2]⟩, rfl, rfl, by show ((j + 1 : Nat) : Int) = (j : Int) + 1; omega, trivial⟩, ⟨⟨⟨rfl, rfl⟩, rfl, rfl, rfl, trivial⟩, trivial⟩, ⟨⟨.inl rfl, .inl rfl, rfl, rfl, trivial⟩, trivial⟩, ⟨.refl (noRef_defs _), noRef_defs _⟩, ⟨by rw [hr2, ← snoc_waits]; exact .refl (by rw [snoc_waits]; exact noRef_waits _), noRef_waits _⟩, ⟨by rw [ht2]; exact .refl (noRef_ints _), noRef_ints _⟩, trivial⟩)) <;> with_reducible refine wK ?_)
    | ((with_reducible show (_ ∧ _) ∧ _ ∧ _); (refine eK ?_ ?_ <;> with_reducible repeat' (first | exact trivial | (show _ ∧ _; refine aK ?_ ?_)))))); all_goals clear fct)
      · have hjl : j = ws.length := by simp only [decide_eq_false_iff_not] at g1; omega
        subst hjl
        rw [List.take_length]
        ((have fct := hL; (repeat' (first
    | refine gF ?_
    | ((with_reducible show (_ ∧ _) ∧ _ ∧ _); (refine eK ?_ ?_ <;> with_reducible repeat' (first | exact trivial | (show _ ∧ _; refine aK ?_ ?_)))))); all_goals clear fct)) <;> first | exact frz_defs rfl rfl (by show L.map oDef = (l ++ [newD s base c]).map oDef; rw [hL]) (by show L.length = (l ++ [newD s base c]).length; rw [hL]) | exact frz_waits rfl rfl rfl rfl | exact frz_ints rfl rfl rfl rfl | rfl
  · rw [if_neg e1]
    ((have fct := e1; (repeat' (first
    | refine gF ?_
    | ((with_reducible show (_ ∧ _) ∧ _ ∧ _); (refine eK ?_ ?_ <;> with_reducible repeat' (first | exact trivial | (show _ ∧ _; refine aK ?_ ?_)))))); all_goals clear fct)) <;> exact .inr (.inr ⟨1, rfl⟩)
end Go.Proofs.Heir
end
section
set_option linter.unusedSimpArgs false
set_option linter.unusedVariables false
namespace Go.Proofs.Heir
open Go Go.Am Go.RowKit Go.Lib
set_option maxRecDepth 100000
set_option maxHeartbeats 8000000
theorem e0s : (emptyS = (⟨⟨[]⟩⟩ : ByteArray)) = True := eq_true rfl
theorem f3_main (f : ForM) (d : DeskM) (s base : ByteArray) (c : Int) (k1 : shortF f = true) (k2 : shortB d = true) (k3 : s.size ≤ 300) (k4 : base.size ≤ 300) (k5 : rightF f = true) :
    FnOK Tryz.prog 3 [] [eFor f, eDesk d, eStr s, eStr base, eInt c] [] (eBool true) := by
  have hs := shortF_iff.1 k1
  have hdS := shortB_iff.1 k2
  have hd := hdS.small
  have h12 := f12_ok
  have h13 := f13_ok f
  have h14 := f14_ok d
  have h15 := f15_ok f hs
  rw [k1] at h13
  rw [k2] at h14
  rw [k5] at h15
  have h16 := f16_ok d hd 12 s base c
  have h17 := f17_ok d hdS 12 s base c (by omega)
  have hdl := hdS.defs
  have hwl := hdS.waits
  obtain ⟨e, he⟩ : ∃ e, mayD d 12 s base c = e := ⟨_, rfl⟩
  unfold defineD at h16
  rw [he] at h16 h17
  by_cases e0 : e = 0
  · subst e0
    rw [if_pos rfl] at h16
    simp only at h16
    have hgS : SmallD (addD d s base c) := ⟨by show (d.defs ++ [newD s base c]).length ≤ _; simp; omega, by show (restW d.waits s).length ≤ _; exact Nat.le_trans (List.length_filter_le _ _) (by omega)⟩
    have h18 := f18_ok f hs (newD s base c)
    have h19a := fun n => f19_ok f hs n d hd
    have h19b := fun n => f19_ok f hs n (addD d s base c) hgS
    have hhl : (heirsU f (newD s base c)).length ≤ 100000 := by
      rw [heirs_some _ k5]
      refine Nat.le_trans (List.length_filter_le _ _) (Nat.le_trans (List.length_filter_le _ _) ?_)
      exact Nat.le_trans (U.ord_len (U.tree_of k5) _ (there0 k5)) (by have := hs.len; omega)
    have h20 := fun n => f20_ok _ hhl n
    have h21 := fun n => f21_ok f hs n
    have hfa := fun n hn => fate_add k5 (d := d) (s := s) (base := base) (c := c) (k := 12) he (n := n) hn
    have hha := fun n hn => heirs_add k5 (d := d) (s := s) (base := base) (c := c) (k := 12) he (n := n) hn
    have hat : (addD d s base c).defs[d.defs.length]? = some (newD s base c) := by show (d.defs ++ [newD s base c])[d.defs.length]? = _; simp
    have hnl : f.nodes.length ≤ 60 := hs.len
    generalize hg : addD d s base c = g at h16 h19b hfa hat hgS
    generalize newD s base c = x at h18 h20 hha hat hhl
    generalize heirsU f x = hl at h18 h20 hha hhl
    generalize toldW d.waits s = tw at h16
    have hfe : ∃ fd fg : Int → Int, (∀ n, fateF f n d = fd n) ∧ ∀ n, fateF f n g = fg n := ⟨_, _, fun _ => rfl, fun _ => rfl⟩
    obtain ⟨fd, fg, e1, e2⟩ := hfe
    have hco : ∃ co : Int → Bool, ∀ n, conF f n = co n := ⟨_, fun _ => rfl⟩
    obtain ⟨co, e3⟩ := hco
    simp only [e1, e2] at hfa h19a h19b
    simp only [e3] at hha h21
    clear e1 e2 e3 hg he
    obtain ⟨l, m⟩ := f
    obtain ⟨d1, d2, d3, d4⟩ := d
    obtain ⟨g1, g2, g3, g4⟩ := g
    obtain ⟨x1, x2, x3⟩ := x
    simp only at h13 h14 h15 h16 h17 h18 h19a h19b h20 h21 hfa hha hat hnl hdl
    have hlm : (l.map oNode).length = l.length := List.length_map ..
    refine FnOK.startC (rvs := [.tmp 10]) G G_good Tryz.func3 rfl Tryz.ntmps3 rfl rfl ?_; with_reducible refine wD ?_
    repeat' (first
    | refine gK ?_
    | ((first
      | ((with_reducible show CallK _ _ 12 _ _ _ _); refine CallK.lit [] h12 c12 trivial rfl rfl ?_)
      | ((with_reducible show CallK _ _ 13 _ _ _ _); refine CallK.lit [] h13 c13 ⟨⟨rfl, rfl, trivial⟩, trivial⟩ rfl rfl ?_)
      | ((with_reducible show CallK _ _ 14 _ _ _ _); refine CallK.lit [] h14 c14 ⟨⟨rfl, rfl, rfl, rfl, trivial⟩, trivial⟩ rfl rfl ?_)
      | ((with_reducible show CallK _ _ 15 _ _ _ _); refine CallK.lit [] h15 c15 ⟨⟨rfl, rfl, trivial⟩, trivial⟩ rfl rfl ?_)
      | ((with_reducible show CallK _ _ 16 _ _ _ _); refine CallK.val [] h16 c16 ⟨⟨rfl, rfl, rfl, rfl, trivial⟩, rfl, rfl, rfl, rfl, trivial⟩ rfl rfl rfl ?_)
      | ((with_reducible show CallK _ _ 17 _ _ _ _); refine CallK.lit [] h17 c17 ⟨⟨rfl, rfl, rfl, rfl, trivial⟩, rfl, rfl, rfl, rfl, trivial⟩ rfl rfl ?_)
      | ((with_reducible show CallK _ _ 18 _ _ _ _); refine CallK.val [] h18 c18 ⟨⟨rfl, rfl, trivial⟩, ⟨rfl, rfl, rfl, trivial⟩, trivial⟩ rfl rfl rfl ?_)
      | ((with_reducible show IdxK _ _ _ _ _); refine IdxK.mk d1.length (eDef ⟨x1, x2, x3⟩) rfl (def_get hat) ?_)
      | ((with_reducible show DrawK _ _ _ _); refine dK ?_)) <;> with_reducible refine wK ?_)
    | ((with_reducible show (_ ∧ _) ∧ _ ∧ _); (refine eK ?_ ?_ <;> with_reducible repeat' (first | exact trivial | (show _ ∧ _; refine aK ?_ ?_)))))
    refine LoopK.use G G_good (fun (k : Nat) => [(2, eStr s), (3, eStr base), (5, .ptr 50 0 0), (6, .ptr 60 0 0), (11, .ptr 110 0 0), (12, eInt d1.length), (15, eInts hl), (16, eInt k)])
      (fun _ => [(50, .live 2 [eFor ⟨l, m⟩] false), (60, .live 4 [eDesk ⟨d1, d2, d3, d4⟩] false), (110, .live 4 [eDesk ⟨g1, g2, g3, g4⟩] false)])
      (fun k => k ≤ l.length) (fun k => l.length - k) 0 (Nat.zero_le _) (by (refine fK ?_; (with_reducible repeat' (first | exact trivial | (show _ ∧ _; refine aK ?_ ?_))); (all_goals try rfl))) ?_
    intro k hk
    with_reducible refine wK ?_
    refine IfK.mk (fun g1 => ?_) (fun g1 => ?_) <;> (try simp only [castN] at g1) <;> with_reducible refine wK ?_
    · have hk' : k < l.length := by simp only [hlm, decide_eq_true_eq] at g1; omega
      obtain ⟨y, hy⟩ : ∃ y, l[k]? = some y := ⟨_, List.getElem?_eq_getElem hk'⟩
      have ht := there_get hy
      have hf := hfa k ht
      have hh := hha k ht
      rw [nd_get hy] at hf hh
      have h20 := h20 k
      have h21 := h21 k
      have h19a := h19a k
      have h19b := h19b k
      generalize hl.count (k : Int) = cn at h20 hh
      generalize co k = con at h21 hh
      generalize fd k = fdk at h19a hf
      generalize fg k = fgk at h19b hf
      clear hfa hha hat
      obtain ⟨a1, a2, a3, a4, a5, a6, a7, a8, a9, a10⟩ := y
      have next : ∀ (sl : SL) (m : ML), True := fun _ _ => trivial
      by_cases c1 : a1 = 1
      · by_cases c2 : a10 = 0
        · by_cases c3 : base = emptyS
          · by_cases c4 : a2 = s
            ·
              have hb : isFor ⟨a1, a2, a3, a4, a5, a6, a7, a8, a9, a10⟩ s base = true := by simp [isFor,c1,c2,c3,c4]
              rw [hb] at hf hh
              obtain ⟨q1, q2⟩ := hf.1 rfl
              subst q1
              subst q2
              rw [Bool.true_and] at hh
              cases con with
              | true =>
                have hcn : (cn : Int) = 1 := of_decide_eq_true hh
                (have fct := And.intro (eq_true c1) (And.intro (eq_true c2) (And.intro c3 (And.intro e0s (And.intro c4 (hcn))))); (repeat' (first
    | refine gF ?_
    | ((first
      | ((with_reducible show CallK _ _ 19 _ _ _ _); first | refine CallK.lit [] h19a c19 ⟨⟨rfl, rfl, trivial⟩, rfl, ⟨rfl, rfl, rfl, rfl, trivial⟩, trivial⟩ rfl rfl ?_ | refine CallK.lit [] h19b c19 ⟨⟨rfl, rfl, trivial⟩, rfl, ⟨rfl, rfl, rfl, rfl, trivial⟩, trivial⟩ rfl rfl ?_)
      | ((with_reducible show CallK _ _ 20 _ _ _ _); refine CallK.lit [] h20 c20 ⟨rfl, rfl, trivial⟩ rfl rfl ?_)
      | ((with_reducible show CallK _ _ 21 _ _ _ _); refine CallK.lit [] h21 c21 ⟨⟨rfl, rfl, trivial⟩, rfl, trivial⟩ rfl rfl ?_)
      | ((with_reducible show IdxK _ _ _ _ _); refine IdxK.mk k (eNode ⟨a1, a2, a3, a4, a5, a6, a7, a8, a9, a10⟩) rfl (node_get hy) ?_)
      | ((with_reducible show DrawK _ _ _ _); refine dK ?_)
      | ((with_reducible show NextK _ _); refine NextK.mk (k + 1) (by omega) (by omega) (by (refine fK ?_; (with_reducible repeat' (first | exact trivial | (show _ ∧ _; refine aK ?_ ?_))); (all_goals try rfl))))) <;> with_reducible refine wK ?_)
    | ((with_reducible show (_ ∧ _) ∧ _ ∧ _); (refine eK ?_ ?_ <;> with_reducible repeat' (first | exact trivial | (show _ ∧ _; refine aK ?_ ?_)))))); all_goals clear fct)
              | false =>
                have hcn : ¬ (cn : Int) = 1 := of_decide_eq_false hh
                (have fct := And.intro (eq_true c1) (And.intro (eq_true c2) (And.intro c3 (And.intro e0s (And.intro c4 (hcn))))); (repeat' (first
    | refine gF ?_
    | ((first
      | ((with_reducible show CallK _ _ 19 _ _ _ _); first | refine CallK.lit [] h19a c19 ⟨⟨rfl, rfl, trivial⟩, rfl, ⟨rfl, rfl, rfl, rfl, trivial⟩, trivial⟩ rfl rfl ?_ | refine CallK.lit [] h19b c19 ⟨⟨rfl, rfl, trivial⟩, rfl, ⟨rfl, rfl, rfl, rfl, trivial⟩, trivial⟩ rfl rfl ?_)
      | ((with_reducible show CallK _ _ 20 _ _ _ _); refine CallK.lit [] h20 c20 ⟨rfl, rfl, trivial⟩ rfl rfl ?_)
      | ((with_reducible show CallK _ _ 21 _ _ _ _); refine CallK.lit [] h21 c21 ⟨⟨rfl, rfl, trivial⟩, rfl, trivial⟩ rfl rfl ?_)
      | ((with_reducible show IdxK _ _ _ _ _); refine IdxK.mk k (eNode ⟨a1, a2, a3, a4, a5, a6, a7, a8, a9, a10⟩) rfl (node_get hy) ?_)
      | ((with_reducible show DrawK _ _ _ _); refine dK ?_)
      | ((with_reducible show NextK _ _); refine NextK.mk (k + 1) (by omega) (by omega) (by (refine fK ?_; (with_reducible repeat' (first | exact trivial | (show _ ∧ _; refine aK ?_ ?_))); (all_goals try rfl))))) <;> with_reducible refine wK ?_)
    | ((with_reducible show (_ ∧ _) ∧ _ ∧ _); (refine eK ?_ ?_ <;> with_reducible repeat' (first | exact trivial | (show _ ∧ _; refine aK ?_ ?_)))))); all_goals clear fct)
            ·
              have hb : isFor ⟨a1, a2, a3, a4, a5, a6, a7, a8, a9, a10⟩ s base = false := by simp [isFor,c1,c2,c3,c4]
              rw [hb] at hf hh
              obtain ⟨q1, q2⟩ := hf.2 rfl
              subst q1
              have hcn : ¬ (cn : Int) = 1 := of_decide_eq_false hh
              (have fct := And.intro (eq_true c1) (And.intro (eq_true c2) (And.intro c3 (And.intro e0s (And.intro (eq_false c4) (And.intro q2 (hcn)))))); (repeat' (first
    | refine gF ?_
    | ((first
      | ((with_reducible show CallK _ _ 19 _ _ _ _); first | refine CallK.lit [] h19a c19 ⟨⟨rfl, rfl, trivial⟩, rfl, ⟨rfl, rfl, rfl, rfl, trivial⟩, trivial⟩ rfl rfl ?_ | refine CallK.lit [] h19b c19 ⟨⟨rfl, rfl, trivial⟩, rfl, ⟨rfl, rfl, rfl, rfl, trivial⟩, trivial⟩ rfl rfl ?_)
      | ((with_reducible show CallK _ _ 20 _ _ _ _); refine CallK.lit [] h20 c20 ⟨rfl, rfl, trivial⟩ rfl rfl ?_)
      | ((with_reducible show CallK _ _ 21 _ _ _ _); refine CallK.lit [] h21 c21 ⟨⟨rfl, rfl, trivial⟩, rfl, trivial⟩ rfl rfl ?_)
      | ((with_reducible show IdxK _ _ _ _ _); refine IdxK.mk k (eNode ⟨a1, a2, a3, a4, a5, a6, a7, a8, a9, a10⟩) rfl (node_get hy) ?_)
      | ((with_reducible show DrawK _ _ _ _); refine dK ?_)
      | ((with_reducible show NextK _ _); refine NextK.mk (k + 1) (by omega) (by omega) (by (refine fK ?_; (with_reducible repeat' (first | exact trivial | (show _ ∧ _; refine aK ?_ ?_))); (all_goals try rfl))))) <;> with_reducible refine wK ?_)
    | ((with_reducible show (_ ∧ _) ∧ _ ∧ _); (refine eK ?_ ?_ <;> with_reducible repeat' (first | exact trivial | (show _ ∧ _; refine aK ?_ ?_)))))); all_goals clear fct)
          · have c3n := empty_ne c3
            by_cases c5 : a2 = base
            · by_cases c6 : a3 = s
              ·
                have hb : isFor ⟨a1, a2, a3, a4, a5, a6, a7, a8, a9, a10⟩ s base = true := by simp [isFor,c1,c2,c3,c5,c6]
                rw [hb] at hf hh
                obtain ⟨q1, q2⟩ := hf.1 rfl
                subst q1
                subst q2
                rw [Bool.true_and] at hh
                cases con with
                | true =>
                  have hcn : (cn : Int) = 1 := of_decide_eq_true hh
                  (have fct := And.intro (eq_true c1) (And.intro (eq_true c2) (And.intro c3n (And.intro c5 (And.intro c6 (hcn))))); (repeat' (first
    | refine gF ?_
    | ((first
      | ((with_reducible show CallK _ _ 19 _ _ _ _); first | refine CallK.lit [] h19a c19 ⟨⟨rfl, rfl, trivial⟩, rfl, ⟨rfl, rfl, rfl, rfl, trivial⟩, trivial⟩ rfl rfl ?_ | refine CallK.lit [] h19b c19 ⟨⟨rfl, rfl, trivial⟩, rfl, ⟨rfl, rfl, rfl, rfl, trivial⟩, trivial⟩ rfl rfl ?_)
      | ((with_reducible show CallK _ _ 20 _ _ _ _); refine CallK.lit [] h20 c20 ⟨rfl, rfl, trivial⟩ rfl rfl ?_)
      | ((with_reducible show CallK _ _ 21 _ _ _ _); refine CallK.lit [] h21 c21 ⟨⟨rfl, rfl, trivial⟩, rfl, trivial⟩ rfl rfl ?_)
      | ((with_reducible show IdxK _ _ _ _ _); refine IdxK.mk k (eNode ⟨a1, a2, a3, a4, a5, a6, a7, a8, a9, a10⟩) rfl (node_get hy) ?_)
      | ((with_reducible show DrawK _ _ _ _); refine dK ?_)
      | ((with_reducible show NextK _ _); refine NextK.mk (k + 1) (by omega) (by omega) (by (refine fK ?_; (with_reducible repeat' (first | exact trivial | (show _ ∧ _; refine aK ?_ ?_))); (all_goals try rfl))))) <;> with_reducible refine wK ?_)
    | ((with_reducible show (_ ∧ _) ∧ _ ∧ _); (refine eK ?_ ?_ <;> with_reducible repeat' (first | exact trivial | (show _ ∧ _; refine aK ?_ ?_)))))); all_goals clear fct)
                | false =>
                  have hcn : ¬ (cn : Int) = 1 := of_decide_eq_false hh
                  (have fct := And.intro (eq_true c1) (And.intro (eq_true c2) (And.intro c3n (And.intro c5 (And.intro c6 (hcn))))); (repeat' (first
    | refine gF ?_
    | ((first
      | ((with_reducible show CallK _ _ 19 _ _ _ _); first | refine CallK.lit [] h19a c19 ⟨⟨rfl, rfl, trivial⟩, rfl, ⟨rfl, rfl, rfl, rfl, trivial⟩, trivial⟩ rfl rfl ?_ | refine CallK.lit [] h19b c19 ⟨⟨rfl, rfl, trivial⟩, rfl, ⟨rfl, rfl, rfl, rfl, trivial⟩, trivial⟩ rfl rfl ?_)
      | ((with_reducible show CallK _ _ 20 _ _ _ _); refine CallK.lit [] h20 c20 ⟨rfl, rfl, trivial⟩ rfl rfl ?_)
      | ((with_reducible show CallK _ _ 21 _ _ _ _); refine CallK.lit [] h21 c21 ⟨⟨rfl, rfl, trivial⟩, rfl, trivial⟩ rfl rfl ?_)
      | ((with_reducible show IdxK _ _ _ _ _); refine IdxK.mk k (eNode ⟨a1, a2, a3, a4, a5, a6, a7, a8, a9, a10⟩) rfl (node_get hy) ?_)
      | ((with_reducible show DrawK _ _ _ _); refine dK ?_)
      | ((with_reducible show NextK _ _); refine NextK.mk (k + 1) (by omega) (by omega) (by (refine fK ?_; (with_reducible repeat' (first | exact trivial | (show _ ∧ _; refine aK ?_ ?_))); (all_goals try rfl))))) <;> with_reducible refine wK ?_)
    | ((with_reducible show (_ ∧ _) ∧ _ ∧ _); (refine eK ?_ ?_ <;> with_reducible repeat' (first | exact trivial | (show _ ∧ _; refine aK ?_ ?_)))))); all_goals clear fct)
              ·
                have hb : isFor ⟨a1, a2, a3, a4, a5, a6, a7, a8, a9, a10⟩ s base = false := by simp [isFor,c1,c2,c3,c5,c6]
                rw [hb] at hf hh
                obtain ⟨q1, q2⟩ := hf.2 rfl
                subst q1
                have hcn : ¬ (cn : Int) = 1 := of_decide_eq_false hh
                (have fct := And.intro (eq_true c1) (And.intro (eq_true c2) (And.intro c3n (And.intro c5 (And.intro (eq_false c6) (And.intro q2 (hcn)))))); (repeat' (first
    | refine gF ?_
    | ((first
      | ((with_reducible show CallK _ _ 19 _ _ _ _); first | refine CallK.lit [] h19a c19 ⟨⟨rfl, rfl, trivial⟩, rfl, ⟨rfl, rfl, rfl, rfl, trivial⟩, trivial⟩ rfl rfl ?_ | refine CallK.lit [] h19b c19 ⟨⟨rfl, rfl, trivial⟩, rfl, ⟨rfl, rfl, rfl, rfl, trivial⟩, trivial⟩ rfl rfl ?_)
      | ((with_reducible show CallK _ _ 20 _ _ _ _); refine CallK.lit [] h20 c20 ⟨rfl, rfl, trivial⟩ rfl rfl ?_)
      | ((with_reducible show CallK _ _ 21 _ _ _ _); refine CallK.lit [] h21 c21 ⟨⟨rfl, rfl, trivial⟩, rfl, trivial⟩ rfl rfl ?_)
      | ((with_reducible show IdxK _ _ _ _ _); refine IdxK.mk k (eNode ⟨a1, a2, a3, a4, a5, a6, a7, a8, a9, a10⟩) rfl (node_get hy) ?_)
      | ((with_reducible show DrawK _ _ _ _); refine dK ?_)
      | ((with_reducible show NextK _ _); refine NextK.mk (k + 1) (by omega) (by omega) (by (refine fK ?_; (with_reducible repeat' (first | exact trivial | (show _ ∧ _; refine aK ?_ ?_))); (all_goals try rfl))))) <;> with_reducible refine wK ?_)
    | ((with_reducible show (_ ∧ _) ∧ _ ∧ _); (refine eK ?_ ?_ <;> with_reducible repeat' (first | exact trivial | (show _ ∧ _; refine aK ?_ ?_)))))); all_goals clear fct)
            ·
              have hb : isFor ⟨a1, a2, a3, a4, a5, a6, a7, a8, a9, a10⟩ s base = false := by simp [isFor,c1,c2,c3,c5]
              rw [hb] at hf hh
              obtain ⟨q1, q2⟩ := hf.2 rfl
              subst q1
              have hcn : ¬ (cn : Int) = 1 := of_decide_eq_false hh
              (have fct := And.intro (eq_true c1) (And.intro (eq_true c2) (And.intro c3n (And.intro (eq_false c5) (And.intro q2 (hcn))))); (repeat' (first
    | refine gF ?_
    | ((first
      | ((with_reducible show CallK _ _ 19 _ _ _ _); first | refine CallK.lit [] h19a c19 ⟨⟨rfl, rfl, trivial⟩, rfl, ⟨rfl, rfl, rfl, rfl, trivial⟩, trivial⟩ rfl rfl ?_ | refine CallK.lit [] h19b c19 ⟨⟨rfl, rfl, trivial⟩, rfl, ⟨rfl, rfl, rfl, rfl, trivial⟩, trivial⟩ rfl rfl ?_)
      | ((with_reducible show CallK _ _ 20 _ _ _ _); refine CallK.lit [] h20 c20 ⟨rfl, rfl, trivial⟩ rfl rfl ?_)
      | ((with_reducible show CallK _ _ 21 _ _ _ _); refine CallK.lit [] h21 c21 ⟨⟨rfl, rfl, trivial⟩, rfl, trivial⟩ rfl rfl ?_)
      | ((with_reducible show IdxK _ _ _ _ _); refine IdxK.mk k (eNode ⟨a1, a2, a3, a4, a5, a6, a7, a8, a9, a10⟩) rfl (node_get hy) ?_)
      | ((with_reducible show DrawK _ _ _ _); refine dK ?_)
      | ((with_reducible show NextK _ _); refine NextK.mk (k + 1) (by omega) (by omega) (by (refine fK ?_; (with_reducible repeat' (first | exact trivial | (show _ ∧ _; refine aK ?_ ?_))); (all_goals try rfl))))) <;> with_reducible refine wK ?_)
    | ((with_reducible show (_ ∧ _) ∧ _ ∧ _); (refine eK ?_ ?_ <;> with_reducible repeat' (first | exact trivial | (show _ ∧ _; refine aK ?_ ?_)))))); all_goals clear fct)
        ·
          have hb : isFor ⟨a1, a2, a3, a4, a5, a6, a7, a8, a9, a10⟩ s base = false := by simp [isFor,c1,c2]
          rw [hb] at hf hh
          obtain ⟨q1, q2⟩ := hf.2 rfl
          subst q1
          have hcn : ¬ (cn : Int) = 1 := of_decide_eq_false hh
          (have fct := And.intro (eq_true c1) (And.intro (eq_false c2) (And.intro q2 (hcn))); (repeat' (first
    | refine gF ?_
    | ((first
      | ((with_reducible show CallK _ _ 19 _ _ _ _); first | refine CallK.lit [] h19a c19 ⟨⟨rfl, rfl, trivial⟩, rfl, ⟨rfl, rfl, rfl, rfl, trivial⟩, trivial⟩ rfl rfl ?_ | refine CallK.lit [] h19b c19 ⟨⟨rfl, rfl, trivial⟩, rfl, ⟨rfl, rfl, rfl, rfl, trivial⟩, trivial⟩ rfl rfl ?_)
      | ((with_reducible show CallK _ _ 20 _ _ _ _); refine CallK.lit [] h20 c20 ⟨rfl, rfl, trivial⟩ rfl rfl ?_)
      | ((with_reducible show CallK _ _ 21 _ _ _ _); refine CallK.lit [] h21 c21 ⟨⟨rfl, rfl, trivial⟩, rfl, trivial⟩ rfl rfl ?_)
      | ((with_reducible show IdxK _ _ _ _ _); refine IdxK.mk k (eNode ⟨a1, a2, a3, a4, a5, a6, a7, a8, a9, a10⟩) rfl (node_get hy) ?_)
      | ((with_reducible show DrawK _ _ _ _); refine dK ?_)
      | ((with_reducible show NextK _ _); refine NextK.mk (k + 1) (by omega) (by omega) (by (refine fK ?_; (with_reducible repeat' (first | exact trivial | (show _ ∧ _; refine aK ?_ ?_))); (all_goals try rfl))))) <;> with_reducible refine wK ?_)
    | ((with_reducible show (_ ∧ _) ∧ _ ∧ _); (refine eK ?_ ?_ <;> with_reducible repeat' (first | exact trivial | (show _ ∧ _; refine aK ?_ ?_)))))); all_goals clear fct)
      ·
        have hb : isFor ⟨a1, a2, a3, a4, a5, a6, a7, a8, a9, a10⟩ s base = false := by simp [isFor,c1]
        rw [hb] at hf hh
        obtain ⟨q1, q2⟩ := hf.2 rfl
        subst q1
        have hcn : ¬ (cn : Int) = 1 := of_decide_eq_false hh
        (have fct := And.intro (eq_false c1) (And.intro q2 (hcn)); (repeat' (first
    | refine gF ?_
    | ((first
      | ((with_reducible show CallK _ _ 19 _ _ _ _); first | refine CallK.lit [] h19a c19 ⟨⟨rfl, rfl, trivial⟩, rfl, ⟨rfl, rfl, rfl, rfl, trivial⟩, trivial⟩ rfl rfl ?_ | refine CallK.lit [] h19b c19 ⟨⟨rfl, rfl, trivial⟩, rfl, ⟨rfl, rfl, rfl, rfl, trivial⟩, trivial⟩ rfl rfl ?_)
      | ((with_reducible show CallK _ _ 20 _ _ _ _); refine CallK.lit [] h20 c20 ⟨rfl, rfl, trivial⟩ rfl rfl ?_)
      | ((with_reducible show CallK _ _ 21 _ _ _ _); refine CallK.lit [] h21 c21 ⟨⟨rfl, rfl, trivial⟩, rfl, trivial⟩ rfl rfl ?_)
      | ((with_reducible show IdxK _ _ _ _ _); refine IdxK.mk k (eNode ⟨a1, a2, a3, a4, a5, a6, a7, a8, a9, a10⟩) rfl (node_get hy) ?_)
      | ((with_reducible show DrawK _ _ _ _); refine dK ?_)
      | ((with_reducible show NextK _ _); refine NextK.mk (k + 1) (by omega) (by omega) (by (refine fK ?_; (with_reducible repeat' (first | exact trivial | (show _ ∧ _; refine aK ?_ ?_))); (all_goals try rfl))))) <;> with_reducible refine wK ?_)
    | ((with_reducible show (_ ∧ _) ∧ _ ∧ _); (refine eK ?_ ?_ <;> with_reducible repeat' (first | exact trivial | (show _ ∧ _; refine aK ?_ ?_)))))); all_goals clear fct)
    · repeat' (first
    | refine gK ?_
    | ((with_reducible show (_ ∧ _) ∧ _ ∧ _); (refine eK ?_ ?_ <;> with_reducible repeat' (first | exact trivial | (show _ ∧ _; refine aK ?_ ?_)))))
      all_goals rfl
  · have h16' := h16
    rw [if_neg e0] at h16
    obtain ⟨l, m⟩ := f
    obtain ⟨d1, d2, d3, d4⟩ := d
    refine FnOK.startC (rvs := [.tmp 10]) G G_good Tryz.func3 rfl Tryz.ntmps3 rfl rfl ?_; with_reducible refine wD ?_
    (have fct := e0; (repeat' (first
    | refine gF ?_
    | ((first
      | ((with_reducible show CallK _ _ 12 _ _ _ _); refine CallK.lit [] h12 c12 trivial rfl rfl ?_)
      | ((with_reducible show CallK _ _ 13 _ _ _ _); refine CallK.lit [] h13 c13 ⟨⟨rfl, rfl, trivial⟩, trivial⟩ rfl rfl ?_)
      | ((with_reducible show CallK _ _ 14 _ _ _ _); refine CallK.lit [] h14 c14 ⟨⟨rfl, rfl, rfl, rfl, trivial⟩, trivial⟩ rfl rfl ?_)
      | ((with_reducible show CallK _ _ 15 _ _ _ _); refine CallK.lit [] h15 c15 ⟨⟨rfl, rfl, trivial⟩, trivial⟩ rfl rfl ?_)
      | ((with_reducible show CallK _ _ 16 _ _ _ _); refine CallK.val [] h16 c16 ⟨⟨rfl, rfl, rfl, rfl, trivial⟩, rfl, rfl, rfl, rfl, trivial⟩ rfl rfl rfl ?_)
      | ((with_reducible show CallK _ _ 17 _ _ _ _); refine CallK.lit [] h17 c17 ⟨⟨rfl, rfl, rfl, rfl, trivial⟩, rfl, rfl, rfl, rfl, trivial⟩ rfl rfl ?_)) <;> with_reducible refine wK ?_)
    | ((with_reducible show (_ ∧ _) ∧ _ ∧ _); (refine eK ?_ ?_ <;> with_reducible repeat' (first | exact trivial | (show _ ∧ _; refine aK ?_ ?_)))))); all_goals clear fct)
    all_goals simp
theorem f3_ok (f : ForM) (d : DeskM) (s base : ByteArray) (c : Int) : FnOK Tryz.prog 3 [] [eFor f, eDesk d, eStr s, eStr base, eInt c] [] (eBool true) := by
  by_cases k1 : shortF f = true
  · by_cases k2 : shortB d = true
    · by_cases k3 : s.size ≤ 300
      · by_cases k4 : base.size ≤ 300
        · by_cases k5 : rightF f = true
          · exact f3_main f d s base c k1 k2 k3 k4 k5
          · have hs := shortF_iff.1 k1
            have h12 := f12_ok
            have h13 := f13_ok f
            have h14 := f14_ok d
            have h15 := f15_ok f hs
            rw [k1] at h13
            rw [k2] at h14
            rw [eq_false_of_ne_true k5] at h15
            obtain ⟨l, m⟩ := f
            obtain ⟨d1, d2, d3, d4⟩ := d
            refine FnOK.startC (rvs := [.tmp 10]) G G_good Tryz.func3 rfl Tryz.ntmps3 rfl rfl ?_; with_reducible refine wD ?_
            repeat' (first
    | refine gK ?_
    | ((first
      | ((with_reducible show CallK _ _ 12 _ _ _ _); refine CallK.lit [] h12 c12 trivial rfl rfl ?_)
      | ((with_reducible show CallK _ _ 13 _ _ _ _); refine CallK.lit [] h13 c13 ⟨⟨rfl, rfl, trivial⟩, trivial⟩ rfl rfl ?_)
      | ((with_reducible show CallK _ _ 14 _ _ _ _); refine CallK.lit [] h14 c14 ⟨⟨rfl, rfl, rfl, rfl, trivial⟩, trivial⟩ rfl rfl ?_)
      | ((with_reducible show CallK _ _ 15 _ _ _ _); refine CallK.lit [] h15 c15 ⟨⟨rfl, rfl, trivial⟩, trivial⟩ rfl rfl ?_)) <;> with_reducible refine wK ?_)
    | ((with_reducible show (_ ∧ _) ∧ _ ∧ _); (refine eK ?_ ?_ <;> with_reducible repeat' (first | exact trivial | (show _ ∧ _; refine aK ?_ ?_)))))
            all_goals rfl
        ·
          have h12 := f12_ok
          have h13 := f13_ok f
          have h14 := f14_ok d
          rw [k1] at h13
          rw [k2] at h14
          obtain ⟨l, m⟩ := f
          obtain ⟨d1, d2, d3, d4⟩ := d
          refine FnOK.startC (rvs := [.tmp 10]) G G_good Tryz.func3 rfl Tryz.ntmps3 rfl rfl ?_; with_reducible refine wD ?_
          repeat' (first
    | refine gK ?_
    | ((first
      | ((with_reducible show CallK _ _ 12 _ _ _ _); refine CallK.lit [] h12 c12 trivial rfl rfl ?_)
      | ((with_reducible show CallK _ _ 13 _ _ _ _); refine CallK.lit [] h13 c13 ⟨⟨rfl, rfl, trivial⟩, trivial⟩ rfl rfl ?_)
      | ((with_reducible show CallK _ _ 14 _ _ _ _); refine CallK.lit [] h14 c14 ⟨⟨rfl, rfl, rfl, rfl, trivial⟩, trivial⟩ rfl rfl ?_)) <;> with_reducible refine wK ?_)
    | ((with_reducible show (_ ∧ _) ∧ _ ∧ _); (refine eK ?_ ?_ <;> with_reducible repeat' (first | exact trivial | (show _ ∧ _; refine aK ?_ ?_)))))
          all_goals rfl
      ·
        have h12 := f12_ok
        have h13 := f13_ok f
        have h14 := f14_ok d
        rw [k1] at h13
        rw [k2] at h14
        obtain ⟨l, m⟩ := f
        obtain ⟨d1, d2, d3, d4⟩ := d
        refine FnOK.startC (rvs := [.tmp 10]) G G_good Tryz.func3 rfl Tryz.ntmps3 rfl rfl ?_; with_reducible refine wD ?_
        repeat' (first
    | refine gK ?_
    | ((first
      | ((with_reducible show CallK _ _ 12 _ _ _ _); refine CallK.lit [] h12 c12 trivial rfl rfl ?_)
      | ((with_reducible show CallK _ _ 13 _ _ _ _); refine CallK.lit [] h13 c13 ⟨⟨rfl, rfl, trivial⟩, trivial⟩ rfl rfl ?_)
      | ((with_reducible show CallK _ _ 14 _ _ _ _); refine CallK.lit [] h14 c14 ⟨⟨rfl, rfl, rfl, rfl, trivial⟩, trivial⟩ rfl rfl ?_)) <;> with_reducible refine wK ?_)
    | ((with_reducible show (_ ∧ _) ∧ _ ∧ _); (refine eK ?_ ?_ <;> with_reducible repeat' (first | exact trivial | (show _ ∧ _; refine aK ?_ ?_)))))
        all_goals rfl
    · have h12 := f12_ok
      have h13 := f13_ok f
      have h14 := f14_ok d
      rw [k1] at h13
      rw [eq_false_of_ne_true k2] at h14
      obtain ⟨l, m⟩ := f
      obtain ⟨d1, d2, d3, d4⟩ := d
      refine FnOK.startC (rvs := [.tmp 10]) G G_good Tryz.func3 rfl Tryz.ntmps3 rfl rfl ?_; with_reducible refine wD ?_
      repeat' (first
    | refine gK ?_
    | ((first
      | ((with_reducible show CallK _ _ 12 _ _ _ _); refine CallK.lit [] h12 c12 trivial rfl rfl ?_)
      | ((with_reducible show CallK _ _ 13 _ _ _ _); refine CallK.lit [] h13 c13 ⟨⟨rfl, rfl, trivial⟩, trivial⟩ rfl rfl ?_)
      | ((with_reducible show CallK _ _ 14 _ _ _ _); refine CallK.lit [] h14 c14 ⟨⟨rfl, rfl, rfl, rfl, trivial⟩, trivial⟩ rfl rfl ?_)) <;> with_reducible refine wK ?_)
    | ((with_reducible show (_ ∧ _) ∧ _ ∧ _); (refine eK ?_ ?_ <;> with_reducible repeat' (first | exact trivial | (show _ ∧ _; refine aK ?_ ?_)))))
      all_goals rfl
  · have h12 := f12_ok
    have h13 := f13_ok f
    have h14 := f14_ok d
    rw [eq_false_of_ne_true k1] at h13
    obtain ⟨l, m⟩ := f
    obtain ⟨d1, d2, d3, d4⟩ := d
    refine FnOK.startC (rvs := [.tmp 10]) G G_good Tryz.func3 rfl Tryz.ntmps3 rfl rfl ?_; with_reducible refine wD ?_
    repeat' (first
    | refine gK ?_
    | ((first
      | ((with_reducible show CallK _ _ 12 _ _ _ _); refine CallK.lit [] h12 c12 trivial rfl rfl ?_)
      | ((with_reducible show CallK _ _ 13 _ _ _ _); refine CallK.lit [] h13 c13 ⟨⟨rfl, rfl, trivial⟩, trivial⟩ rfl rfl ?_)
      | ((with_reducible show CallK _ _ 14 _ _ _ _); refine CallK.lit [] h14 c14 ⟨⟨rfl, rfl, rfl, rfl, trivial⟩, trivial⟩ rfl rfl ?_)) <;> with_reducible refine wK ?_)
    | ((with_reducible show (_ ∧ _) ∧ _ ∧ _); (refine eK ?_ ?_ <;> with_reducible repeat' (first | exact trivial | (show _ ∧ _; refine aK ?_ ?_)))))
    all_goals rfl
end Go.Proofs.Heir
end
section
set_option linter.unusedSimpArgs false
set_option linter.unusedVariables false
namespace Go.Proofs.Heir
open Go Go.Am Go.RowKit
theorem rStr : Reads Tryz.prog 9 1 eStr (fun s => s.size ≤ maxLen) := Reads.str Tryz.underlying9 (by kernel_rfl)
theorem rInt : Reads Tryz.prog 3 1 oInt (fun _ => True) := (Reads.int Tryz.underlying3 (by kernel_rfl)).conv id id (fun _ => rfl) (fun _ => rfl) (fun _ _ => trivial)
theorem rBool : Reads Tryz.prog 4 1 (fun b : Bool => .lit (.bool b)) (fun _ => True) := Reads.bool Tryz.underlying4 (by kernel_rfl)
theorem rDef : Reads Tryz.prog 39 3 oDef (fun _ => True) :=
  (Reads.struct (l := [(0, 9), (1, 9), (2, 3)]) Tryz.underlying39 (by kernel_rfl) rfl (.cons rStr (.cons rStr (.cons rInt .nil)))).conv
    (fun (a, b, c, _) => ⟨a, b, c⟩) (fun t => (t.name, t.locl, t.cls, ())) (fun _ => rfl) (fun _ => rfl) (fun _ _ => trivial)
theorem rWait : Reads Tryz.prog 89 2 oWait (fun _ => True) :=
  (Reads.struct (l := [(0, 9), (1, 3)]) Tryz.underlying89 (by kernel_rfl) rfl (.cons rStr (.cons rInt .nil))).conv
    (fun (a, b, _) => ⟨a, b⟩) (fun t => (t.name, t.ticket, ())) (fun _ => rfl) (fun _ => rfl) (fun _ _ => trivial)
theorem rDefs1 : Reads Tryz.prog 25 1 eDefs (fun _ => True) := (Reads.slice Tryz.underlying25 (by kernel_rfl) rDef (by omega)).conv id id (fun _ => rfl) (fun _ => rfl) (fun _ _ => trivial)
theorem rWaits1 : Reads Tryz.prog 26 1 eWaits (fun _ => True) := (Reads.slice Tryz.underlying26 (by kernel_rfl) rWait (by omega)).conv id id (fun _ => rfl) (fun _ => rfl) (fun _ _ => trivial)
theorem rDesk : Reads Tryz.prog 28 4 eDesk (fun _ => True) :=
  (Reads.struct (l := [(0, 25), (1, 26), (2, 3), (3, 4)]) Tryz.underlying28 (by kernel_rfl) rfl (.cons rDefs1 (.cons rWaits1 (.cons rInt (.cons rBool .nil))))).conv
    (fun (a, b, c, e, _) => ⟨a, b, c, e⟩) (fun t => (t.defs, t.waits, t.next, t.busy, ())) (fun _ => rfl) (fun _ => rfl) (fun _ _ => trivial)
theorem rAttr : Reads Tryz.prog 130 2 oAttr (fun _ => True) :=
  (Reads.struct (l := [(0, 9), (1, 9)]) Tryz.underlying130 (by kernel_rfl) rfl (.cons rStr (.cons rStr .nil))).conv
    (fun (a, b, _) => ⟨a, b⟩) (fun t => (t.name, t.value, ())) (fun _ => rfl) (fun _ => rfl) (fun _ _ => trivial)
theorem rAttrs1 : Reads Tryz.prog 40 1 eAttrs (fun _ => True) := (Reads.slice Tryz.underlying40 (by kernel_rfl) rAttr (by omega)).conv id id (fun _ => rfl) (fun _ => rfl) (fun _ _ => trivial)
theorem rInts1 : Reads Tryz.prog 32 1 eInts (fun _ => True) := (Reads.slice Tryz.underlying32 (by kernel_rfl) rInt (by omega)).conv id id (fun _ => rfl) (fun _ => rfl) (fun _ _ => trivial)
theorem rNode : Reads Tryz.prog 42 10 oNode (fun _ => True) :=
  (Reads.struct (l := [(0, 3), (1, 9), (2, 9), (3, 9), (4, 40), (5, 3), (6, 32), (7, 3), (8, 3), (9, 3)]) Tryz.underlying42 (by kernel_rfl) rfl
    (.cons rInt (.cons rStr (.cons rStr (.cons rStr (.cons rAttrs1 (.cons rInt (.cons rInts1 (.cons rInt (.cons rInt (.cons rInt .nil))))))))))).conv
    (fun (a, b, c, d, e, f, g, h, i, j, _) => ⟨a, b, c, d, e, f, g, h, i, j⟩)
    (fun t => (t.kind, t.name, t.is, t.data, t.attrs, t.parent, t.kids, t.host, t.under, t.doc, ())) (fun _ => rfl) (fun _ => rfl) (fun _ _ => trivial)
theorem rNodes1 : Reads Tryz.prog 22 1 eNodes (fun _ => True) := (Reads.slice Tryz.underlying22 (by kernel_rfl) rNode (by omega)).conv id id (fun _ => rfl) (fun _ => rfl) (fun _ _ => trivial)
theorem rFor : Reads Tryz.prog 24 2 eFor (fun _ => True) :=
  (Reads.struct (l := [(0, 22), (1, 3)]) Tryz.underlying24 (by kernel_rfl) rfl (.cons rNodes1 (.cons rInt .nil))).conv
    (fun (a, b, _) => ⟨a, b⟩) (fun t => (t.nodes, t.most, ())) (fun _ => rfl) (fun _ => rfl) (fun _ _ => trivial)
theorem laid : Go.laidOutB Tryz.prog = true := by kernel_rfl
abbrev laidRows : List (String × DataW Unit) := [("unicode.White_Space", Go.Proofs.YtpogpigciaajoaaGreatDoor.Rows.laid_unicode_White_Space), ("strings.asciiSpace", Go.Proofs.YtpogpigciaajoaaGreatDoor.Rows.laid_strings_asciiSpace)]
theorem tab_eq : (Go.Proofs.YtpogpigciaajoaaGreatDoor.Rows.laid_strings_asciiSpace : DataW Unit) = Lib.tabData .u8 Lib.asciiSpaceTab := by kernel_rfl
theorem door_met (os : Os) (args : Array Value) : laidMetH Tryz.prog laidRows ((World.doorLaid Tryz.prog 33 os).forCall (fun _ _ => 0) ⟨#[], args, []⟩).memory :=
  laidMetH_of_parts3 (fuel := 8) (laidMet_of_run' 8 (by kernel_rfl) (by kernel_rfl)) (by kernel_rfl) (by kernel_rfl)
theorem gSp : Tryz.prog.globalNamed "strings.asciiSpace" = some 0 := by kernel_rfl
theorem tySp : (Tryz.prog.globals[0]?).map (·.type) = some 226 := by kernel_rfl
theorem tabs_of_laid {W : World} (h : laidMetH Tryz.prog laidRows W) : Tabs Tryz.prog W fun _ => none := by
  rw [MakeChecks.laidMetH_plain _ _ _ (by kernel_rfl)] at h
  obtain ⟨ps, ⟨g0, t0, cs0, f0, p0, q0, hg0, ht0, hv0, hd0, ⟨g1, t1, cs1, f1, p1, q1, hg1, ht1, hv1, hd1, _, _⟩, _⟩, _⟩ := h
  intro g hg
  obtain rfl := Option.some.inj (hg.symm.trans hg1)
  have e : g = 0 := Option.some.inj (hg.symm.trans gSp)
  have ht : (Tryz.prog.globals[g]?).map (·.type) = some 226 := by rw [e]; exact tySp
  obtain rfl := Option.some.inj (ht.symm.trans ht1)
  rw [tab_eq] at hd1
  have hc := Lib.cells_of_tab Tryz.underlying226 Tryz.underlying5 (by kernel_rfl) (by kernel_rfl) hd1
  have htab : Lib.TabIs Tryz.prog W "strings.asciiSpace" .u8 Lib.asciiSpaceTab := by
    unfold Lib.TabIs
    rw [hv1, ← hc]
  have hcell : ∀ c : Nat, c < 256 → W.cell? ⟨g, c, none⟩ = some (.int .u8 (if Lib.isSp (UInt8.ofNat c) then 1 else 0)) := fun c hc => by
    rw [htab.cell hg c (by rw [Lib.asciiSpaceTab_length]; exact hc), Lib.asciiSpaceTab_at c hc]
  refine ⟨(by rintro ⟨_, _, h, _⟩; cases h), World.block_lt_of_cell? _ _ (hcell 0 (by omega)), hcell⟩
end Go.Proofs.Heir
end
