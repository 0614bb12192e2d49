/- The walk of the law AttrRight. By an AI agent. -/
import Derived.Test.YtcgiapfnjijfkaaAB
section
namespace Go.Proofs.Attr
open Go.Am Go.RowKit Go.Lib
set_option maxRecDepth 100000
theorem dec_rfl {α : Type} [DecidableEq α] (a : α) : (!decide (a = a)) = false := by simp
theorem dec_rfl' {α : Type} [DecidableEq α] (a : α) : decide (a ≠ a) = false := by simp
theorem setA_len (l : List AttrM) (n v : ByteArray) : (setA l n v).1.length ≤ l.length + 1 := by
  unfold setA; repeat' split
  all_goals simp
theorem removeA_len (l : List AttrM) (n : ByteArray) : (removeA l n).1.length ≤ l.length := by
  unfold removeA; split
  · simp [cutA]; omega
  · simp
theorem toggleA_len (l : List AttrM) (n : ByteArray) (f : Int) : (toggleA l n f).1.length ≤ l.length + 1 := by
  have h1 := setA_len l n noS
  have h2 := removeA_len l n
  unfold toggleA; repeat' split
  all_goals (try dsimp only)
  all_goals omega
theorem removeA_snd (l : List AttrM) (n : ByteArray) : (removeA l n).2 = decide (0 ≤ findP l n) := by
  unfold removeA; split <;> simp_all
set_option maxHeartbeats 1000000 in
theorem f3_ok (l m : List AttrM) (n v : ByteArray) (f : Int) : FnOK Try.prog 3 [] [eAttrs l, eAttrs m, eStr n, eStr v, eInt f] [] (eBool true) := by
  have hlm : (l.map oAttr).length = l.length := List.length_map ..
  have hmm : (m.map oAttr).length = m.length := List.length_map ..
  refine FnOK.startC (rvs := [.tmp 10]) G G_good Try.func3 rfl Try.ntmps3 rfl rfl ?_; delta List.toArray; ((with_reducible conv => whnf); (with_reducible conv => congr <;> reduce); repeat ((first | (with_reducible refine HaltK.mk ?_) | (with_reducible refine StopK.mk ?_)); (with_reducible conv => whnf); (with_reducible conv => congr <;> reduce)))
  refine CallK.lit [] f8_ok c8 trivial rfl rfl ?_; ((with_reducible conv => whnf); (with_reducible conv => congr <;> reduce); repeat ((first | (with_reducible refine HaltK.mk ?_) | (with_reducible refine StopK.mk ?_)); (with_reducible conv => whnf); (with_reducible conv => congr <;> reduce)))
  repeat' (first
    | ((with_reducible show IfK _ _ _ _); first
      | (refine IfK.yes (by assumption) ?_; ((with_reducible conv => whnf); (with_reducible conv => congr <;> reduce); repeat ((first | (with_reducible refine HaltK.mk ?_) | (with_reducible refine StopK.mk ?_)); (with_reducible conv => whnf); (with_reducible conv => congr <;> reduce))))
      | (refine IfK.no (by assumption) ?_; ((with_reducible conv => whnf); (with_reducible conv => congr <;> reduce); repeat ((first | (with_reducible refine HaltK.mk ?_) | (with_reducible refine StopK.mk ?_)); (with_reducible conv => whnf); (with_reducible conv => congr <;> reduce))))
      | (with_reducible refine IfK.yes Bool.not_false ?_; ((with_reducible conv => whnf); (with_reducible conv => congr <;> reduce); repeat ((first | (with_reducible refine HaltK.mk ?_) | (with_reducible refine StopK.mk ?_)); (with_reducible conv => whnf); (with_reducible conv => congr <;> reduce))))
      | (with_reducible refine IfK.no Bool.not_true ?_; ((with_reducible conv => whnf); (with_reducible conv => congr <;> reduce); repeat ((first | (with_reducible refine HaltK.mk ?_) | (with_reducible refine StopK.mk ?_)); (with_reducible conv => whnf); (with_reducible conv => congr <;> reduce))))
      | (with_reducible refine IfK.yes (nf (by assumption)) ?_; ((with_reducible conv => whnf); (with_reducible conv => congr <;> reduce); repeat ((first | (with_reducible refine HaltK.mk ?_) | (with_reducible refine StopK.mk ?_)); (with_reducible conv => whnf); (with_reducible conv => congr <;> reduce))))
      | (with_reducible refine IfK.no (nt (by assumption)) ?_; ((with_reducible conv => whnf); (with_reducible conv => congr <;> reduce); repeat ((first | (with_reducible refine HaltK.mk ?_) | (with_reducible refine StopK.mk ?_)); (with_reducible conv => whnf); (with_reducible conv => congr <;> reduce))))
      | (with_reducible refine IfK.tt ?_; ((with_reducible conv => whnf); (with_reducible conv => congr <;> reduce); repeat ((first | (with_reducible refine HaltK.mk ?_) | (with_reducible refine StopK.mk ?_)); (with_reducible conv => whnf); (with_reducible conv => congr <;> reduce))))
      | (with_reducible refine IfK.ff ?_; ((with_reducible conv => whnf); (with_reducible conv => congr <;> reduce); repeat ((first | (with_reducible refine HaltK.mk ?_) | (with_reducible refine StopK.mk ?_)); (with_reducible conv => whnf); (with_reducible conv => congr <;> reduce))))
      | (refine IfK.mk (fun _ => ?_) (fun _ => ?_) <;> ((with_reducible conv => whnf); (with_reducible conv => congr <;> reduce); repeat ((first | (with_reducible refine HaltK.mk ?_) | (with_reducible refine StopK.mk ?_)); (with_reducible conv => whnf); (with_reducible conv => congr <;> reduce)))))
    | ((with_reducible show CallK _ _ 9 _ _ _ _); refine CallK.lit [] (f9_ok l) c9 ⟨rfl, trivial⟩ rfl rfl ?_; ((with_reducible conv => whnf); (with_reducible conv => congr <;> reduce); repeat ((first | (with_reducible refine HaltK.mk ?_) | (with_reducible refine StopK.mk ?_)); (with_reducible conv => whnf); (with_reducible conv => congr <;> reduce))))
    | ((with_reducible show CallK _ _ 9 _ _ _ _); refine CallK.lit [] (f9_ok m) c9 ⟨rfl, trivial⟩ rfl rfl ?_; ((with_reducible conv => whnf); (with_reducible conv => congr <;> reduce); repeat ((first | (with_reducible refine HaltK.mk ?_) | (with_reducible refine StopK.mk ?_)); (with_reducible conv => whnf); (with_reducible conv => congr <;> reduce))))
    | ((with_reducible show (_ ∧ _) ∧ _ ∧ _); refine ⟨⟨rfl, rfl⟩, ?_, ?_⟩ <;> (with_reducible conv => whnf) <;> repeat' (first | (with_reducible exact trivial) | (with_reducible refine And.intro ?_ ?_ <;> with_reducible conv => whnf))))
  rename_i h1 h2 h3 h4
  have hl : l.length ≤ 100000 := by simp only [Bool.not_eq_false', decide_eq_true_eq] at h1; omega
  have hm : m.length ≤ 100000 := by simp only [Bool.not_eq_false', decide_eq_true_eq] at h2; omega
  refine AppK.mk [] (l.map oAttr) ⟨rfl, rfl, rfl⟩ ⟨rfl, rfl, rfl⟩ (one_attrs l) (by simp; omega) (by simp; omega) ?_; ((with_reducible conv => whnf); (with_reducible conv => congr <;> reduce); repeat ((first | (with_reducible refine HaltK.mk ?_) | (with_reducible refine StopK.mk ?_)); (with_reducible conv => whnf); (with_reducible conv => congr <;> reduce)))
  simp only [List.nil_append]
  refine CallK.lit [551] (f10_ok l hl n) c10 ⟨frz_attrs rfl rfl rfl (by simp), rfl, trivial⟩ rfl rfl ?_; ((with_reducible conv => whnf); (with_reducible conv => congr <;> reduce); repeat ((first | (with_reducible refine HaltK.mk ?_) | (with_reducible refine StopK.mk ?_)); (with_reducible conv => whnf); (with_reducible conv => congr <;> reduce)))
  refine CallK.lit [] (f11_ok l hl n) c11 ⟨rfl, rfl, trivial⟩ rfl rfl ?_; ((with_reducible conv => whnf); (with_reducible conv => congr <;> reduce); repeat ((first | (with_reducible refine HaltK.mk ?_) | (with_reducible refine StopK.mk ?_)); (with_reducible conv => whnf); (with_reducible conv => congr <;> reduce)))
  refine CallK.val [551] (f12_ok l hl n v) c12 ⟨frz_attrs rfl rfl rfl (by simp), rfl, rfl, trivial⟩ rfl rfl rfl ?_; ((with_reducible conv => whnf); (with_reducible conv => congr <;> reduce); repeat ((first | (with_reducible refine HaltK.mk ?_) | (with_reducible refine StopK.mk ?_)); (with_reducible conv => whnf); (with_reducible conv => congr <;> reduce)))
  refine CallK.val [] (f13_ok l hl n v) c13 ⟨rfl, rfl, rfl, trivial⟩ rfl rfl rfl ?_; ((with_reducible conv => whnf); (with_reducible conv => congr <;> reduce); repeat ((first | (with_reducible refine HaltK.mk ?_) | (with_reducible refine StopK.mk ?_)); (with_reducible conv => whnf); (with_reducible conv => congr <;> reduce)))
  refine CallK.val [551] (f14_ok l hl n) c14 ⟨frz_attrs rfl rfl rfl (by simp), rfl, trivial⟩ rfl rfl rfl ?_; ((with_reducible conv => whnf); (with_reducible conv => congr <;> reduce); repeat ((first | (with_reducible refine HaltK.mk ?_) | (with_reducible refine StopK.mk ?_)); (with_reducible conv => whnf); (with_reducible conv => congr <;> reduce)))
  refine CallK.val [] (f15_ok' l hl n) c15 ⟨rfl, rfl, trivial⟩ rfl rfl rfl ?_; ((with_reducible conv => whnf); (with_reducible conv => congr <;> reduce); repeat ((first | (with_reducible refine HaltK.mk ?_) | (with_reducible refine StopK.mk ?_)); (with_reducible conv => whnf); (with_reducible conv => congr <;> reduce)))
  refine CallK.val [551] (f16_ok l hl n f) c16 ⟨frz_attrs rfl rfl rfl (by simp), rfl, rfl, trivial⟩ rfl rfl rfl ?_; ((with_reducible conv => whnf); (with_reducible conv => congr <;> reduce); repeat ((first | (with_reducible refine HaltK.mk ?_) | (with_reducible refine StopK.mk ?_)); (with_reducible conv => whnf); (with_reducible conv => congr <;> reduce)))
  refine CallK.val [] (f17_ok l hl n f) c17 ⟨rfl, rfl, rfl, trivial⟩ rfl rfl rfl ?_; ((with_reducible conv => whnf); (with_reducible conv => congr <;> reduce); repeat ((first | (with_reducible refine HaltK.mk ?_) | (with_reducible refine StopK.mk ?_)); (with_reducible conv => whnf); (with_reducible conv => congr <;> reduce)))
  refine CallK.lit [551] (f18_ok l hl) c18 ⟨frz_attrs rfl rfl rfl (by simp), trivial⟩ rfl rfl ?_; ((with_reducible conv => whnf); (with_reducible conv => congr <;> reduce); repeat ((first | (with_reducible refine HaltK.mk ?_) | (with_reducible refine StopK.mk ?_)); (with_reducible conv => whnf); (with_reducible conv => congr <;> reduce)))
  refine CallK.lit [] (f19_ok l hl) c19 ⟨rfl, trivial⟩ rfl rfl ?_; ((with_reducible conv => whnf); (with_reducible conv => congr <;> reduce); repeat ((first | (with_reducible refine HaltK.mk ?_) | (with_reducible refine StopK.mk ?_)); (with_reducible conv => whnf); (with_reducible conv => congr <;> reduce)))
  have k1 := setA_len l n v
  have k2 := removeA_len l n
  have k3 := toggleA_len l n f
  have k4 := removeA_snd l n
  simp only [Bool.not_eq_false', decide_eq_true_eq] at h1
  repeat' (first
    | (with_reducible show IfK _ _ _ _); (first | (refine IfK.ff ?_; ((with_reducible conv => whnf); (with_reducible conv => congr <;> reduce); repeat ((first | (with_reducible refine HaltK.mk ?_) | (with_reducible refine StopK.mk ?_)); (with_reducible conv => whnf); (with_reducible conv => congr <;> reduce)))) | (refine IfK.no (by first | (simp; done) | (simp; exact k4)) ?_; ((with_reducible conv => whnf); (with_reducible conv => congr <;> reduce); repeat ((first | (with_reducible refine HaltK.mk ?_) | (with_reducible refine StopK.mk ?_)); (with_reducible conv => whnf); (with_reducible conv => congr <;> reduce)))))
    | (with_reducible show CallK _ _ 20 _ _ _ _); (first
       | (refine CallK.lit [551] (f20_ok l l hl) c20 ⟨frz_attrs rfl rfl rfl (by simp), rfl, trivial⟩ rfl rfl ?_; ((with_reducible conv => whnf); (with_reducible conv => congr <;> reduce); repeat ((first | (with_reducible refine HaltK.mk ?_) | (with_reducible refine StopK.mk ?_)); (with_reducible conv => whnf); (with_reducible conv => congr <;> reduce))))
       | (refine CallK.lit [] (f20_ok (setA l n v).1 (setA l n v).1 (by omega)) c20 ⟨rfl, rfl, trivial⟩ rfl rfl ?_; ((with_reducible conv => whnf); (with_reducible conv => congr <;> reduce); repeat ((first | (with_reducible refine HaltK.mk ?_) | (with_reducible refine StopK.mk ?_)); (with_reducible conv => whnf); (with_reducible conv => congr <;> reduce))))
       | (refine CallK.lit [] (f20_ok (removeA l n).1 (removeA l n).1 (by omega)) c20 ⟨rfl, rfl, trivial⟩ rfl rfl ?_; ((with_reducible conv => whnf); (with_reducible conv => congr <;> reduce); repeat ((first | (with_reducible refine HaltK.mk ?_) | (with_reducible refine StopK.mk ?_)); (with_reducible conv => whnf); (with_reducible conv => congr <;> reduce))))
       | (refine CallK.lit [] (f20_ok (toggleA l n f).1 (toggleA l n f).1 (by omega)) c20 ⟨rfl, rfl, trivial⟩ rfl rfl ?_; ((with_reducible conv => whnf); (with_reducible conv => congr <;> reduce); repeat ((first | (with_reducible refine HaltK.mk ?_) | (with_reducible refine StopK.mk ?_)); (with_reducible conv => whnf); (with_reducible conv => congr <;> reduce))))))
  refine CallK.lit [] (f19_ok l hl) c19 ⟨rfl, trivial⟩ rfl rfl ?_; ((with_reducible conv => whnf); (with_reducible conv => congr <;> reduce); repeat ((first | (with_reducible refine HaltK.mk ?_) | (with_reducible refine StopK.mk ?_)); (with_reducible conv => whnf); (with_reducible conv => congr <;> reduce)))
  repeat' (first
    | ((with_reducible show IfK _ _ _ _); first
      | (refine IfK.yes (by assumption) ?_; ((with_reducible conv => whnf); (with_reducible conv => congr <;> reduce); repeat ((first | (with_reducible refine HaltK.mk ?_) | (with_reducible refine StopK.mk ?_)); (with_reducible conv => whnf); (with_reducible conv => congr <;> reduce))))
      | (refine IfK.no (by assumption) ?_; ((with_reducible conv => whnf); (with_reducible conv => congr <;> reduce); repeat ((first | (with_reducible refine HaltK.mk ?_) | (with_reducible refine StopK.mk ?_)); (with_reducible conv => whnf); (with_reducible conv => congr <;> reduce))))
      | (with_reducible refine IfK.yes Bool.not_false ?_; ((with_reducible conv => whnf); (with_reducible conv => congr <;> reduce); repeat ((first | (with_reducible refine HaltK.mk ?_) | (with_reducible refine StopK.mk ?_)); (with_reducible conv => whnf); (with_reducible conv => congr <;> reduce))))
      | (with_reducible refine IfK.no Bool.not_true ?_; ((with_reducible conv => whnf); (with_reducible conv => congr <;> reduce); repeat ((first | (with_reducible refine HaltK.mk ?_) | (with_reducible refine StopK.mk ?_)); (with_reducible conv => whnf); (with_reducible conv => congr <;> reduce))))
      | (with_reducible refine IfK.yes (nf (by assumption)) ?_; ((with_reducible conv => whnf); (with_reducible conv => congr <;> reduce); repeat ((first | (with_reducible refine HaltK.mk ?_) | (with_reducible refine StopK.mk ?_)); (with_reducible conv => whnf); (with_reducible conv => congr <;> reduce))))
      | (with_reducible refine IfK.no (nt (by assumption)) ?_; ((with_reducible conv => whnf); (with_reducible conv => congr <;> reduce); repeat ((first | (with_reducible refine HaltK.mk ?_) | (with_reducible refine StopK.mk ?_)); (with_reducible conv => whnf); (with_reducible conv => congr <;> reduce))))
      | (with_reducible refine IfK.tt ?_; ((with_reducible conv => whnf); (with_reducible conv => congr <;> reduce); repeat ((first | (with_reducible refine HaltK.mk ?_) | (with_reducible refine StopK.mk ?_)); (with_reducible conv => whnf); (with_reducible conv => congr <;> reduce))))
      | (with_reducible refine IfK.ff ?_; ((with_reducible conv => whnf); (with_reducible conv => congr <;> reduce); repeat ((first | (with_reducible refine HaltK.mk ?_) | (with_reducible refine StopK.mk ?_)); (with_reducible conv => whnf); (with_reducible conv => congr <;> reduce))))
      | (refine IfK.mk (fun _ => ?_) (fun _ => ?_) <;> ((with_reducible conv => whnf); (with_reducible conv => congr <;> reduce); repeat ((first | (with_reducible refine HaltK.mk ?_) | (with_reducible refine StopK.mk ?_)); (with_reducible conv => whnf); (with_reducible conv => congr <;> reduce)))))
    | ((with_reducible show CallK _ _ 19 _ _ _ _); refine CallK.lit [] (f19_ok m hm) c19 ⟨rfl, trivial⟩ rfl rfl ?_; ((with_reducible conv => whnf); (with_reducible conv => congr <;> reduce); repeat ((first | (with_reducible refine HaltK.mk ?_) | (with_reducible refine StopK.mk ?_)); (with_reducible conv => whnf); (with_reducible conv => congr <;> reduce))))
    | ((with_reducible show (_ ∧ _) ∧ _ ∧ _); refine ⟨⟨rfl, rfl⟩, ?_, ?_⟩ <;> (with_reducible conv => whnf) <;> repeat' (first | (with_reducible exact trivial) | (with_reducible refine And.intro ?_ ?_ <;> with_reducible conv => whnf))))
  all_goals
    refine LoopK.use G G_good (fun (k : Nat) => [(0, eAttrs l), (1, eAttrs m), (11, eAttrs l), (30, eBool (bAt l m k)), (31, eInt k)]) (fun _ => []) (fun k => k ≤ l.length) (fun k => l.length - k) 0 (Nat.zero_le _)
      ⟨⟨rfl, rfl⟩, ⟨rfl, rfl, frz_attrs rfl rfl rfl (by simp), ?_, rfl, trivial⟩, trivial⟩ ?_
    · (with_reducible conv => whnf); simp_all [bAt] <;> exact Int.natCast_inj.symm
    intro k hk
    ((with_reducible conv => whnf); (with_reducible conv => congr <;> reduce); repeat ((first | (with_reducible refine HaltK.mk ?_) | (with_reducible refine StopK.mk ?_)); (with_reducible conv => whnf); (with_reducible conv => congr <;> reduce)))
    refine IfK.mk (fun g1 => ?_) (fun g1 => ?_) <;> (try simp only [castN] at g1) <;> ((with_reducible conv => whnf); (with_reducible conv => congr <;> reduce); repeat ((first | (with_reducible refine HaltK.mk ?_) | (with_reducible refine StopK.mk ?_)); (with_reducible conv => whnf); (with_reducible conv => congr <;> reduce)))
    · simp only [decide_eq_true_eq] at g1
      have hk' : k < l.length := by omega
      obtain ⟨⟨an, av⟩, ha⟩ : ∃ a, l[k]? = some a := ⟨_, List.getElem?_eq_getElem hk'⟩
      have hs := bAt_succ (m := m) ha
      refine IfK.mk (fun gb => ?_) (fun gb => ?_) <;> ((with_reducible conv => whnf); (with_reducible conv => congr <;> reduce); repeat ((first | (with_reducible refine HaltK.mk ?_) | (with_reducible refine StopK.mk ?_)); (with_reducible conv => whnf); (with_reducible conv => congr <;> reduce)))
      · refine IdxK.mk k (eAttr ⟨an, av⟩) rfl (attr_get ha) ?_; ((with_reducible conv => whnf); (with_reducible conv => congr <;> reduce); repeat ((first | (with_reducible refine HaltK.mk ?_) | (with_reducible refine StopK.mk ?_)); (with_reducible conv => whnf); (with_reducible conv => congr <;> reduce)))
        refine CallK.lit [] (f21_ok m hm an) c21 ⟨rfl, rfl, trivial⟩ rfl rfl ?_; ((with_reducible conv => whnf); (with_reducible conv => congr <;> reduce); repeat ((first | (with_reducible refine HaltK.mk ?_) | (with_reducible refine StopK.mk ?_)); (with_reducible conv => whnf); (with_reducible conv => congr <;> reduce)))
        rcases posA_cases m an with ⟨hp, hno⟩ | ⟨q, ⟨bn, bv⟩, hp, hq, he⟩
        · rw [hp]
          refine IfK.no rfl ?_; ((with_reducible conv => whnf); (with_reducible conv => congr <;> reduce); repeat ((first | (with_reducible refine HaltK.mk ?_) | (with_reducible refine StopK.mk ?_)); (with_reducible conv => whnf); (with_reducible conv => congr <;> reduce)))
          refine DrawK.mk (by kernel_rfl) (by kernel_rfl) (by kernel_rfl) ?_; ((with_reducible conv => whnf); (with_reducible conv => congr <;> reduce); repeat ((first | (with_reducible refine HaltK.mk ?_) | (with_reducible refine StopK.mk ?_)); (with_reducible conv => whnf); (with_reducible conv => congr <;> reduce)))
          refine NeedK.mk (by (try simp only [castN]); omega) ?_; ((with_reducible conv => whnf); (with_reducible conv => congr <;> reduce); repeat ((first | (with_reducible refine HaltK.mk ?_) | (with_reducible refine StopK.mk ?_)); (with_reducible conv => whnf); (with_reducible conv => congr <;> reduce)))
          refine NextK.mk (k + 1) (by omega) (by omega) ⟨⟨rfl, rfl⟩, ⟨rfl, rfl, rfl, ?_, by show ((k + 1 : Nat) : Int) = (k : Int) + 1; omega, trivial⟩, trivial⟩
          (with_reducible conv => whnf)
          rw [hs, gb]; unfold foundV; rw [hp]; rfl
        · rw [hp]
          refine IfK.yes (by simp) ?_; ((with_reducible conv => whnf); (with_reducible conv => congr <;> reduce); repeat ((first | (with_reducible refine HaltK.mk ?_) | (with_reducible refine StopK.mk ?_)); (with_reducible conv => whnf); (with_reducible conv => congr <;> reduce)))
          refine IdxK.mk q (eAttr ⟨bn, bv⟩) rfl (attr_get hq) ?_; ((with_reducible conv => whnf); (with_reducible conv => congr <;> reduce); repeat ((first | (with_reducible refine HaltK.mk ?_) | (with_reducible refine StopK.mk ?_)); (with_reducible conv => whnf); (with_reducible conv => congr <;> reduce)))
          refine IdxK.mk k (eAttr ⟨an, av⟩) rfl (attr_get ha) ?_; ((with_reducible conv => whnf); (with_reducible conv => congr <;> reduce); repeat ((first | (with_reducible refine HaltK.mk ?_) | (with_reducible refine StopK.mk ?_)); (with_reducible conv => whnf); (with_reducible conv => congr <;> reduce)))
          refine DrawK.mk (by kernel_rfl) (by kernel_rfl) (by kernel_rfl) ?_; ((with_reducible conv => whnf); (with_reducible conv => congr <;> reduce); repeat ((first | (with_reducible refine HaltK.mk ?_) | (with_reducible refine StopK.mk ?_)); (with_reducible conv => whnf); (with_reducible conv => congr <;> reduce)))
          refine NeedK.mk (by (try simp only [castN]); omega) ?_; ((with_reducible conv => whnf); (with_reducible conv => congr <;> reduce); repeat ((first | (with_reducible refine HaltK.mk ?_) | (with_reducible refine StopK.mk ?_)); (with_reducible conv => whnf); (with_reducible conv => congr <;> reduce)))
          refine NextK.mk (k + 1) (by omega) (by omega) ⟨⟨rfl, rfl⟩, ⟨rfl, rfl, rfl, ?_, by show ((k + 1 : Nat) : Int) = (k : Int) + 1; omega, trivial⟩, trivial⟩
          (with_reducible conv => whnf)
          rw [hs, gb]; unfold foundV; rw [hp]; simp [hq]
      · refine CallK.lit [] (f22_ok l m hl hm) c22 ⟨rfl, rfl, trivial⟩ rfl rfl ?_; ((with_reducible conv => whnf); (with_reducible conv => congr <;> reduce); repeat ((first | (with_reducible refine HaltK.mk ?_) | (with_reducible refine StopK.mk ?_)); (with_reducible conv => whnf); (with_reducible conv => congr <;> reduce)))
        refine ⟨⟨rfl, rfl⟩, ?_, ?_⟩ <;> (with_reducible conv => whnf) <;> repeat' (first | (with_reducible exact trivial) | (with_reducible refine And.intro ?_ ?_ <;> with_reducible conv => whnf))
        rw [← bAt_end, gb, bAt_stop hk gb]; rfl
    · have hkl : k = l.length := by simp only [hlm, decide_eq_false_iff_not] at g1; omega
      subst hkl
      trace_state
      repeat' (first
    | ((with_reducible show IfK _ _ _ _); first
      | (refine IfK.yes (by assumption) ?_; ((with_reducible conv => whnf); (with_reducible conv => congr <;> reduce); repeat ((first | (with_reducible refine HaltK.mk ?_) | (with_reducible refine StopK.mk ?_)); (with_reducible conv => whnf); (with_reducible conv => congr <;> reduce))))
      | (refine IfK.no (by assumption) ?_; ((with_reducible conv => whnf); (with_reducible conv => congr <;> reduce); repeat ((first | (with_reducible refine HaltK.mk ?_) | (with_reducible refine StopK.mk ?_)); (with_reducible conv => whnf); (with_reducible conv => congr <;> reduce))))
      | (with_reducible refine IfK.yes Bool.not_false ?_; ((with_reducible conv => whnf); (with_reducible conv => congr <;> reduce); repeat ((first | (with_reducible refine HaltK.mk ?_) | (with_reducible refine StopK.mk ?_)); (with_reducible conv => whnf); (with_reducible conv => congr <;> reduce))))
      | (with_reducible refine IfK.no Bool.not_true ?_; ((with_reducible conv => whnf); (with_reducible conv => congr <;> reduce); repeat ((first | (with_reducible refine HaltK.mk ?_) | (with_reducible refine StopK.mk ?_)); (with_reducible conv => whnf); (with_reducible conv => congr <;> reduce))))
      | (with_reducible refine IfK.yes (nf (by assumption)) ?_; ((with_reducible conv => whnf); (with_reducible conv => congr <;> reduce); repeat ((first | (with_reducible refine HaltK.mk ?_) | (with_reducible refine StopK.mk ?_)); (with_reducible conv => whnf); (with_reducible conv => congr <;> reduce))))
      | (with_reducible refine IfK.no (nt (by assumption)) ?_; ((with_reducible conv => whnf); (with_reducible conv => congr <;> reduce); repeat ((first | (with_reducible refine HaltK.mk ?_) | (with_reducible refine StopK.mk ?_)); (with_reducible conv => whnf); (with_reducible conv => congr <;> reduce))))
      | (with_reducible refine IfK.tt ?_; ((with_reducible conv => whnf); (with_reducible conv => congr <;> reduce); repeat ((first | (with_reducible refine HaltK.mk ?_) | (with_reducible refine StopK.mk ?_)); (with_reducible conv => whnf); (with_reducible conv => congr <;> reduce))))
      | (with_reducible refine IfK.ff ?_; ((with_reducible conv => whnf); (with_reducible conv => congr <;> reduce); repeat ((first | (with_reducible refine HaltK.mk ?_) | (with_reducible refine StopK.mk ?_)); (with_reducible conv => whnf); (with_reducible conv => congr <;> reduce))))
      | (refine IfK.mk (fun _ => ?_) (fun _ => ?_) <;> ((with_reducible conv => whnf); (with_reducible conv => congr <;> reduce); repeat ((first | (with_reducible refine HaltK.mk ?_) | (with_reducible refine StopK.mk ?_)); (with_reducible conv => whnf); (with_reducible conv => congr <;> reduce)))))
    | ((with_reducible show CallK _ _ 22 _ _ _ _); refine CallK.lit [] (f22_ok l m hl hm) c22 ⟨rfl, rfl, trivial⟩ rfl rfl ?_; ((with_reducible conv => whnf); (with_reducible conv => congr <;> reduce); repeat ((first | (with_reducible refine HaltK.mk ?_) | (with_reducible refine StopK.mk ?_)); (with_reducible conv => whnf); (with_reducible conv => congr <;> reduce))))
    | ((with_reducible show (_ ∧ _) ∧ _ ∧ _); refine ⟨⟨rfl, rfl⟩, ?_, ?_⟩ <;> (with_reducible conv => whnf) <;> repeat' (first | (with_reducible exact trivial) | (with_reducible refine And.intro ?_ ?_ <;> with_reducible conv => whnf))))
      rw [← bAt_end]; simp
end Go.Proofs.Attr
end
