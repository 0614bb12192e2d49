/- The walk of the law DeskFinds. By an AI agent. -/
import Derived.Test.YtknhlflmhonpfaaDoorEG
section
set_option linter.unusedSimpArgs false
set_option linter.unusedVariables false
namespace Go.Proofs.DeskD
open Go.Am Go.RowKit Go.Lib
set_option maxRecDepth 100000
theorem findD_right {d : DeskM} (h : rightD d = true) (a b : ByteArray) : findD d a b = findR d.defs a b := by unfold findD; rw [if_pos h]
theorem namedD_right {d : DeskM} (h : rightD d = true) (a : ByteArray) : namedD d a = posN d.defs a := by unfold namedD; rw [if_pos h]
theorem classedD_right {d : DeskM} (h : rightD d = true) (a : Int) : classedD d a = posC d.defs a := by unfold classedD; rw [if_pos h]
def cntF (l : List DefM) (a b : ByteArray) : Nat := (l.filter (fitsB a b)).length
theorem cntF_succ {l : List DefM} {a b : ByteArray} {k : Nat} {x : DefM} (h : l[k]? = some x) : cntF (l.take (k + 1)) a b = cntF (l.take k) a b + if fitsB a b x = true then 1 else 0 := by
  have hk := (List.getElem?_eq_some_iff.1 h).1
  rw [List.take_succ_eq_append_getElem hk, (List.getElem?_eq_some_iff.1 h).2]
  unfold cntF
  rw [List.filter_append]
  cases e : fitsB a b x <;> simp [e]
theorem cntF_le (l : List DefM) (a b : ByteArray) (k : Nat) : cntF (l.take k) a b ≤ k := by
  unfold cntF
  refine Nat.le_trans (List.length_filter_le ..) ?_
  simp; omega
set_option maxHeartbeats 16000000 in
/-- DeskFinds -/
theorem f4_ok (d : DeskM) (a b : ByteArray) : FnOK Tryd.prog 4 [] [eDesk d, eStr a, eStr b] [] (eBool true) := by
  obtain ⟨sb, hsb⟩ : ∃ b, shortB d = b := ⟨_, rfl⟩
  have h9 := f9_at hsb
  obtain ⟨r, hr⟩ : ∃ r, rightD d = r := ⟨_, rfl⟩
  obtain ⟨F, hF⟩ : ∃ x, findD d a b = x := ⟨_, rfl⟩
  have hfr := fun h => @findD_right d h
  have hnr := fun h => @namedD_right d h
  have hcr := fun h => @classedD_right d h
  have hdf := @right_defs d
  obtain ⟨l, ws, nx, bz⟩ := d
  simp only at hfr hnr hcr hdf
  have hlm : (l.map oDef).length = l.length := List.length_map ..
  refine FnOK.startC (rvs := [.tmp 6]) G G_good Tryd.func4 rfl Tryd.ntmps4 rfl rfl ?_; delta List.toArray; ((with_reducible conv => whnf); (with_reducible conv => congr <;> reduce); repeat ((first | (with_reducible refine HaltK.mk ?_) | (with_reducible refine StopK.mk ?_)); (with_reducible conv => whnf); (with_reducible conv => congr <;> reduce)))
  refine CallK.lit [] f8_ok c8 trivial rfl rfl ?_; ((with_reducible conv => whnf); (with_reducible conv => congr <;> reduce); repeat ((first | (with_reducible refine HaltK.mk ?_) | (with_reducible refine StopK.mk ?_)); (with_reducible conv => whnf); (with_reducible conv => congr <;> reduce)))
  refine IfK.ff ?_; ((with_reducible conv => whnf); (with_reducible conv => congr <;> reduce); repeat ((first | (with_reducible refine HaltK.mk ?_) | (with_reducible refine StopK.mk ?_)); (with_reducible conv => whnf); (with_reducible conv => congr <;> reduce)))
  refine CallK.lit [] h9 c9 ⟨⟨rfl, rfl, rfl, rfl, trivial⟩, trivial⟩ rfl rfl ?_; ((with_reducible conv => whnf); (with_reducible conv => congr <;> reduce); repeat ((first | (with_reducible refine HaltK.mk ?_) | (with_reducible refine StopK.mk ?_)); (with_reducible conv => whnf); (with_reducible conv => congr <;> reduce)))
  cases sb with
  | false => repeat' (first
    | (first
    | ((with_reducible show IfK _ _ _ _); first | refine IfK.ff ?_ | refine IfK.tt ?_ | refine IfK.no (by first | rfl | assumption | exact nf (by assumption) | exact nt (by assumption) | ((try simp only [castN]); first | (simp [hsb]; done) | (simp [hsb]; omega))) ?_ | refine IfK.yes (by first | rfl | assumption | exact nf (by assumption) | exact nt (by assumption) | ((try simp only [castN]); first | (simp [hsb]; done) | (simp [hsb]; omega))) ?_)
    | ((with_reducible show NeedK _ _ _ _); refine NeedK.mk (by (try simp only [castN]); omega) ?_)
    | ((with_reducible show DrawK _ _ _ _); refine DrawK.mk (by kernel_rfl) (by kernel_rfl) (by kernel_rfl) ?_)) <;> ((with_reducible conv => whnf); (with_reducible conv => congr <;> reduce); repeat ((first | (with_reducible refine HaltK.mk ?_) | (with_reducible refine StopK.mk ?_)); (with_reducible conv => whnf); (with_reducible conv => congr <;> reduce)))
    | ((with_reducible show (_ ∧ _) ∧ _ ∧ _); refine ⟨⟨rfl, rfl⟩, ?_, ?_⟩ <;> (with_reducible conv => whnf) <;> repeat' (first | (with_reducible exact trivial) | (with_reducible refine And.intro ?_ ?_ <;> with_reducible conv => whnf))))
  | true =>
    have hS : ShortD ⟨l, ws, nx, bz⟩ := shortB_iff.1 hsb
    have hM := hS.small
    have hl40 : l.length ≤ 40 := hS.defs
    by_cases n1 : 300 < a.size
    · repeat' (first
    | (first
    | ((with_reducible show IfK _ _ _ _); first | refine IfK.ff ?_ | refine IfK.tt ?_ | refine IfK.no (by first | rfl | assumption | exact nf (by assumption) | exact nt (by assumption) | ((try simp only [castN]); first | (simp [n1]; done) | (simp [n1]; omega))) ?_ | refine IfK.yes (by first | rfl | assumption | exact nf (by assumption) | exact nt (by assumption) | ((try simp only [castN]); first | (simp [n1]; done) | (simp [n1]; omega))) ?_)
    | ((with_reducible show NeedK _ _ _ _); refine NeedK.mk (by (try simp only [castN]); omega) ?_)
    | ((with_reducible show DrawK _ _ _ _); refine DrawK.mk (by kernel_rfl) (by kernel_rfl) (by kernel_rfl) ?_)) <;> ((with_reducible conv => whnf); (with_reducible conv => congr <;> reduce); repeat ((first | (with_reducible refine HaltK.mk ?_) | (with_reducible refine StopK.mk ?_)); (with_reducible conv => whnf); (with_reducible conv => congr <;> reduce)))
    | ((with_reducible show (_ ∧ _) ∧ _ ∧ _); refine ⟨⟨rfl, rfl⟩, ?_, ?_⟩ <;> (with_reducible conv => whnf) <;> repeat' (first | (with_reducible exact trivial) | (with_reducible refine And.intro ?_ ?_ <;> with_reducible conv => whnf))))
    by_cases n2 : 300 < b.size
    · repeat' (first
    | (first
    | ((with_reducible show IfK _ _ _ _); first | refine IfK.ff ?_ | refine IfK.tt ?_ | refine IfK.no (by first | rfl | assumption | exact nf (by assumption) | exact nt (by assumption) | ((try simp only [castN]); first | (simp [n1, n2]; done) | (simp [n1, n2]; omega))) ?_ | refine IfK.yes (by first | rfl | assumption | exact nf (by assumption) | exact nt (by assumption) | ((try simp only [castN]); first | (simp [n1, n2]; done) | (simp [n1, n2]; omega))) ?_)
    | ((with_reducible show NeedK _ _ _ _); refine NeedK.mk (by (try simp only [castN]); omega) ?_)
    | ((with_reducible show DrawK _ _ _ _); refine DrawK.mk (by kernel_rfl) (by kernel_rfl) (by kernel_rfl) ?_)) <;> ((with_reducible conv => whnf); (with_reducible conv => congr <;> reduce); repeat ((first | (with_reducible refine HaltK.mk ?_) | (with_reducible refine StopK.mk ?_)); (with_reducible conv => whnf); (with_reducible conv => congr <;> reduce)))
    | ((with_reducible show (_ ∧ _) ∧ _ ∧ _); refine ⟨⟨rfl, rfl⟩, ?_, ?_⟩ <;> (with_reducible conv => whnf) <;> repeat' (first | (with_reducible exact trivial) | (with_reducible refine And.intro ?_ ?_ <;> with_reducible conv => whnf))))
    cases r with
    | false => repeat' (first
    | (first
    | ((with_reducible show IfK _ _ _ _); first | refine IfK.ff ?_ | refine IfK.tt ?_ | refine IfK.no (by first | rfl | assumption | exact nf (by assumption) | exact nt (by assumption) | ((try simp only [castN]); first | (simp [n1, n2]; done) | (simp [n1, n2]; omega))) ?_ | refine IfK.yes (by first | rfl | assumption | exact nf (by assumption) | exact nt (by assumption) | ((try simp only [castN]); first | (simp [n1, n2]; done) | (simp [n1, n2]; omega))) ?_)
    | ((with_reducible show NeedK _ _ _ _); refine NeedK.mk (by (try simp only [castN]); omega) ?_)
    | ((with_reducible show DrawK _ _ _ _); refine DrawK.mk (by kernel_rfl) (by kernel_rfl) (by kernel_rfl) ?_)
    | ((with_reducible show CallK _ _ 14 _ _ _ _); refine CallK.lit [] (f14_at hM hr) c14 ⟨⟨rfl, rfl, rfl, rfl, trivial⟩, trivial⟩ rfl rfl ?_)) <;> ((with_reducible conv => whnf); (with_reducible conv => congr <;> reduce); repeat ((first | (with_reducible refine HaltK.mk ?_) | (with_reducible refine StopK.mk ?_)); (with_reducible conv => whnf); (with_reducible conv => congr <;> reduce)))
    | ((with_reducible show (_ ∧ _) ∧ _ ∧ _); refine ⟨⟨rfl, rfl⟩, ?_, ?_⟩ <;> (with_reducible conv => whnf) <;> repeat' (first | (with_reducible exact trivial) | (with_reducible refine And.intro ?_ ?_ <;> with_reducible conv => whnf))))
    | true =>
      have hd := hdf hr
      have hfr := hfr hr
      have hnr := hnr hr
      have hcr := hcr hr
      obtain ⟨u1, u2, u3⟩ := defsB_iff.1 hd
      have hF' : findR l a b = F := by rw [← hF]; exact (hfr a b).symm
      repeat' (first
    | (first
    | ((with_reducible show IfK _ _ _ _); first | refine IfK.ff ?_ | refine IfK.tt ?_ | refine IfK.no (by first | rfl | assumption | exact nf (by assumption) | exact nt (by assumption) | ((try simp only [castN]); first | (simp [n1, n2]; done) | (simp [n1, n2]; omega))) ?_ | refine IfK.yes (by first | rfl | assumption | exact nf (by assumption) | exact nt (by assumption) | ((try simp only [castN]); first | (simp [n1, n2]; done) | (simp [n1, n2]; omega))) ?_)
    | ((with_reducible show NeedK _ _ _ _); refine NeedK.mk (by (try simp only [castN]); omega) ?_)
    | ((with_reducible show DrawK _ _ _ _); refine DrawK.mk (by kernel_rfl) (by kernel_rfl) (by kernel_rfl) ?_)
    | ((with_reducible show CallK _ _ 14 _ _ _ _); refine CallK.lit [] (f14_at hM hr) c14 ⟨⟨rfl, rfl, rfl, rfl, trivial⟩, trivial⟩ rfl rfl ?_)
    | ((with_reducible show CallK _ _ 11 _ _ _ _); refine CallK.lit [] (f11_at hM hF) c11 ⟨⟨rfl, rfl, rfl, rfl, trivial⟩, rfl, rfl, trivial⟩ rfl rfl ?_)) <;> ((with_reducible conv => whnf); (with_reducible conv => congr <;> reduce); repeat ((first | (with_reducible refine HaltK.mk ?_) | (with_reducible refine StopK.mk ?_)); (with_reducible conv => whnf); (with_reducible conv => congr <;> reduce)))
    | ((with_reducible show (_ ∧ _) ∧ _ ∧ _); refine ⟨⟨rfl, rfl⟩, ?_, ?_⟩ <;> (with_reducible conv => whnf) <;> repeat' (first | (with_reducible exact trivial) | (with_reducible refine And.intro ?_ ?_ <;> with_reducible conv => whnf))))
      refine LoopK.use G G_good (fun (k : Nat) => [(1, eStr a), (2, eStr b), (3, .ptr 30 0 0), (7, eInt (cntF (l.take k) a b)), (8, eInt F), (9, eInt k)]) (fun _ => [(30, .live 4 [eDesk ⟨l, ws, nx, bz⟩] false)]) (fun k => k ≤ l.length) (fun k => l.length - k) 0 (Nat.zero_le _)
        ⟨⟨rfl, rfl⟩, ⟨rfl, rfl, ⟨rfl, rfl⟩, rfl, rfl, rfl, trivial⟩, ⟨⟨rfl, rfl, rfl, rfl, trivial⟩, trivial⟩, trivial⟩ ?_
      intro k hk
      ((with_reducible conv => whnf); (with_reducible conv => congr <;> reduce); repeat ((first | (with_reducible refine HaltK.mk ?_) | (with_reducible refine StopK.mk ?_)); (with_reducible conv => whnf); (with_reducible conv => congr <;> reduce)))
      refine IfK.mk (fun h1 => ?_) (fun h1 => ?_) <;> (try simp only [castN] at h1) <;> ((with_reducible conv => whnf); (with_reducible conv => congr <;> reduce); repeat ((first | (with_reducible refine HaltK.mk ?_) | (with_reducible refine StopK.mk ?_)); (with_reducible conv => whnf); (with_reducible conv => congr <;> reduce)))
      · simp only [hlm, decide_eq_true_eq] at h1
        have hk' : k < l.length := by omega
        obtain ⟨⟨n, lo, c⟩, hx⟩ : ∃ a, l[k]? = some a := ⟨_, List.getElem?_eq_getElem hk'⟩
        have hct := cntF_succ (a := a) (b := b) hx
        have hcl := cntF_le l a b k
        have hgx := goodD_facts (u1 _ (List.mem_of_getElem? hx))
        have hc : customS n = true := hgx.1
        have q1 : findD ⟨l, ws, nx, bz⟩ lo n = (k : Int) := (hfr lo n).trans (findR_at hd hx (fitsB_iff.2 ⟨rfl, .inr rfl⟩))
        have q2 : namedD ⟨l, ws, nx, bz⟩ n = (k : Int) := (hnr n).trans (posN_at u2 hx)
        have q3 : classedD ⟨l, ws, nx, bz⟩ c = (k : Int) := (hcr c).trans (posC_at u3 hx)
        obtain ⟨V, q4⟩ : ∃ x, findD ⟨l, ws, nx, bz⟩ n b = x := ⟨_, rfl⟩
        have q4i : V = (k : Int) ↔ lo = n := by
          rw [← q4, hfr n b, findR_iff hd hx, fitsB_iff]
          simp
        have q5i : F = (k : Int) ↔ fitsB a b ⟨n, lo, c⟩ = true := by rw [← hF', findR_iff hd hx]
        refine IdxK.mk k (eDef ⟨n, lo, c⟩) rfl (def_get hx) ?_; ((with_reducible conv => whnf); (with_reducible conv => congr <;> reduce); repeat ((first | (with_reducible refine HaltK.mk ?_) | (with_reducible refine StopK.mk ?_)); (with_reducible conv => whnf); (with_reducible conv => congr <;> reduce)))
        by_cases e1 : lo = n
        · have q4e := q4i.2 e1
          by_cases e2 : lo = a
          · by_cases e3 : n = a
            · have hf : fitsB a b ⟨n, lo, c⟩ = true := fitsB_iff.2 ⟨e2, .inl e3⟩
              have q5 := q5i.2 hf
              rw [if_pos hf] at hct
              have e1' := eq_true e1
              have e2' := eq_true e2
              have e3' := eq_true e3
              have q4e' := eq_true q4e
              have q5' := eq_true q5
              repeat' (first
    | (first
    | ((with_reducible show IfK _ _ _ _); first | refine IfK.ff ?_ | refine IfK.tt ?_ | refine IfK.no (by first | rfl | assumption | exact nf (by assumption) | exact nt (by assumption) | ((try simp only [castN]); first | (simp [e1', e2', e3', q4e', q5']; done) | (simp [e1', e2', e3', q4e', q5']; omega))) ?_ | refine IfK.yes (by first | rfl | assumption | exact nf (by assumption) | exact nt (by assumption) | ((try simp only [castN]); first | (simp [e1', e2', e3', q4e', q5']; done) | (simp [e1', e2', e3', q4e', q5']; omega))) ?_)
    | ((with_reducible show NeedK _ _ _ _); refine NeedK.mk (by (try simp only [castN]); omega) ?_)
    | ((with_reducible show DrawK _ _ _ _); refine DrawK.mk (by kernel_rfl) (by kernel_rfl) (by kernel_rfl) ?_)
    | ((with_reducible show CallK _ _ 11 _ _ _ _); first | (refine CallK.lit [] (f11_at hM q1) c11 ⟨⟨rfl, rfl, rfl, rfl, trivial⟩, rfl, rfl, trivial⟩ rfl rfl ?_) | (refine CallK.lit [] (f11_at hM q4) c11 ⟨⟨rfl, rfl, rfl, rfl, trivial⟩, rfl, rfl, trivial⟩ rfl rfl ?_))
    | ((with_reducible show CallK _ _ 12 _ _ _ _); refine CallK.lit [] (f12_at hM q2) c12 ⟨⟨rfl, rfl, rfl, rfl, trivial⟩, rfl, trivial⟩ rfl rfl ?_)
    | ((with_reducible show CallK _ _ 13 _ _ _ _); refine CallK.lit [] (f13_at hM q3) c13 ⟨⟨rfl, rfl, rfl, rfl, trivial⟩, rfl, trivial⟩ rfl rfl ?_)
    | ((with_reducible show CallK _ _ 25 _ _ _ _); refine CallK.lit [] (f25_at hc) c25 ⟨rfl, trivial⟩ rfl rfl ?_)
    | ((with_reducible show NextK _ _); refine NextK.mk (k + 1) (by omega) (by omega) ⟨⟨rfl, rfl⟩, ⟨rfl, rfl, ⟨rfl, rfl⟩, by show ((cntF (l.take (k + 1)) a b : Nat) : Int) = _; rw [hct]; rfl, rfl, by show ((k + 1 : Nat) : Int) = (k : Int) + 1; omega, trivial⟩, ⟨⟨rfl, rfl, rfl, rfl, trivial⟩, trivial⟩, trivial⟩)) <;> ((with_reducible conv => whnf); (with_reducible conv => congr <;> reduce); repeat ((first | (with_reducible refine HaltK.mk ?_) | (with_reducible refine StopK.mk ?_)); (with_reducible conv => whnf); (with_reducible conv => congr <;> reduce)))
    | ((with_reducible show (_ ∧ _) ∧ _ ∧ _); refine ⟨⟨rfl, rfl⟩, ?_, ?_⟩ <;> (with_reducible conv => whnf) <;> repeat' (first | (with_reducible exact trivial) | (with_reducible refine And.intro ?_ ?_ <;> with_reducible conv => whnf))))
            · exact absurd (e1.symm.trans e2) e3
          · have hf : ¬ fitsB a b ⟨n, lo, c⟩ = true := fun h => e2 (fitsB_iff.1 h).1
            have q5 : ¬ F = (k : Int) := fun h => hf (q5i.1 h)
            rw [if_neg hf, Nat.add_zero] at hct
            have e1' := eq_true e1
            have e2' := eq_false e2
            have q4e' := eq_true q4e
            have q5' := eq_false q5
            repeat' (first
    | (first
    | ((with_reducible show IfK _ _ _ _); first | refine IfK.ff ?_ | refine IfK.tt ?_ | refine IfK.no (by first | rfl | assumption | exact nf (by assumption) | exact nt (by assumption) | ((try simp only [castN]); first | (simp [e1', e2', q4e', q5']; done) | (simp [e1', e2', q4e', q5']; omega))) ?_ | refine IfK.yes (by first | rfl | assumption | exact nf (by assumption) | exact nt (by assumption) | ((try simp only [castN]); first | (simp [e1', e2', q4e', q5']; done) | (simp [e1', e2', q4e', q5']; omega))) ?_)
    | ((with_reducible show NeedK _ _ _ _); refine NeedK.mk (by (try simp only [castN]); omega) ?_)
    | ((with_reducible show DrawK _ _ _ _); refine DrawK.mk (by kernel_rfl) (by kernel_rfl) (by kernel_rfl) ?_)
    | ((with_reducible show CallK _ _ 11 _ _ _ _); first | (refine CallK.lit [] (f11_at hM q1) c11 ⟨⟨rfl, rfl, rfl, rfl, trivial⟩, rfl, rfl, trivial⟩ rfl rfl ?_) | (refine CallK.lit [] (f11_at hM q4) c11 ⟨⟨rfl, rfl, rfl, rfl, trivial⟩, rfl, rfl, trivial⟩ rfl rfl ?_))
    | ((with_reducible show CallK _ _ 12 _ _ _ _); refine CallK.lit [] (f12_at hM q2) c12 ⟨⟨rfl, rfl, rfl, rfl, trivial⟩, rfl, trivial⟩ rfl rfl ?_)
    | ((with_reducible show CallK _ _ 13 _ _ _ _); refine CallK.lit [] (f13_at hM q3) c13 ⟨⟨rfl, rfl, rfl, rfl, trivial⟩, rfl, trivial⟩ rfl rfl ?_)
    | ((with_reducible show CallK _ _ 25 _ _ _ _); refine CallK.lit [] (f25_at hc) c25 ⟨rfl, trivial⟩ rfl rfl ?_)
    | ((with_reducible show NextK _ _); refine NextK.mk (k + 1) (by omega) (by omega) ⟨⟨rfl, rfl⟩, ⟨rfl, rfl, ⟨rfl, rfl⟩, by show ((cntF (l.take (k + 1)) a b : Nat) : Int) = _; rw [hct]; rfl, rfl, by show ((k + 1 : Nat) : Int) = (k : Int) + 1; omega, trivial⟩, ⟨⟨rfl, rfl, rfl, rfl, trivial⟩, trivial⟩, trivial⟩)) <;> ((with_reducible conv => whnf); (with_reducible conv => congr <;> reduce); repeat ((first | (with_reducible refine HaltK.mk ?_) | (with_reducible refine StopK.mk ?_)); (with_reducible conv => whnf); (with_reducible conv => congr <;> reduce)))
    | ((with_reducible show (_ ∧ _) ∧ _ ∧ _); refine ⟨⟨rfl, rfl⟩, ?_, ?_⟩ <;> (with_reducible conv => whnf) <;> repeat' (first | (with_reducible exact trivial) | (with_reducible refine And.intro ?_ ?_ <;> with_reducible conv => whnf))))
        · have q4e : ¬ V = (k : Int) := fun h => e1 (q4i.1 h)
          by_cases e2 : lo = a
          · by_cases e3 : n = a
            · exact absurd (e2.trans e3.symm) e1
            · by_cases e4 : n = b
              · have hf : fitsB a b ⟨n, lo, c⟩ = true := fitsB_iff.2 ⟨e2, .inr e4⟩
                have q5 := q5i.2 hf
                rw [if_pos hf] at hct
                have e1' := eq_false e1
                have e2' := eq_true e2
                have e3' := eq_true e3
                have e4' := eq_true e4
                have q4e' := eq_false q4e
                have q5' := eq_true q5
                repeat' (first
    | (first
    | ((with_reducible show IfK _ _ _ _); first | refine IfK.ff ?_ | refine IfK.tt ?_ | refine IfK.no (by first | rfl | assumption | exact nf (by assumption) | exact nt (by assumption) | ((try simp only [castN]); first | (simp [e1', e2', e3', e4', q4e', q5']; done) | (simp [e1', e2', e3', e4', q4e', q5']; omega))) ?_ | refine IfK.yes (by first | rfl | assumption | exact nf (by assumption) | exact nt (by assumption) | ((try simp only [castN]); first | (simp [e1', e2', e3', e4', q4e', q5']; done) | (simp [e1', e2', e3', e4', q4e', q5']; omega))) ?_)
    | ((with_reducible show NeedK _ _ _ _); refine NeedK.mk (by (try simp only [castN]); omega) ?_)
    | ((with_reducible show DrawK _ _ _ _); refine DrawK.mk (by kernel_rfl) (by kernel_rfl) (by kernel_rfl) ?_)
    | ((with_reducible show CallK _ _ 11 _ _ _ _); first | (refine CallK.lit [] (f11_at hM q1) c11 ⟨⟨rfl, rfl, rfl, rfl, trivial⟩, rfl, rfl, trivial⟩ rfl rfl ?_) | (refine CallK.lit [] (f11_at hM q4) c11 ⟨⟨rfl, rfl, rfl, rfl, trivial⟩, rfl, rfl, trivial⟩ rfl rfl ?_))
    | ((with_reducible show CallK _ _ 12 _ _ _ _); refine CallK.lit [] (f12_at hM q2) c12 ⟨⟨rfl, rfl, rfl, rfl, trivial⟩, rfl, trivial⟩ rfl rfl ?_)
    | ((with_reducible show CallK _ _ 13 _ _ _ _); refine CallK.lit [] (f13_at hM q3) c13 ⟨⟨rfl, rfl, rfl, rfl, trivial⟩, rfl, trivial⟩ rfl rfl ?_)
    | ((with_reducible show CallK _ _ 25 _ _ _ _); refine CallK.lit [] (f25_at hc) c25 ⟨rfl, trivial⟩ rfl rfl ?_)
    | ((with_reducible show NextK _ _); refine NextK.mk (k + 1) (by omega) (by omega) ⟨⟨rfl, rfl⟩, ⟨rfl, rfl, ⟨rfl, rfl⟩, by show ((cntF (l.take (k + 1)) a b : Nat) : Int) = _; rw [hct]; rfl, rfl, by show ((k + 1 : Nat) : Int) = (k : Int) + 1; omega, trivial⟩, ⟨⟨rfl, rfl, rfl, rfl, trivial⟩, trivial⟩, trivial⟩)) <;> ((with_reducible conv => whnf); (with_reducible conv => congr <;> reduce); repeat ((first | (with_reducible refine HaltK.mk ?_) | (with_reducible refine StopK.mk ?_)); (with_reducible conv => whnf); (with_reducible conv => congr <;> reduce)))
    | ((with_reducible show (_ ∧ _) ∧ _ ∧ _); refine ⟨⟨rfl, rfl⟩, ?_, ?_⟩ <;> (with_reducible conv => whnf) <;> repeat' (first | (with_reducible exact trivial) | (with_reducible refine And.intro ?_ ?_ <;> with_reducible conv => whnf))))
              · have hf : ¬ fitsB a b ⟨n, lo, c⟩ = true := fun h => by rcases (fitsB_iff.1 h).2 with h | h; exact e3 h; exact e4 h
                have q5 : ¬ F = (k : Int) := fun h => hf (q5i.1 h)
                rw [if_neg hf, Nat.add_zero] at hct
                have e1' := eq_false e1
                have e2' := eq_true e2
                have e3' := eq_true e3
                have e4' := eq_true e4
                have q4e' := eq_false q4e
                have q5' := eq_false q5
                repeat' (first
    | (first
    | ((with_reducible show IfK _ _ _ _); first | refine IfK.ff ?_ | refine IfK.tt ?_ | refine IfK.no (by first | rfl | assumption | exact nf (by assumption) | exact nt (by assumption) | ((try simp only [castN]); first | (simp [e1', e2', e3', e4', q4e', q5']; done) | (simp [e1', e2', e3', e4', q4e', q5']; omega))) ?_ | refine IfK.yes (by first | rfl | assumption | exact nf (by assumption) | exact nt (by assumption) | ((try simp only [castN]); first | (simp [e1', e2', e3', e4', q4e', q5']; done) | (simp [e1', e2', e3', e4', q4e', q5']; omega))) ?_)
    | ((with_reducible show NeedK _ _ _ _); refine NeedK.mk (by (try simp only [castN]); omega) ?_)
    | ((with_reducible show DrawK _ _ _ _); refine DrawK.mk (by kernel_rfl) (by kernel_rfl) (by kernel_rfl) ?_)
    | ((with_reducible show CallK _ _ 11 _ _ _ _); first | (refine CallK.lit [] (f11_at hM q1) c11 ⟨⟨rfl, rfl, rfl, rfl, trivial⟩, rfl, rfl, trivial⟩ rfl rfl ?_) | (refine CallK.lit [] (f11_at hM q4) c11 ⟨⟨rfl, rfl, rfl, rfl, trivial⟩, rfl, rfl, trivial⟩ rfl rfl ?_))
    | ((with_reducible show CallK _ _ 12 _ _ _ _); refine CallK.lit [] (f12_at hM q2) c12 ⟨⟨rfl, rfl, rfl, rfl, trivial⟩, rfl, trivial⟩ rfl rfl ?_)
    | ((with_reducible show CallK _ _ 13 _ _ _ _); refine CallK.lit [] (f13_at hM q3) c13 ⟨⟨rfl, rfl, rfl, rfl, trivial⟩, rfl, trivial⟩ rfl rfl ?_)
    | ((with_reducible show CallK _ _ 25 _ _ _ _); refine CallK.lit [] (f25_at hc) c25 ⟨rfl, trivial⟩ rfl rfl ?_)
    | ((with_reducible show NextK _ _); refine NextK.mk (k + 1) (by omega) (by omega) ⟨⟨rfl, rfl⟩, ⟨rfl, rfl, ⟨rfl, rfl⟩, by show ((cntF (l.take (k + 1)) a b : Nat) : Int) = _; rw [hct]; rfl, rfl, by show ((k + 1 : Nat) : Int) = (k : Int) + 1; omega, trivial⟩, ⟨⟨rfl, rfl, rfl, rfl, trivial⟩, trivial⟩, trivial⟩)) <;> ((with_reducible conv => whnf); (with_reducible conv => congr <;> reduce); repeat ((first | (with_reducible refine HaltK.mk ?_) | (with_reducible refine StopK.mk ?_)); (with_reducible conv => whnf); (with_reducible conv => congr <;> reduce)))
    | ((with_reducible show (_ ∧ _) ∧ _ ∧ _); refine ⟨⟨rfl, rfl⟩, ?_, ?_⟩ <;> (with_reducible conv => whnf) <;> repeat' (first | (with_reducible exact trivial) | (with_reducible refine And.intro ?_ ?_ <;> with_reducible conv => whnf))))
          · have hf : ¬ fitsB a b ⟨n, lo, c⟩ = true := fun h => e2 (fitsB_iff.1 h).1
            have q5 : ¬ F = (k : Int) := fun h => hf (q5i.1 h)
            rw [if_neg hf, Nat.add_zero] at hct
            have e1' := eq_false e1
            have e2' := eq_false e2
            have q4e' := eq_false q4e
            have q5' := eq_false q5
            repeat' (first
    | (first
    | ((with_reducible show IfK _ _ _ _); first | refine IfK.ff ?_ | refine IfK.tt ?_ | refine IfK.no (by first | rfl | assumption | exact nf (by assumption) | exact nt (by assumption) | ((try simp only [castN]); first | (simp [e1', e2', q4e', q5']; done) | (simp [e1', e2', q4e', q5']; omega))) ?_ | refine IfK.yes (by first | rfl | assumption | exact nf (by assumption) | exact nt (by assumption) | ((try simp only [castN]); first | (simp [e1', e2', q4e', q5']; done) | (simp [e1', e2', q4e', q5']; omega))) ?_)
    | ((with_reducible show NeedK _ _ _ _); refine NeedK.mk (by (try simp only [castN]); omega) ?_)
    | ((with_reducible show DrawK _ _ _ _); refine DrawK.mk (by kernel_rfl) (by kernel_rfl) (by kernel_rfl) ?_)
    | ((with_reducible show CallK _ _ 11 _ _ _ _); first | (refine CallK.lit [] (f11_at hM q1) c11 ⟨⟨rfl, rfl, rfl, rfl, trivial⟩, rfl, rfl, trivial⟩ rfl rfl ?_) | (refine CallK.lit [] (f11_at hM q4) c11 ⟨⟨rfl, rfl, rfl, rfl, trivial⟩, rfl, rfl, trivial⟩ rfl rfl ?_))
    | ((with_reducible show CallK _ _ 12 _ _ _ _); refine CallK.lit [] (f12_at hM q2) c12 ⟨⟨rfl, rfl, rfl, rfl, trivial⟩, rfl, trivial⟩ rfl rfl ?_)
    | ((with_reducible show CallK _ _ 13 _ _ _ _); refine CallK.lit [] (f13_at hM q3) c13 ⟨⟨rfl, rfl, rfl, rfl, trivial⟩, rfl, trivial⟩ rfl rfl ?_)
    | ((with_reducible show CallK _ _ 25 _ _ _ _); refine CallK.lit [] (f25_at hc) c25 ⟨rfl, trivial⟩ rfl rfl ?_)
    | ((with_reducible show NextK _ _); refine NextK.mk (k + 1) (by omega) (by omega) ⟨⟨rfl, rfl⟩, ⟨rfl, rfl, ⟨rfl, rfl⟩, by show ((cntF (l.take (k + 1)) a b : Nat) : Int) = _; rw [hct]; rfl, rfl, by show ((k + 1 : Nat) : Int) = (k : Int) + 1; omega, trivial⟩, ⟨⟨rfl, rfl, rfl, rfl, trivial⟩, trivial⟩, trivial⟩)) <;> ((with_reducible conv => whnf); (with_reducible conv => congr <;> reduce); repeat ((first | (with_reducible refine HaltK.mk ?_) | (with_reducible refine StopK.mk ?_)); (with_reducible conv => whnf); (with_reducible conv => congr <;> reduce)))
    | ((with_reducible show (_ ∧ _) ∧ _ ∧ _); refine ⟨⟨rfl, rfl⟩, ?_, ?_⟩ <;> (with_reducible conv => whnf) <;> repeat' (first | (with_reducible exact trivial) | (with_reducible refine And.intro ?_ ?_ <;> with_reducible conv => whnf))))
      · have hkl : k = l.length := by simp only [hlm, decide_eq_false_iff_not] at h1; omega
        subst hkl
        rw [List.take_length]
        have hfc := fit_count hd a b
        rw [hF'] at hfc
        have hcf : cntF l a b = if F = -1 then 0 else 1 := hfc
        by_cases e : F = -1
        · rw [if_pos e] at hcf
          rw [hcf]
          repeat' (first
    | (first
    | ((with_reducible show IfK _ _ _ _); first | refine IfK.ff ?_ | refine IfK.tt ?_ | refine IfK.no (by first | rfl | assumption | exact nf (by assumption) | exact nt (by assumption) | ((try simp only [castN]); first | (simp [e]; done) | (simp [e]; omega))) ?_ | refine IfK.yes (by first | rfl | assumption | exact nf (by assumption) | exact nt (by assumption) | ((try simp only [castN]); first | (simp [e]; done) | (simp [e]; omega))) ?_)
    | ((with_reducible show NeedK _ _ _ _); refine NeedK.mk (by (try simp only [castN]); omega) ?_)
    | ((with_reducible show DrawK _ _ _ _); refine DrawK.mk (by kernel_rfl) (by kernel_rfl) (by kernel_rfl) ?_)) <;> ((with_reducible conv => whnf); (with_reducible conv => congr <;> reduce); repeat ((first | (with_reducible refine HaltK.mk ?_) | (with_reducible refine StopK.mk ?_)); (with_reducible conv => whnf); (with_reducible conv => congr <;> reduce)))
    | ((with_reducible show (_ ∧ _) ∧ _ ∧ _); refine ⟨⟨rfl, rfl⟩, ?_, ?_⟩ <;> (with_reducible conv => whnf) <;> repeat' (first | (with_reducible exact trivial) | (with_reducible refine And.intro ?_ ?_ <;> with_reducible conv => whnf))))
          all_goals simp [e]
        · rw [if_neg e] at hcf
          rw [hcf]
          repeat' (first
    | (first
    | ((with_reducible show IfK _ _ _ _); first | refine IfK.ff ?_ | refine IfK.tt ?_ | refine IfK.no (by first | rfl | assumption | exact nf (by assumption) | exact nt (by assumption) | ((try simp only [castN]); first | (simp [e]; done) | (simp [e]; omega))) ?_ | refine IfK.yes (by first | rfl | assumption | exact nf (by assumption) | exact nt (by assumption) | ((try simp only [castN]); first | (simp [e]; done) | (simp [e]; omega))) ?_)
    | ((with_reducible show NeedK _ _ _ _); refine NeedK.mk (by (try simp only [castN]); omega) ?_)
    | ((with_reducible show DrawK _ _ _ _); refine DrawK.mk (by kernel_rfl) (by kernel_rfl) (by kernel_rfl) ?_)) <;> ((with_reducible conv => whnf); (with_reducible conv => congr <;> reduce); repeat ((first | (with_reducible refine HaltK.mk ?_) | (with_reducible refine StopK.mk ?_)); (with_reducible conv => whnf); (with_reducible conv => congr <;> reduce)))
    | ((with_reducible show (_ ∧ _) ∧ _ ∧ _); refine ⟨⟨rfl, rfl⟩, ?_, ?_⟩ <;> (with_reducible conv => whnf) <;> repeat' (first | (with_reducible exact trivial) | (with_reducible refine And.intro ?_ ?_ <;> with_reducible conv => whnf))))
          all_goals simp [e]
end Go.Proofs.DeskD
end
