/- Models, plain laws and contracts of functions of the given program; conditions as stated in each theorem. By an AI agent. -/
import Derived.Test.YtpogpigciaajoaaGreatDoorW10
import Derived.Test.YtpogpigciaajoaaGreatDoorW8
import Derived.Test.YtpogpigciaajoaaGreatDoorW5
import Derived.Test.YtpogpigciaajoaaGreatDoorW11
import Derived.Test.YtpogpigciaajoaaGreatDoorW6
import Derived.Test.YtpogpigciaajoaaGreatDoorW4
import Derived.Laws.Runes
import Derived.Test.YtpogpigciaajoaaGreatDoorW7
import Derived.Shelf.Strings.Builder1
import Derived.Test.YtpogpigciaajoaaGreatDoorChecked
import Derived.Tactics
import Derived.Test.YtpogpigciaajoaaGreatDoorW1
import Derived.Test.YtpogpigciaajoaaGreatDoorRows
import Derived.ProofKit
import Derived.LaidMore
import Derived.OpenShut
import Derived.Stop.Joined
import Derived.Lib.LaidTab
import Derived.MakeChecks
set_option linter.unusedSimpArgs false
set_option linter.unusedVariables false
namespace Go.Proofs.Heir
open Go Go.Am Go.RowKit Go.Lib
set_option maxRecDepth 100000
set_option maxHeartbeats 8000000
def keepL (l : List NodeM) (ks : List Int) : Nat → List (Int × List (ByteArray × Int))
 | 0 => []
 | j + 1 => match ks[j]? with
   | some a => stepC l (keepL l ks j) a
   | none => keepL l ks j
theorem keepL_ok (l : List NodeM) (ks : List Int) : ∀ k, k ≤ 60 → IdsOK l (keepL l ks k) ∧ (keepL l ks k).length ≤ k
 | 0, _ => ⟨idsOK_nil l, Nat.le_refl _⟩
 | k + 1, h => by
   obtain ⟨h1, h2⟩ := keepL_ok l ks k (by omega)
   unfold keepL
   cases hk : ks[k]? with
   | none => exact ⟨h1, by show (keepL l ks k).length ≤ _; omega⟩
   | some a =>
     have h3 := stepC_len l (keepL l ks k) a
     exact ⟨⟨stepC_is h1.is _, by show (stepC l (keepL l ks k) a).length ≤ _; omega⟩, by show (stepC l (keepL l ks k) a).length ≤ _; omega⟩
def memV (f : ForM) (x : Int) : List Int := if (thereN f.nodes x && rightF f) = true then memF f.nodes x else []
theorem keptI_mem {l : List NodeM} {x : Int} : keptI (fun a => !decide (ownN l a = x)) (ordN l l.length (rootN l x)) = memN l x := by
 unfold keptI memN
 congr 1
 funext a
 simp
theorem frz_kept {m : ML} {fz : Nat → Bool} {tab : List (Nat × Nat)} {n t k : Nat} {ro : Bool} {rows : List AV} {l r : List Int} (h1 : lkM m t = .live 1 rows ro) (h2 : fz t = true) (h3 : rows = (l ++ r).map oInt) (h4 : k = l.length) : FrzK m fz (MF tab fz m n) (eInts l) t 0 k := by
 subst h3; subst h4
 have e : (l.map oInt).length = l.length := List.length_map ..
 exact .cut h1 h2 (by simp) (by rw [List.drop_zero, List.map_append, List.take_left' e]) (noRef_ints l)
theorem ints_outs (l : List Int) : okOuts [rInts l] := ⟨Wide.of_mem fun r hr => by
 obtain ⟨a, _, rfl⟩ := List.mem_map.1 hr
 rfl, noRef_ints l, trivial⟩
theorem f43_ok (f : ForM) (hs : SmallN f.nodes) (n : Int) : FnOK Tryz.prog 43 [] [eFor f, eInt n] [] (eInts (memV f n)) := by
 have h15 := f15_ok f hs
 have h73 := f73_ok f
 have h48 := f48_ok f hs
 have h78 := f78_own f hs
 have h83 := f83_ok f.nodes f.most hs
 have h60 := hs.len
 obtain ⟨l, m⟩ := f
 simp only at h73 h48 h78 h60 h83
 have hlm : (l.map oNode).length = l.length := List.length_map ..
 obtain ⟨o, ho⟩ : ∃ o, memV ⟨l, m⟩ n = o := ⟨_, rfl⟩
 rw [ho]
 unfold memV at ho
 simp only at ho
 refine FnOK.startS (rvs := [.tmp 4]) G G_good Tryz.func43 rfl Tryz.ntmps43 rfl rfl ?_; with_reducible refine wD ?_
 refine LoopK.fit (sl' := [(2, .fptr (eFor ⟨l, m⟩) 0), (3, .fptr (eInt n) 0), (4, nilA)]) (m' := []) ?_ ?_
 ·(refine fK ?_; (with_reducible repeat' (first | exact trivial | (show _ ∧ _; refine aK ?_ ?_))); (all_goals try rfl))
  all_goals first
   | exact ⟨2, [eFor ⟨l, m⟩], false, eFor ⟨l, m⟩, eFor ⟨l, m⟩, rfl, rfl, rfl, rfl, rfl, ⟨rfl, rfl, trivial⟩⟩
   | exact ⟨1, [eInt n], false, eInt n, eInt n, rfl, rfl, rfl, rfl, rfl, rfl⟩
   | exact .inl rfl
 refine LoopK.run G G_good ?_
 with_reducible refine wK ?_
 cases ht : thereN l n with
 | false =>
   have ht' : ¬ (0 ≤ n ∧ n < (l.length : Int)) := fun h => by
    unfold thereN at ht; simp [h.1, h.2] at ht
   rw [ht, Bool.false_and, if_neg (by simp)] at ho
   subst ho
   by_cases e1 : n < 0
   ·(have fct := (eq_true e1); (repeat' (first
  | refine gF ?_ | refine aE ?_ ?_
  | apply trivial)); all_goals clear fct)
    all_goals exact .inr (.inr ⟨1, rfl⟩)
   ·have e2 : (l.length : Int) ≤ n := by omega
    (have fct := And.intro (eq_false e1) (And.intro hlm ((eq_true e2))); (repeat' (first
  | refine gF ?_ | refine aE ?_ ?_
  | apply trivial)); all_goals clear fct)
    all_goals exact .inr (.inr ⟨1, rfl⟩)
 | true =>
   obtain ⟨e1, e2⟩ := there_pos ht
   have e1' : ¬ n < 0 := by omega
   have e2' : ¬ (l.length : Int) ≤ n := by omega
   cases hr : rightF ⟨l, m⟩ with
   | false =>
     rw [hr] at h15
     rw [ht, hr, Bool.true_and, if_neg (by simp)] at ho
     subst ho
     (have fct := And.intro (eq_false e1') (And.intro hlm ((eq_false e2'))); (repeat' (first
  | refine gF ?_ | refine aE ?_ ?_
  | (((with_reducible refine kQ 15 ?_); refine cL h15 c15 ?_) <;> with_reducible refine wK ?_)
  | apply trivial)); all_goals clear fct)
     all_goals exact .inr (.inr ⟨1, rfl⟩)
   | true =>
     rw [hr] at h15
     rw [ht, hr, Bool.true_and, if_pos rfl] at ho
     have T : Tree l := tree_of hr
     have h48 := h48 hr n ht
     have hrt := (root_there T n ht).1
     have h78 := h78 (rootN l n) (by rw [hr, show thereN l (rootN l n) = true from hrt]; rfl)
     have hol := ord_len T l.length hrt
     have hot : ∀ k ∈ ordN l l.length (rootN l n), thereN l k = true := fun k hk => (ord_root T hrt hk).1
     have hkp := keptI_mem (l := l) (x := n)
     obtain ⟨p, hp⟩ : ∃ p : Int → Bool, p = fun a => !decide (ownN l a = n) := ⟨_, rfl⟩
     rw [← hp] at hkp
     generalize ordN l l.length (rootN l n) = ks at h78 hol hot hkp
     have hasks : Asks l m n p ks (keepL l ks) := fun j a ha => by
      have hj := (List.getElem?_eq_some_iff.1 ha).1
      have := h83 hr (keepL l ks j) (keepL_ok l ks j (by omega)).1 n a (hot a (List.mem_of_getElem? ha))
      have e : keepL l ks (j + 1) = stepC l (keepL l ks j) a := by show (match ks[j]? with | some a => stepC l (keepL l ks j) a | none => keepL l ks j) = _; rw [ha]
      rw [e, hp]
      exact this
     have h82 := f82_fin (show ks.length ≤ 100000 by omega) hasks
     rw [hkp] at h82
     have hk0 : keepL l ks 0 = [] := rfl
     rw [hk0] at h82
     unfold memF at ho
     generalize memN l n = mm at h82 ho
     generalize keepL l ks ks.length = c2 at h82
     generalize List.replicate (ks.length - mm.length) (0 : Int) = gar at h82
     generalize rootN l n = r at h48 h78
     obtain ⟨i, x, e, hx, hnx⟩ := there_iff.1 ht
     rw [hnx] at ho
     have h81 := f81_ok x
     obtain ⟨fm, hfm⟩ : ∃ fm, isForm x = fm := ⟨_, rfl⟩
     rw [hfm] at h81 ho
     obtain ⟨a1, a2, a3, a4, a5, a6, a7, a8, a9, a10⟩ := x
     clear hfm
     cases fm with
     | false =>
       rw [if_neg (by simp)] at ho
       subst ho
       (have fct := And.intro (eq_false e1') (And.intro hlm ((eq_false e2'))); (repeat' (first
  | refine gF ?_ | refine aE ?_ ?_
  | ((first
   | ((with_reducible refine kQ 15 ?_); refine cL h15 c15 ?_)
   | (refine IdxK.mk i (eNode _) e (node_get hx) ?_)
   | ((with_reducible refine kQ 81 ?_); refine cL h81 c81 ?_)) <;> with_reducible refine wK ?_)
  | apply trivial)); all_goals clear fct)
       all_goals exact .inr (.inr ⟨1, rfl⟩)
     | true =>
       rw [if_pos rfl] at ho
       subst ho
       (have fct := And.intro (eq_false e1') (And.intro hlm ((eq_false e2'))); (repeat' (first
  | refine gF ?_ | refine aE ?_ ?_
  | ((first
   | ((with_reducible refine kQ 15 ?_); refine cL h15 c15 ?_)
   | (refine IdxK.mk i (eNode _) e (node_get hx) ?_)
   | ((with_reducible refine kQ 81 ?_); refine cL h81 c81 ?_)
   | ((with_reducible refine kQ 73 ?_); refine CallK.new 301 [] h73 c73 ⟨⟨rfl, rfl, trivial⟩, trivial⟩ rfl rfl rfl ⟨.nil _, rfl, trivial⟩ rfl ?_)
   | ((with_reducible refine kQ 48 ?_); refine cL h48 c48 ?_)
   | ((with_reducible refine kQ 78 ?_); refine CallK.new 351 [] h78 c78 ⟨⟨rfl, rfl, trivial⟩, rfl, trivial⟩ rfl rfl rfl (ints_outs ks) rfl ?_)) <;> with_reducible refine wK ?_)
  | apply trivial)); all_goals clear fct)
       refine CallK.lend (news := [mFin l m 301, idsM c2, rInts (mm ++ gar)]) [50, 301, 351] [] h82 c82 ⟨⟨rfl, rfl⟩, ⟨rfl, trivial, ⟨rfl, rfl⟩, ⟨rfl, rfl⟩, trivial⟩, trivial⟩ (ins_fin3 rfl rfl rfl) rfl ⟨⟨rfl, rfl⟩, rfl⟩ rfl news_fin3 rfl rfl ?_
       with_reducible refine wK ?_
       repeat' (first
  | refine gK ?_ | refine aE ?_ ?_
  | apply trivial)
       all_goals first | exact frz_kept rfl rfl rfl rfl
def rDu (f : ForM) (d : DeskM) (cs : List ClassM) (st : List StateM) (ms : List Int) (k : Nat) : List DueN := (ms.take k).flatMap (resetD f d cs st)
theorem rDu_step {f : ForM} {d : DeskM} {cs : List ClassM} {st : List StateM} {ms : List Int} {k : Nat} {c : Int} (h : ms[k]? = some c) : rDu f d cs st ms (k + 1) = rDu f d cs st ms k ++ resetD f d cs st c := by
 unfold rDu; rw [List.take_add_one, h, List.flatMap_append]; simp
theorem resetD_len (f : ForM) (d : DeskM) (cs : List ClassM) (st : List StateM) (c : Int) : (resetD f d cs st c).length ≤ 1 := by
 unfold resetD
 split
 ·exact tellD_len _ _ _
 ·simp
theorem rDu_len (f : ForM) (d : DeskM) (cs : List ClassM) (st : List StateM) (ms : List Int) : ∀ k, (rDu f d cs st ms k).length ≤ k
 | 0 => Nat.le_refl _
 | k + 1 => by
   have := rDu_len f d cs st ms k
   cases h : ms[k]? with
   | none =>
     have h1 : ms.take (k + 1) = ms.take k := by rw [List.take_add_one, h]; simp
     unfold rDu at this ⊢
     rw [h1]; omega
   | some c =>
     rw [rDu_step h, List.length_append]
     have := resetD_len f d cs st c
     omega
theorem resetDu_eq {f : ForM} {st : List StateM} {d : DeskM} {cs : List ClassM} {x : Int} (h : lookV f st d = true) : resetDu f st d cs x = rDu f d cs st (memV f x) (memV f x).length := by
 have hr : rightF f = true := by
  unfold lookV at h
  simp only [Bool.and_eq_true] at h
  exact h.1.2
 unfold resetDu rDu memV
 rw [List.take_length, hr, h, Bool.and_true]
 cases thereN f.nodes x <;> simp
theorem memV_there {f : ForM} {x c : Int} (h : c ∈ memV f x) : thereN f.nodes c = true := by
 unfold memV at h
 split at h
 ·rename_i e
  obtain ⟨e1, e2⟩ : thereN f.nodes x = true ∧ rightF f = true := by simpa using e
  exact (mem_facts (tree_of e2) e1 h).1
 ·cases h
theorem memV_len {f : ForM} (x : Int) : (memV f x).length ≤ f.nodes.length := by
 unfold memV
 split
 ·rename_i e
  obtain ⟨e1, e2⟩ : thereN f.nodes x = true ∧ rightF f = true := by simpa using e
  exact mem_len (tree_of e2) e1
 ·simp
theorem f25_ok (f : ForM) (hs : SmallN f.nodes) (st : List StateM) (hst : st.length ≤ 1000) (d : DeskM) (hd : SmallD d) (cs : List ClassM) (hcs : ∀ c ∈ cs, c.hooks.length ≤ 100000) (x : Int) :
  FnOK Tryz.prog 25 [] [eFor f, eStates st, eDesk d, eClasses cs, eInt x] [] (eDuesN (resetDu f st d cs x)) := by
 have h64 := f64_ok f hs st (by omega) d hd cs
 obtain ⟨od, hod⟩ : ∃ x', resetDu f st d cs x = x' := ⟨_, rfl⟩
 rw [hod]
 obtain ⟨lv, hlv⟩ : ∃ lv, lookV f st d = lv := ⟨_, rfl⟩
 rw [hlv] at h64
 cases lv with
 | false =>
   have h0 : od = [] := by rw [← hod]; unfold resetDu; rw [hlv]; simp
   subst h0
   obtain ⟨l, m⟩ := f
   obtain ⟨d1, d2, d3, d4⟩ := d
   refine FnOK.startC (rvs := [.tmp 10]) G G_good Tryz.func25 rfl Tryz.ntmps25 rfl rfl ?_; with_reducible refine wD ?_
   refine CallK.lend (news := [mHall ⟨l, m⟩ (.own 221 0 st.length) ⟨d1, d2, d3, d4⟩ cs nilA, mStates st]) [220, 221] [] h64 c64 ⟨⟨rfl, rfl, trivial⟩, rfl, ⟨rfl, rfl, rfl, rfl, trivial⟩, rfl, trivial⟩ trivial rfl ⟨⟨rfl, rfl⟩, rfl⟩ rfl ⟨⟨rfl, .inr ⟨rfl, rfl, rfl⟩⟩, ⟨rfl, .inl ⟨rfl, noRef_states _⟩⟩, trivial⟩ rfl rfl ?_
   with_reducible refine wK ?_
   repeat' (first
  | refine gK ?_ | refine aE ?_ ?_
  | apply trivial)
   all_goals exact .inr (.inr ⟨_, rfl⟩)
 | true =>
   rw [resetDu_eq hlv] at hod
   subst hod
   have hlv' := hlv
   unfold lookV at hlv'
   obtain ⟨⟨hlen, hr⟩, hrd⟩ : (st.length = f.nodes.length ∧ rightF f = true) ∧ rightD d = true := by simpa using hlv'
   have h43 := f43_ok f hs x
   have hhk := fun s => classV_hooks hcs s d
   have h60 := hs.len
   have hml := memV_len (f := f) x
   have hmt : ∀ c ∈ memV f x, ∃ (i : Nat) (s : StateM), c = (i : Int) ∧ st[i]? = some s ∧ sAt st c.toNat = s ∧ thereN f.nodes (i : Int) = true := fun c hc => by
    have ht := memV_there hc
    obtain ⟨i, y, e, hy, _⟩ := there_iff.1 ht
    have hi := (List.getElem?_eq_some_iff.1 hy).1
    obtain ⟨s, hs'⟩ : ∃ s, st[i]? = some s := ⟨_, List.getElem?_eq_getElem (by omega)⟩
    subst e
    exact ⟨i, s, rfl, hs', by rw [Int.toNat_natCast]; exact sAt_of hs', ht⟩
   have hstep := fun k c (h : (memV f x)[k]? = some c) => rDu_step (f := f) (d := d) (cs := cs) (st := st) h
   have hRD : ∀ c, resetD f d cs st c = if dutyB f d cs c (sAt st c.toNat) = true then tellD (classV (sAt st c.toNat) d cs) c clearedT else [] := fun c => rfl
   have hdlen := rDu_len f d cs st (memV f x)
   have h0 : rDu f d cs st (memV f x) 0 = [] := rfl
   have h65 := fun (due : List DueN) (k : Nat) (s : StateM) (h2 : st[k]? = some s) (h3 : thereN f.nodes (k : Int) = true) => f65_own f st st.length rfl d cs due k s h2 h3
   generalize rDu f d cs st (memV f x) = du at hstep hdlen h0
   generalize memV f x = ms at h43 hml hmt hstep
   have hmm : (ms.map oInt).length = ms.length := List.length_map ..
   obtain ⟨l, m⟩ := f
   obtain ⟨d1, d2, d3, d4⟩ := d
   simp only at hlen h60 hml
   refine FnOK.startC (rvs := [.tmp 10]) G G_good Tryz.func25 rfl Tryz.ntmps25 rfl rfl ?_; with_reducible refine wD ?_
   refine CallK.lend (news := [mHall ⟨l, m⟩ (.own 221 0 st.length) ⟨d1, d2, d3, d4⟩ cs nilA, mStates st]) [220, 221] [] h64 c64 ⟨⟨rfl, rfl, trivial⟩, rfl, ⟨rfl, rfl, rfl, rfl, trivial⟩, rfl, trivial⟩ trivial rfl ⟨⟨rfl, rfl⟩, rfl⟩ rfl ⟨⟨rfl, .inr ⟨rfl, rfl, rfl⟩⟩, ⟨rfl, .inl ⟨rfl, noRef_states _⟩⟩, trivial⟩ rfl rfl ?_
   with_reducible refine wK ?_
   repeat' (first
  | refine gK ?_ | refine aE ?_ ?_
  | (((with_reducible refine kQ 43 ?_); refine cV h43 c43 ?_) <;> with_reducible refine wK ?_)
  | apply trivial)
   refine LoopK.ghostRow 11 220 228 11 0 8 (eHall ⟨l, m⟩ (.own 221 0 st.length) ⟨d1, d2, d3, d4⟩ cs nilA) (eHall ⟨l, m⟩ (.own 221 0 st.length) ⟨d1, d2, d3, d4⟩ cs (.own 228 0 0)) rfl rfl rfl rfl rfl rfl ?_
   refine LoopK.use G G_good (fun (k : Nat) => [(11, .ptr 220 0 0), (29, eInts ms), (30, eInt ms.length), (31, eInt k)])
    (fun k => [(220, mHall ⟨l, m⟩ (.own 221 0 st.length) ⟨d1, d2, d3, d4⟩ cs (.own 228 0 (du k).length)), (221, mStates st), (228, rDuesN (du k))])
    (fun k => k ≤ ms.length) (fun k => ms.length - k) 0 (Nat.zero_le _) ?_ ?_
   ·rw [h0]
    (refine fK ?_; (with_reducible repeat' (first | exact trivial | (show _ ∧ _; refine aK ?_ ?_))); (all_goals try rfl))
    all_goals first
     | (show (ms.length : Int) = _; rw [hmm])
     | exact ⟨⟨rfl, rfl, ⟨rfl, rfl⟩, rfl, rfl, rfl, rfl, rfl, ⟨rfl, rfl⟩, trivial⟩, trivial⟩
     | exact ⟨.refl (noRef_states st), noRef_states st⟩
     | (show ObjK _ [] []; exact ⟨.refl rfl, rfl⟩)
   intro k hk
   have hdl := hdlen k
   with_reducible refine wK ?_
   refine IfK.mk (fun h1 => ?_) (fun h1 => ?_) <;> (try simp only [castN] at h1) <;> with_reducible refine wK ?_
   ·have hk' : k < ms.length := by simp only [decide_eq_true_eq] at h1; omega
    obtain ⟨c, hc⟩ : ∃ c, ms[k]? = some c := ⟨_, List.getElem?_eq_getElem hk'⟩
    obtain ⟨i, s, ei, hsi, hsa, hti⟩ := hmt c (List.mem_of_getElem? hc)
    subst ei
    have h65 := h65 (du k) i s hsi hti
    have hst1 := hstep k _ hc
    rw [hRD, hsa] at hst1
    have hhk := hhk s
    clear hmt hstep hRD hsa h64 h43
    obtain ⟨dy, hdy⟩ : ∃ dy, dutyB ⟨l, m⟩ ⟨d1, d2, d3, d4⟩ cs (i : Int) s = dy := ⟨_, rfl⟩
    rw [hdy] at h65 hst1
    generalize hcv : classV s ⟨d1, d2, d3, d4⟩ cs = cv at *
    generalize du k = D at *
    obtain ⟨c1, c2, c3, c4, c5⟩ := cv
    refine IdxK.mk k (eInt (i : Int)) rfl (int_get hc) ?_; with_reducible refine wK ?_
    refine CallK.lend (news := [mHall ⟨l, m⟩ (.own 221 0 st.length) ⟨d1, d2, d3, d4⟩ cs (.own 228 0 D.length), mStates st, rDuesN D]) [220, 221, 228] [] h65 c65 ⟨⟨rfl, rfl⟩, rfl, trivial⟩ (ins_hall rfl rfl rfl) rfl ⟨⟨rfl, rfl⟩, rfl⟩ rfl news_hall rfl rfl ?_
    with_reducible refine wK ?_
    cases dy with
    | false =>
      rw [if_neg (by simp), List.append_nil] at hst1
      repeat' (first
  | refine gK ?_ | refine aE ?_ ?_
  | apply trivial)
      refine NextK.mk (k + 1) (by omega) (by omega) ?_
      rw [hst1]
      (refine fK ?_; (with_reducible repeat' (first | exact trivial | (show _ ∧ _; refine aK ?_ ?_))); (all_goals try rfl))
      all_goals first
       | exact ⟨.refl (noRef_states _), noRef_states _⟩
       | exact ⟨.refl (noRef_duesN _), noRef_duesN _⟩
       | (simp; done)
    | true =>
      rw [if_pos rfl] at hst1
      repeat' (first
  | refine gK ?_ | refine aE ?_ ?_
  | apply trivial)
      cases hw : hearsC ⟨c1, c2, c3, c4, c5⟩ 7 with
      | true =>
        rw [tellD_yes (show hearsC _ clearedT.kind = true from hw)] at hst1
        have h66 := f66_yes ⟨l, m⟩ st ⟨d1, d2, d3, d4⟩ cs D (by omega) ⟨c1, c2, c3, c4, c5⟩ hhk (i : Int) clearedT hw
        have hFl : (D ++ ([⟨(i : Int), clearedT⟩] : List DueN)).length = D.length + 1 := by simp
        refine CallK.lend (news := [mHall ⟨l, m⟩ (.own 221 0 st.length) ⟨d1, d2, d3, d4⟩ cs (.own 911 0 (D.length + 1)), mStates st, .dead, rDuesN (D ++ [⟨(i : Int), clearedT⟩])]) [220, 221, 228, 911] [] h66 c66 ⟨⟨rfl, rfl⟩, ⟨rfl, rfl, rfl, rfl, rfl, trivial⟩, rfl, ⟨rfl, rfl, rfl, rfl, rfl, rfl, rfl, rfl, rfl, rfl, trivial⟩, trivial⟩ (ins_hall rfl rfl rfl) rfl ⟨⟨rfl, rfl⟩, rfl⟩ rfl news_tell rfl rfl ?_
        with_reducible refine wK ?_
        repeat' (first
  | refine gK ?_ | refine aE ?_ ?_
  | apply trivial)
        refine NextK.mk (k + 1) (by omega) (by omega) ?_
        rw [hst1]
        (refine fK ?_; (with_reducible repeat' (first | exact trivial | (show _ ∧ _; refine aK ?_ ?_))); (all_goals try rfl))
        all_goals first
         | exact ⟨.refl (noRef_states _), noRef_states _⟩
         | exact ⟨.refl (noRef_duesN _), noRef_duesN _⟩
         | (simp; done)
      | false =>
        rw [tellD_no (show hearsC _ clearedT.kind = false from hw), List.append_nil] at hst1
        have h66 := f66_no ⟨l, m⟩ st ⟨d1, d2, d3, d4⟩ cs D ⟨c1, c2, c3, c4, c5⟩ hhk (i : Int) clearedT hw
        refine CallK.lend (news := [mHall ⟨l, m⟩ (.own 221 0 st.length) ⟨d1, d2, d3, d4⟩ cs (.own 228 0 D.length), mStates st, rDuesN D]) [220, 221, 228] [] h66 c66 ⟨⟨rfl, rfl⟩, ⟨rfl, rfl, rfl, rfl, rfl, trivial⟩, rfl, ⟨rfl, rfl, rfl, rfl, rfl, rfl, rfl, rfl, rfl, rfl, trivial⟩, trivial⟩ (ins_hall rfl rfl rfl) rfl ⟨⟨rfl, rfl⟩, rfl⟩ rfl news_hall rfl rfl ?_
        with_reducible refine wK ?_
        repeat' (first
  | refine gK ?_ | refine aE ?_ ?_
  | apply trivial)
        refine NextK.mk (k + 1) (by omega) (by omega) ?_
        rw [hst1]
        (refine fK ?_; (with_reducible repeat' (first | exact trivial | (show _ ∧ _; refine aK ?_ ?_))); (all_goals try rfl))
        all_goals first
         | exact ⟨.refl (noRef_states _), noRef_states _⟩
         | exact ⟨.refl (noRef_duesN _), noRef_duesN _⟩
         | (simp; done)
   ·have hjl : k = ms.length := by simp only [decide_eq_false_iff_not] at h1; omega
    subst hjl
    repeat' (first
  | refine gK ?_ | refine aE ?_ ?_
  | (((with_reducible show DrawK _ _ _ _); refine dK ?_) <;> with_reducible refine wK ?_)
  | apply trivial)
    all_goals first | exact frz_duesN rfl rfl rfl rfl
theorem ins_hallN {m : ML} {b s : Nat} {f : ForM} {st : List StateM} {d : DeskM} {cs : List ClassM} {n : Nat} (hb : lkM m b = mHall f (.own s 0 n) d cs nilA) (hs : lkM m s = mStates st) {r : List Nat} : InsM (tabR 2 0 (b :: s :: r)) [] m [mHall f (.own 1 0 n) d cs nilA, mStates st] (b :: s :: r) := by
 simp only [InsM, hb, hs]
 refine ⟨⟨trivial, .inr ⟨⟨⟨rfl, rfl, ?_, rfl, rfl, rfl, rfl, rfl, .inl rfl, trivial⟩, trivial⟩, rfl⟩⟩, ⟨trivial, .inl ⟨rfl, noRef_states _⟩⟩, trivial⟩
 all_goals (simp [MF, tabR, lkN, Nat.beq_refl])
theorem news_hallN {b s : Nat} {f : ForM} {st : List StateM} {d : DeskM} {cs : List ClassM} {n : Nat} : NewsM [b, s] [mHall f (.own 1 0 n) d cs nilA, mStates st] [mHall f (.own s 0 n) d cs nilA, mStates st] :=
 ⟨⟨rfl, .inr ⟨rfl, rfl, rfl⟩⟩, ⟨rfl, .inl ⟨rfl, noRef_states _⟩⟩, trivial⟩
theorem f65_nil (f : ForM) (st : List StateM) (ns : Nat) (hns : st.length = ns) (d : DeskM) (cs : List ClassM) (k : Nat) (s : StateM) (hk : st[k]? = some s) (ht : thereN f.nodes (k : Int) = true) :
  FnOK Tryz.prog 65 [mHall f (.own 1 0 ns) d cs nilA, mStates st] [.ptr 0 0 0, eInt k] [mHall f (.own 1 0 ns) d cs nilA, mStates st] (.tup [eClass (classV s d cs), eBool (dutyB f d cs k s)]) := by
 have hkl := (List.getElem?_eq_some_iff.1 hk).1
 have h36 := f36_ok s d cs
 unfold dutyB
 obtain ⟨i, x, e, hx, hnx⟩ := there_iff.1 ht
 rw [hnx]
 obtain ⟨l, m⟩ := f
 obtain ⟨d1, d2, d3, d4⟩ := d
 obtain ⟨cv, hcv⟩ : ∃ cv, classV s ⟨d1, d2, d3, d4⟩ cs = cv := ⟨_, rfl⟩
 obtain ⟨cb, hcb⟩ : ∃ cb, classB s ⟨d1, d2, d3, d4⟩ cs = cb := ⟨_, rfl⟩
 rw [hcv, hcb] at h36 ⊢
 obtain ⟨s1, s2, s3, s4⟩ := s
 obtain ⟨c1, c2, c3, c4, c5⟩ := cv
 obtain ⟨a1, a2, a3, a4, a5, a6, a7, a8, a9, a10⟩ := x
 simp only at hx
 clear hcv hcb
 refine FnOK.startC (rvs := [.cell 4 63, .tmp 5]) G G_good Tryz.func65 rfl Tryz.ntmps65 rfl rfl ?_; with_reducible refine wD ?_
 repeat' (first
  | refine gK ?_ | refine aE ?_ ?_
  | ((first
   | (refine IdxK.mk i (eNode _) e (node_get hx) ?_)
   | ((with_reducible show LtK _ _ _ _ _); refine LtK.mk k rfl (by omega) ?_)
   | ((with_reducible show ElemK _ _ _ _ _); refine ElemK.mk (eState ⟨s1, s2, s3, s4⟩) (by rw [Nat.zero_add]; exact state_get hk) ?_)
   | ((with_reducible refine kQ 36 ?_); refine cV h36 c36 ?_)
   | ((with_reducible show DrawK _ _ _ _); refine dK ?_)) <;> with_reducible refine wK ?_)
  | apply trivial)
 cases cb with
 | false =>
   repeat' (first
  | refine gK ?_ | refine aE ?_ ?_
  | (((with_reducible show DrawK _ _ _ _); refine dK ?_) <;> with_reducible refine wK ?_)
  | apply trivial)
   all_goals first
    | rfl
    | exact ⟨.refl (noRef_states st), noRef_states st⟩
    | exact .inl rfl
    | (simp [*]; done)
 | true =>
   cases c1 with
   | false =>
     repeat' (first
  | refine gK ?_ | refine aE ?_ ?_
  | (((with_reducible show DrawK _ _ _ _); refine dK ?_) <;> with_reducible refine wK ?_)
  | apply trivial)
     all_goals first
      | rfl
      | exact ⟨.refl (noRef_states st), noRef_states st⟩
      | exact .inl rfl
      | (simp [*]; done)
   | true =>
     by_cases e1 : s1 = 3
     ·(have fct := (eq_true e1); (repeat' (first
  | refine gF ?_ | refine aE ?_ ?_
  | ((first
   | (refine IdxK.mk i (eNode _) e (node_get hx) ?_)
   | ((with_reducible show DrawK _ _ _ _); refine dK ?_)) <;> with_reducible refine wK ?_)
  | apply trivial)); all_goals clear fct)
      all_goals first
       | rfl
       | exact ⟨.refl (noRef_states st), noRef_states st⟩
       | exact .inl rfl
       | (simp [*]; done)
     ·(have fct := (eq_false e1); (repeat' (first
  | refine gF ?_ | refine aE ?_ ?_
  | (((with_reducible show DrawK _ _ _ _); refine dK ?_) <;> with_reducible refine wK ?_)
  | apply trivial)); all_goals clear fct)
      all_goals first
       | rfl
       | exact ⟨.refl (noRef_states st), noRef_states st⟩
       | exact .inl rfl
       | (simp [*]; done)
theorem f66_yesN (f : ForM) (st : List StateM) (d : DeskM) (cs : List ClassM) (c : ClassM) (hc : c.hooks.length ≤ 100000) (n : Int) (t : TodoM) (hh : hearsC c t.kind = true) :
  FnOK Tryz.prog 66 [mHall f (.own 1 0 st.length) d cs nilA, mStates st] [.ptr 0 0 0, eClass c, eInt n, eTodo t]
   [mHall f (.own 1 0 st.length) d cs (.own 2 0 1), mStates st, rDuesN [⟨n, t⟩]] (.tup []) := by
 have h37 := f37_ok c hc t.kind
 rw [hh] at h37
 obtain ⟨l, m⟩ := f
 obtain ⟨d1, d2, d3, d4⟩ := d
 obtain ⟨c1, c2, c3, c4, c5⟩ := c
 obtain ⟨t1, t2, t3, t4, t5, t6, t7, t8, t9, t10⟩ := t
 simp only at h37
 refine FnOK.startB (rvs := []) G G_good Tryz.func66 rfl Tryz.ntmps66 rfl rfl ?_; with_reducible refine wD ?_
 repeat' (first
  | refine gK ?_ | refine aE ?_ ?_
  | ((first
   | ((with_reducible refine kQ 37 ?_); refine cL h37 c37 ?_)
   | ((with_reducible show AppK _ _ _ _ _ _ _ _ _ _); refine AppK.mk [] [eDueN ⟨n, ⟨t1, t2, t3, t4, t5, t6, t7, t8, t9, t10⟩⟩] ⟨rfl, rfl, rfl⟩ ⟨rfl, rfl, rfl⟩ rfl (by simp) (by simp) ?_)
   | ((with_reducible show DrawK _ _ _ _); refine dK ?_)) <;> with_reducible refine wK ?_)
  | apply trivial)
 all_goals first
  | (simp; done)
  | exact ⟨.refl (noRef_states st), noRef_states st⟩
  | exact ⟨.refl (noRef_duesN [⟨n, ⟨t1, t2, t3, t4, t5, t6, t7, t8, t9, t10⟩⟩]), noRef_duesN [⟨n, ⟨t1, t2, t3, t4, t5, t6, t7, t8, t9, t10⟩⟩]⟩
theorem f66_noN (f : ForM) (st : List StateM) (d : DeskM) (cs : List ClassM) (c : ClassM) (hc : c.hooks.length ≤ 100000) (n : Int) (t : TodoM) (hh : hearsC c t.kind = false) :
  FnOK Tryz.prog 66 [mHall f (.own 1 0 st.length) d cs nilA, mStates st] [.ptr 0 0 0, eClass c, eInt n, eTodo t]
   [mHall f (.own 1 0 st.length) d cs nilA, mStates st] (.tup []) := by
 have h37 := f37_ok c hc t.kind
 rw [hh] at h37
 obtain ⟨l, m⟩ := f
 obtain ⟨d1, d2, d3, d4⟩ := d
 obtain ⟨c1, c2, c3, c4, c5⟩ := c
 obtain ⟨t1, t2, t3, t4, t5, t6, t7, t8, t9, t10⟩ := t
 simp only at h37
 refine FnOK.startC (rvs := []) G G_good Tryz.func66 rfl Tryz.ntmps66 rfl rfl ?_; with_reducible refine wD ?_
 repeat' (first
  | refine gK ?_ | refine aE ?_ ?_
  | (((with_reducible refine kQ 37 ?_); refine cL h37 c37 ?_) <;> with_reducible refine wK ?_)
  | apply trivial)
 all_goals first
  | exact ⟨.refl (noRef_states st), noRef_states st⟩
  | exact .inl rfl
theorem f26_ok (f : ForM) (hs : SmallN f.nodes) (st : List StateM) (hst : st.length ≤ 1000) (d : DeskM) (hd : SmallD d) (cs : List ClassM) (hcs : ∀ c ∈ cs, c.hooks.length ≤ 100000) (n : Int) (s : ByteArray) :
  FnOK Tryz.prog 26 [] [eFor f, eStates st, eDesk d, eClasses cs, eInt n, eStr s] [] (eDuesN (restoreDu f st d cs n s)) := by
 have h64 := f64_ok f hs st (by omega) d hd cs
 obtain ⟨od, hod⟩ : ∃ x', restoreDu f st d cs n s = x' := ⟨_, rfl⟩
 rw [hod]
 obtain ⟨lv, hlv⟩ : ∃ lv, lookV f st d = lv := ⟨_, rfl⟩
 rw [hlv] at h64
 unfold restoreDu at hod
 rw [hlv] at hod
 have hsm : (st.map oState).length = st.length := List.length_map ..
 cases lv with
 | false =>
   rw [if_neg (by simp)] at hod
   subst hod
   obtain ⟨l, m⟩ := f
   obtain ⟨d1, d2, d3, d4⟩ := d
   refine FnOK.startC (rvs := [.tmp 12]) G G_good Tryz.func26 rfl Tryz.ntmps26 rfl rfl ?_; with_reducible refine wD ?_
   refine CallK.lend (news := [mHall ⟨l, m⟩ (.own 221 0 st.length) ⟨d1, d2, d3, d4⟩ cs nilA, mStates st]) [220, 221] [] h64 c64 ⟨⟨rfl, rfl, trivial⟩, rfl, ⟨rfl, rfl, rfl, rfl, trivial⟩, rfl, trivial⟩ trivial rfl ⟨⟨rfl, rfl⟩, rfl⟩ rfl ⟨⟨rfl, .inr ⟨rfl, rfl, rfl⟩⟩, ⟨rfl, .inl ⟨rfl, noRef_states _⟩⟩, trivial⟩ rfl rfl ?_
   with_reducible refine wK ?_
   repeat' (first
  | refine gK ?_ | refine aE ?_ ?_
  | apply trivial)
   all_goals exact .inr (.inr ⟨_, rfl⟩)
 | true =>
   have hlv' := hlv
   unfold lookV at hlv'
   obtain ⟨⟨hlen, hr⟩, hrd⟩ : (st.length = f.nodes.length ∧ rightF f = true) ∧ rightD d = true := by simpa using hlv'
   have hhk := fun s => classV_hooks hcs s d
   have h65 := fun (k : Nat) (s : StateM) (h2 : st[k]? = some s) (h3 : thereN f.nodes (k : Int) = true) => f65_nil f st st.length rfl d cs k s h2 h3
   cases ht : thereN f.nodes n with
   | false =>
     rw [ht, if_neg (by simp)] at hod
     subst hod
     obtain ⟨l, m⟩ := f
     obtain ⟨d1, d2, d3, d4⟩ := d
     simp only at hlen ht
     have ht' : ¬ (0 ≤ n ∧ n < (l.length : Int)) := fun h => by
      unfold thereN at ht; simp [h.1, h.2] at ht
     refine FnOK.startC (rvs := [.tmp 12]) G G_good Tryz.func26 rfl Tryz.ntmps26 rfl rfl ?_; with_reducible refine wD ?_
     refine CallK.lend (news := [mHall ⟨l, m⟩ (.own 221 0 st.length) ⟨d1, d2, d3, d4⟩ cs nilA, mStates st]) [220, 221] [] h64 c64 ⟨⟨rfl, rfl, trivial⟩, rfl, ⟨rfl, rfl, rfl, rfl, trivial⟩, rfl, trivial⟩ trivial rfl ⟨⟨rfl, rfl⟩, rfl⟩ rfl ⟨⟨rfl, .inr ⟨rfl, rfl, rfl⟩⟩, ⟨rfl, .inl ⟨rfl, noRef_states _⟩⟩, trivial⟩ rfl rfl ?_
     with_reducible refine wK ?_
     by_cases e1 : n < 0
     ·(have fct := (eq_true e1); (repeat' (first
  | refine gF ?_ | refine aE ?_ ?_
  | apply trivial)); all_goals clear fct)
      all_goals exact .inr (.inr ⟨_, rfl⟩)
     ·have e2 : (st.length : Int) ≤ n := by omega
      (have fct := And.intro (eq_false e1) (And.intro hsm ((eq_true e2))); (repeat' (first
  | refine gF ?_ | refine aE ?_ ?_
  | apply trivial)); all_goals clear fct)
      all_goals exact .inr (.inr ⟨_, rfl⟩)
   | true =>
     rw [ht, if_pos ⟨rfl, rfl⟩] at hod
     obtain ⟨i, y, ei, hy, _⟩ := there_iff.1 ht
     subst ei
     have hi := (List.getElem?_eq_some_iff.1 hy).1
     obtain ⟨q, hq⟩ : ∃ q, st[i]? = some q := ⟨_, List.getElem?_eq_getElem (by omega)⟩
     have h65 := h65 i q hq ht
     rw [Int.toNat_natCast, sAt_of hq] at hod
     have hhk := hhk q
     have hi1 : i < st.length := by omega
     clear h64 hy
     have h64 := f64_ok f hs st (by omega) d hd cs
     rw [hlv] at h64
     obtain ⟨dy, hdy⟩ : ∃ dy, dutyB f d cs (i : Int) q = dy := ⟨_, rfl⟩
     rw [hdy] at h65 hod
     generalize hcv : classV q d cs = cv at *
     obtain ⟨l, m⟩ := f
     obtain ⟨d1, d2, d3, d4⟩ := d
     obtain ⟨c1, c2, c3, c4, c5⟩ := cv
     have e1 : ¬ ((i : Int) < 0) := by omega
     have e2 : ¬ ((st.length : Int) ≤ (i : Int)) := by omega
     refine FnOK.startC (rvs := [.tmp 12]) G G_good Tryz.func26 rfl Tryz.ntmps26 rfl rfl ?_; with_reducible refine wD ?_
     refine CallK.lend (news := [mHall ⟨l, m⟩ (.own 221 0 st.length) ⟨d1, d2, d3, d4⟩ cs nilA, mStates st]) [220, 221] [] h64 c64 ⟨⟨rfl, rfl, trivial⟩, rfl, ⟨rfl, rfl, rfl, rfl, trivial⟩, rfl, trivial⟩ trivial rfl ⟨⟨rfl, rfl⟩, rfl⟩ rfl ⟨⟨rfl, .inr ⟨rfl, rfl, rfl⟩⟩, ⟨rfl, .inl ⟨rfl, noRef_states _⟩⟩, trivial⟩ rfl rfl ?_
     with_reducible refine wK ?_
     (have fct := And.intro (eq_false e1) (And.intro hsm ((eq_false e2))); (repeat' (first
  | refine gF ?_ | refine aE ?_ ?_
  | apply trivial)); all_goals clear fct)
     refine CallK.lend (news := [mHall ⟨l, m⟩ (.own 221 0 st.length) ⟨d1, d2, d3, d4⟩ cs nilA, mStates st]) [220, 221] [] h65 c65 ⟨⟨rfl, rfl⟩, rfl, trivial⟩ (ins_hallN rfl rfl) rfl ⟨⟨rfl, rfl⟩, rfl⟩ rfl news_hallN rfl rfl ?_
     with_reducible refine wK ?_
     cases dy with
     | false =>
       rw [if_neg (by simp)] at hod
       subst hod
       repeat' (first
  | refine gK ?_ | refine aE ?_ ?_
  | (((with_reducible show DrawK _ _ _ _); refine dK ?_) <;> with_reducible refine wK ?_)
  | apply trivial)
       all_goals exact .inr (.inr ⟨_, rfl⟩)
     | true =>
       rw [if_pos rfl] at hod
       repeat' (first
  | refine gK ?_ | refine aE ?_ ?_
  | apply trivial)
       cases hw : hearsC ⟨c1, c2, c3, c4, c5⟩ 8 with
       | true =>
         rw [tellD_yes (show hearsC _ (restoredT s).kind = true from hw)] at hod
         subst hod
         have h66 := f66_yesN ⟨l, m⟩ st ⟨d1, d2, d3, d4⟩ cs ⟨c1, c2, c3, c4, c5⟩ hhk (i : Int) (restoredT s) hw
         refine CallK.lend (news := [mHall ⟨l, m⟩ (.own 221 0 st.length) ⟨d1, d2, d3, d4⟩ cs (.own 911 0 1), mStates st, rDuesN [⟨(i : Int), restoredT s⟩]]) [220, 221, 911] [] h66 c66 ⟨⟨rfl, rfl⟩, ⟨rfl, rfl, rfl, rfl, rfl, trivial⟩, rfl, ⟨rfl, rfl, rfl, rfl, rfl, rfl, rfl, rfl, rfl, rfl, trivial⟩, trivial⟩ (ins_hallN rfl rfl) rfl ⟨⟨rfl, rfl⟩, rfl⟩ rfl news_hall rfl rfl ?_
         with_reducible refine wK ?_
         repeat' (first
  | refine gK ?_ | refine aE ?_ ?_
  | (((with_reducible show DrawK _ _ _ _); refine dK ?_) <;> with_reducible refine wK ?_)
  | apply trivial)
         all_goals exact frz_duesN rfl rfl rfl rfl
       | false =>
         rw [tellD_no (show hearsC _ (restoredT s).kind = false from hw)] at hod
         subst hod
         have h66 := f66_noN ⟨l, m⟩ st ⟨d1, d2, d3, d4⟩ cs ⟨c1, c2, c3, c4, c5⟩ hhk (i : Int) (restoredT s) hw
         refine CallK.lend (news := [mHall ⟨l, m⟩ (.own 221 0 st.length) ⟨d1, d2, d3, d4⟩ cs nilA, mStates st]) [220, 221] [] h66 c66 ⟨⟨rfl, rfl⟩, ⟨rfl, rfl, rfl, rfl, rfl, trivial⟩, rfl, ⟨rfl, rfl, rfl, rfl, rfl, rfl, rfl, rfl, rfl, rfl, trivial⟩, trivial⟩ (ins_hallN rfl rfl) rfl ⟨⟨rfl, rfl⟩, rfl⟩ rfl news_hallN rfl rfl ?_
         with_reducible refine wK ?_
         repeat' (first
  | refine gK ?_ | refine aE ?_ ?_
  | (((with_reducible show DrawK _ _ _ _); refine dK ?_) <;> with_reducible refine wK ?_)
  | apply trivial)
         all_goals exact .inr (.inr ⟨_, rfl⟩)
theorem posA_at {l : List AttrM} {w : ByteArray} : posA l w = -1 ∨ ∃ (k : Nat) (a : AttrM), posA l w = k ∧ l[k]? = some a := by
 unfold posA
 rcases idxI_cases (hasName w) l with h | ⟨k, a, h, ha, _⟩
 ·exact .inl h
 ·exact .inr ⟨k, a, h, ha⟩
def valR (x : NodeM) (w : ByteArray) : ByteArray := (attR x w).getD ⟨#[]⟩
theorem f84_ok (f : ForM) (hs : SmallN f.nodes) (k : Nat) (x : NodeM) (hx : f.nodes[k]? = some x) (w : ByteArray) : FnOK Tryz.prog 84 [] [eFor f, eInt k, eStr w] [] (.tup [eStr (valR x w), eBool (decide (0 ≤ posA x.attrs w))]) := by
 have h131 := f131_ok x.attrs (by have := hs.attrs x (List.mem_of_getElem? hx); omega) w
 obtain ⟨l, m⟩ := f
 unfold valR attR
 rcases posA_at (l := x.attrs) (w := w) with h | ⟨j, a, h, ha⟩
 ·rw [h] at h131 ⊢
  rw [if_neg (by decide)]
  obtain ⟨a1, a2, a3, a4, a5, a6, a7, a8, a9, a10⟩ := x
  simp only at h131
  refine FnOK.startC (rvs := [.tmp 6, .tmp 7]) G G_good Tryz.func84 rfl Tryz.ntmps84 rfl rfl ?_; with_reducible refine wD ?_
  repeat' (first
  | refine gK ?_ | refine aE ?_ ?_
  | ((first
   | (refine IdxK.mk k (eNode _) rfl (node_get hx) ?_)
   | ((with_reducible refine kQ 131 ?_); refine cL h131 c131 ?_)) <;> with_reducible refine wK ?_)
  | apply trivial)
  all_goals rfl
 ·rw [h] at h131 ⊢
  rw [if_pos (by omega), Int.toNat_natCast, ha, decide_eq_true (by omega)]
  obtain ⟨a1, a2, a3, a4, a5, a6, a7, a8, a9, a10⟩ := x
  obtain ⟨n, v⟩ := a
  simp only at h131 ha
  refine FnOK.startC (rvs := [.tmp 6, .tmp 7]) G G_good Tryz.func84 rfl Tryz.ntmps84 rfl rfl ?_; with_reducible refine wD ?_
  repeat' (first
  | refine gK ?_ | refine aE ?_ ?_
  | ((first
   | (first | refine IdxK.mk k (eNode _) rfl (node_get hx) ?_ | refine IdxK.mk j (eAttr ⟨n, v⟩) rfl (attr_get ha) ?_)
   | ((with_reducible refine kQ 131 ?_); refine cL h131 c131 ?_)) <;> with_reducible refine wK ?_)
  | apply trivial)
  all_goals rfl
theorem attR_some {x : NodeM} {w : ByteArray} : attR x w = if 0 ≤ posA x.attrs w then some (valR x w) else none := by
 unfold valR attR
 split <;> rfl
theorem f87_ok (f : ForM) (T : Tree f.nodes) : ∀ n, thereN f.nodes n = true → FnOK Tryz.prog 87 [] [eFor f, eInt n] [] (eInt (rootN f.nodes n)) := by
 refine up_ind T (fun n hn h => ?_) (fun n hn h hu ih => ?_)
 ·rw [root_top T hn h]
  obtain ⟨i, x, e, hx, hnx⟩ := there_iff.1 hn
  rw [hnx] at h
  obtain ⟨l, m⟩ := f
  obtain ⟨a1, a2, a3, a4, a5, a6, a7, a8, a9, a10⟩ := x
  simp only at h
  refine FnOK.startC (rvs := [.tmp 4]) G G_good Tryz.func87 rfl Tryz.ntmps87 rfl rfl ?_; with_reducible refine wD ?_
  (have fct := (eq_true h); (repeat' (first
  | refine gF ?_ | refine aE ?_ ?_
  | ((refine IdxK.mk i (eNode _) e (node_get hx) ?_) <;> with_reducible refine wK ?_)
  | apply trivial)); all_goals clear fct)
 ·rw [root_step T hn h]
  obtain ⟨i, x, e, hx, hnx⟩ := there_iff.1 hn
  rw [hnx] at h ih ⊢
  obtain ⟨l, m⟩ := f
  obtain ⟨a1, a2, a3, a4, a5, a6, a7, a8, a9, a10⟩ := x
  simp only at h ih ⊢
  refine FnOK.startC (rvs := [.tmp 4]) G G_good Tryz.func87 rfl Tryz.ntmps87 rfl rfl ?_; with_reducible refine wD ?_
  (have fct := (eq_false h); (repeat' (first
  | refine gF ?_ | refine aE ?_ ?_
  | ((first
   | (refine IdxK.mk i (eNode _) e (node_get hx) ?_)
   | ((with_reducible refine kQ 87 ?_); refine cL ih c87 ?_)
   | ((with_reducible show DrawK _ _ _ _); refine dK ?_)) <;> with_reducible refine wK ?_)
  | apply trivial)); all_goals clear fct)
  all_goals rfl
theorem f33_ok (f : ForM) (k : Nat) (x : NodeM) (hx : f.nodes[k]? = some x) : FnOK Tryz.prog 33 [] [eFor f, eInt k] [] (eBool (isForm x)) := by
 obtain ⟨l, m⟩ := f
 obtain ⟨a1, a2, a3, a4, a5, a6, a7, a8, a9, a10⟩ := x
 unfold isForm
 refine FnOK.startC (rvs := [.tmp 4]) G G_good Tryz.func33 rfl Tryz.ntmps33 rfl rfl ?_; with_reducible refine wD ?_
 by_cases e : a1 = 1
 ·(have fct := (eq_true e); (repeat' (first
  | refine gF ?_ | refine aE ?_ ?_
  | ((refine IdxK.mk k (eNode _) rfl (node_get hx) ?_) <;> with_reducible refine wK ?_)
  | apply trivial)); all_goals clear fct)
  all_goals simp [e]
 ·(have fct := (eq_false e); (repeat' (first
  | refine gF ?_ | refine aE ?_ ?_
  | ((refine IdxK.mk k (eNode _) rfl (node_get hx) ?_) <;> with_reducible refine wK ?_)
  | apply trivial)); all_goals clear fct)
  all_goals simp [e]
theorem ord_get {l : List NodeM} (T : Tree l) {r : Int} (hr : thereN l r = true) {m : Int} (hs : SmallN l) : ∃ (k : Nat) (x : NodeM), r = k ∧ l[k]? = some x ∧ FnOK Tryz.prog 86 [] [eFor ⟨l, m⟩, eInt r] [] (eInts (ordN l l.length r)) := by
 obtain ⟨k, x, rfl, hx, _⟩ := there_iff.1 hr
 exact ⟨k, x, rfl, hx, f86_ok ⟨l, m⟩ hs T l.length k x hx (ord_fuel T hr)⟩
theorem near_next {l : List NodeM} (T : Tree l) (q : Int → Bool) (p : Int) (y : NodeM) (hp : thereN l p = true) (hy : nd l p = y) :
  (y.parent = -1 ∧ nearBy l q p = -1) ∨ (thereN l y.parent = true ∧ y.parent ≠ -1 ∧ (nearBy l q p = if q y.parent = true then y.parent else nearBy l q y.parent) ∧ (wayN l y.parent).length < (wayN l p).length) := by
 subst hy
 by_cases e : (nd l p).parent = -1
 ·exact .inl ⟨e, find_top T q hp e⟩
 ·exact .inr ⟨(T.par p hp e).1, e, find_step T q hp e, by rw [way_step T hp e]; simp⟩
theorem find_drop {q : Int → Bool} {ks : List Int} {j : Nat} {k : Int} (hk : ks[j]? = some k) : (ks.drop j).find? q = if q k = true then some k else (ks.drop (j + 1)).find? q := by
 have hj := (List.getElem?_eq_some_iff.1 hk).1
 rw [List.drop_eq_getElem_cons hj, List.find?_cons]
 rw [List.getElem?_eq_getElem hj] at hk
 rw [Option.some.inj hk]
 cases q k <;> rfl
theorem f44_ok (f : ForM) (hs : SmallN f.nodes) (hrt : rightF f = true) (n : Int) (hn : thereN f.nodes n = true) : FnOK Tryz.prog 44 [] [eFor f, eInt n] [] (eInt (ownR f.nodes n)) := by
 have T : Tree f.nodes := tree_of hrt
 have h85 := f85_ok f (U.tree_of hrt) n hn
 have h87 := f87_ok f T n hn
 have hrth := (root_there T n hn).1
 obtain ⟨kr, xr, _, _, h86⟩ := ord_get (m := f.most) T hrth hs
 have hoth := fun k hk => (ord_root T hrth (n := k) hk).1
 have hol := ord_len T f.nodes.length hrth
 have hval := fun k x hx w => f84_ok f hs k x hx w
 have hstp := fun p y => near_next T (fun p => decide ((nd f.nodes p).name = formW)) p y
 have hnR : nearBy f.nodes (fun p => decide ((nd f.nodes p).name = formW)) n = nearR f.nodes n := rfl
 have h60 := hs.len
 obtain ⟨l, m⟩ := f
 simp only at h85 h87 h86 hoth hol hval hstp hnR hn h60 ⊢
 obtain ⟨i, x, e, hx, hnx⟩ := there_iff.1 hn
 have h84 := hval i x hx formW
 rw [← e] at h84
 have hst0 := hstp n x hn hnx
 obtain ⟨o, ho⟩ : ∃ o, ownR l n = o := ⟨_, rfl⟩
 rw [ho]
 unfold ownR byIdR firstR at ho
 rw [hnx, attR_some] at ho
 rw [show decide ((nd l (topN l n)).kind = 0) = conN l n from rfl] at h85
 generalize rootN l n = r at h87 h86 hoth hol ho
 generalize ordN l l.length r = ks at h86 hoth hol ho
 generalize nearR l n = nr at hnR ho
 generalize conN l n = cn at h85 ho
 generalize valR x formW = v at h84 ho
 obtain ⟨ok, hok⟩ : ∃ ok, decide (0 ≤ posA x.attrs formW) = ok := ⟨_, rfl⟩
 rw [hok] at h84
 have hok' : (0 ≤ posA x.attrs formW) = (ok = true) := by rw [← hok]; simp
 simp only [hok'] at ho
 clear hok hok'
 have hkm : (ks.map oInt).length = ks.length := List.length_map ..
 obtain ⟨nb, hnb⟩ : ∃ nb : Int → Int, nb = nearBy l (fun p => decide ((nd l p).name = formW)) := ⟨_, rfl⟩
 rw [← hnb] at hst0 hstp hnR
 obtain ⟨a1, a2, a3, a4, a5, a6, a7, a8, a9, a10⟩ := x
 simp only at h84 hst0 ho
 refine FnOK.startC (rvs := [.tmp 4]) G G_good Tryz.func44 rfl Tryz.ntmps44 rfl rfl ?_; with_reducible refine wD ?_
 refine IdxK.mk i (eNode _) e (node_get hx) ?_; with_reducible refine wK ?_
 by_cases e1 : a1 = 1
 ·rw [if_pos e1] at ho
  refine IfK.no (by rw [e1]; rfl) ?_; with_reducible refine wK ?_
  by_cases hc : ok = true ∧ cn = true
  ·obtain ⟨rfl, rfl⟩ := hc
   simp only [if_true] at ho
   repeat' (first
  | refine gK ?_ | refine aE ?_ ?_
  | ((first
   | ((with_reducible refine kQ 84 ?_); refine cL h84 c84 ?_)
   | ((with_reducible refine kQ 85 ?_); refine cL h85 c85 ?_)
   | ((with_reducible refine kQ 87 ?_); refine cL h87 c87 ?_)
   | ((with_reducible refine kQ 86 ?_); refine cV h86 c86 ?_)
   | ((with_reducible show DrawK _ _ _ _); refine dK ?_)) <;> with_reducible refine wK ?_)
  | apply trivial)
   obtain ⟨q, hq⟩ : ∃ q : Int → Bool, q = fun k => decide (attR (nd l k) idW = some v) := ⟨_, rfl⟩
   rw [← hq] at ho
   refine LoopK.use G G_good (fun (j : Nat) => [(2, .ptr 20 0 0), (5, eStr v), (7, eInts ks), (8, eInt j)]) (fun _ => [(20, .live 2 [eFor ⟨l, m⟩] false)])
    (fun j => j ≤ ks.length ∧ ks.find? q = (ks.drop j).find? q) (fun j => ks.length - j) 0 ⟨Nat.zero_le _, rfl⟩ (by (refine fK ?_; (with_reducible repeat' (first | exact trivial | (show _ ∧ _; refine aK ?_ ?_))); (all_goals try rfl))) ?_
   rintro j ⟨hj, hfind⟩
   with_reducible refine wK ?_
   by_cases ev : v = ⟨#[]⟩
   ·rw [if_pos ev] at ho
    subst ho
    have ev' : v = ⟨⟨[]⟩⟩ := ev
    refine IfK.mk (fun h1 => ?_) (fun h1 => ?_) <;> (try simp only [castN] at h1) <;> with_reducible refine wK ?_
    ·(have fct := ev'; (repeat' (first
  | refine gF ?_ | refine aE ?_ ?_
  | apply trivial)); all_goals clear fct)
     all_goals rfl
    ·repeat' (first
  | refine gK ?_ | refine aE ?_ ?_
  | apply trivial)
     all_goals rfl
   ·rw [if_neg ev] at ho
    have ev' : ¬ v = ⟨⟨[]⟩⟩ := ev
    refine IfK.mk (fun h1 => ?_) (fun h1 => ?_) <;> (try simp only [castN] at h1) <;> with_reducible refine wK ?_
    ·have hj' : j < ks.length := by simp only [hkm, decide_eq_true_eq] at h1; omega
     obtain ⟨k, hk⟩ : ∃ k, ks[j]? = some k := ⟨_, List.getElem?_eq_getElem hj'⟩
     rw [find_drop hk] at hfind
     obtain ⟨i2, y, e2, hy, hny⟩ := there_iff.1 (hoth k (List.mem_of_getElem? hk))
     have h84' := hval i2 y hy idW
     rw [← e2] at h84'
     have hqk : q k = (decide (0 ≤ posA y.attrs idW) && decide (valR y idW = v)) := by
      rw [hq]; simp only [hny, attR_some]
      by_cases e3 : 0 ≤ posA y.attrs idW
      ·rw [if_pos e3]; simp [e3]
      ·rw [if_neg e3]; simp [e3]
     generalize valR y idW = w at h84' hqk
     generalize decide (0 ≤ posA y.attrs idW) = ok2 at h84' hqk
     obtain ⟨b1, b2, b3, b4, b5, b6, b7, b8, b9, b10⟩ := y
     by_cases hm : ok2 = true ∧ w = v
     ·obtain ⟨rfl, rfl⟩ := hm
      rw [show q k = true by rw [hqk]; simp, if_pos rfl] at hfind
      rw [hfind] at ho
      simp only [hny] at ho
      by_cases e4 : b2 = formW
      ·rw [if_pos e4] at ho
       subst ho
       (have fct := And.intro ev' ((eq_true e4)); (repeat' (first
  | refine gF ?_ | refine aE ?_ ?_
  | ((first
   | (first | refine IdxK.mk j (eInt k) rfl (int_get hk) ?_ | refine IdxK.mk i2 (eNode _) e2 (node_get hy) ?_)
   | ((with_reducible refine kQ 84 ?_); refine cL h84' c84 ?_)
   | ((with_reducible show DrawK _ _ _ _); refine dK ?_)) <;> with_reducible refine wK ?_)
  | apply trivial)); all_goals clear fct)
       all_goals rfl
      ·rw [if_neg e4] at ho
       subst ho
       (have fct := And.intro ev' ((eq_false e4)); (repeat' (first
  | refine gF ?_ | refine aE ?_ ?_
  | ((first
   | (first | refine IdxK.mk j (eInt k) rfl (int_get hk) ?_ | refine IdxK.mk i2 (eNode _) e2 (node_get hy) ?_)
   | ((with_reducible refine kQ 84 ?_); refine cL h84' c84 ?_)
   | ((with_reducible show DrawK _ _ _ _); refine dK ?_)) <;> with_reducible refine wK ?_)
  | apply trivial)); all_goals clear fct)
       all_goals rfl
     ·have hqf : q k = false := by
       rw [hqk]
       cases ok2 with
       | false => rfl
       | true =>
         have : ¬ w = v := fun h => hm ⟨rfl, h⟩
         simp [this]
      rw [hqf, if_neg (by simp)] at hfind
      cases ok2 with
      | false =>
        (have fct := ev'; (repeat' (first
  | refine gF ?_ | refine aE ?_ ?_
  | ((first
   | (refine IdxK.mk j (eInt k) rfl (int_get hk) ?_)
   | ((with_reducible refine kQ 84 ?_); refine cL h84' c84 ?_)
   | ((with_reducible show DrawK _ _ _ _); refine dK ?_)) <;> with_reducible refine wK ?_)
  | apply trivial)); all_goals clear fct)
        exact NextK.mk (j + 1) ⟨by omega, hfind⟩ (by omega) (by (refine fK ?_; (with_reducible repeat' (first | exact trivial | (show _ ∧ _; refine aK ?_ ?_))); (all_goals try rfl)))
      | true =>
        have hwv : ¬ w = v := fun h => hm ⟨rfl, h⟩
        (have fct := And.intro ev' (hwv); (repeat' (first
  | refine gF ?_ | refine aE ?_ ?_
  | ((first
   | (refine IdxK.mk j (eInt k) rfl (int_get hk) ?_)
   | ((with_reducible refine kQ 84 ?_); refine cL h84' c84 ?_)
   | ((with_reducible show DrawK _ _ _ _); refine dK ?_)) <;> with_reducible refine wK ?_)
  | apply trivial)); all_goals clear fct)
        exact NextK.mk (j + 1) ⟨by omega, hfind⟩ (by omega) (by (refine fK ?_; (with_reducible repeat' (first | exact trivial | (show _ ∧ _; refine aK ?_ ?_))); (all_goals try rfl)))
    ·have hjl : j = ks.length := by simp only [hkm, decide_eq_false_iff_not] at h1; omega
     subst hjl
     rw [List.drop_length] at hfind
     rw [hfind] at ho
     simp only [List.find?_nil] at ho
     subst ho
     repeat' (first
  | refine gK ?_ | refine aE ?_ ?_
  | apply trivial)
     all_goals rfl
  ·have goal : nr = o := by
    rw [← ho]
    cases ok with
    | false => rfl
    | true =>
      cases cn with
      | false => rfl
      | true => exact absurd ⟨rfl, rfl⟩ hc
   rw [← goal, ← hnR]
   clear ho goal
   cases ok with
   | false =>
     repeat' (first
  | refine gK ?_ | refine aE ?_ ?_
  | ((first
   | ((with_reducible refine kQ 84 ?_); refine cL h84 c84 ?_)
   | (refine IdxK.mk i (eNode _) e (node_get hx) ?_)) <;> with_reducible refine wK ?_)
  | apply trivial)
     refine LoopK.use G G_good (fun (p : Int) => [(2, .ptr 20 0 0), (11, eInt p)]) (fun _ => [(20, .live 2 [eFor ⟨l, m⟩] false)])
      (fun p => (p = -1 ∧ nb n = -1) ∨ (thereN l p = true ∧ p ≠ -1 ∧ nb n = if decide ((nd l p).name = formW) = true then p else nb p)) (fun p => if p = -1 then 0 else (wayN l p).length) a6
      (by rcases hst0 with h | ⟨h1, h2, h3, _⟩; exact .inl h; exact .inr ⟨h1, h2, h3⟩) (by (refine fK ?_; (with_reducible repeat' (first | exact trivial | (show _ ∧ _; refine aK ?_ ?_))); (all_goals try rfl))) ?_
     intro p hp
     with_reducible refine wK ?_
     rcases hp with ⟨rfl, h1⟩ | ⟨h1, h2, h3⟩
     ·rw [h1]
      repeat' (first
  | refine gK ?_ | refine aE ?_ ?_
  | apply trivial)
      all_goals rfl
     ·obtain ⟨j, z, e', hz, hnz⟩ := there_iff.1 h1
      have hst := hstp p z h1 hnz
      rw [hnz] at h3
      obtain ⟨b1, b2, b3, b4, b5, b6, b7, b8, b9, b10⟩ := z
      simp only at hst h3
      by_cases hf : b2 = formW
      ·rw [h3, if_pos (decide_eq_true hf)]
       (have fct := And.intro (eq_false h2) ((eq_true hf)); (repeat' (first
  | refine gF ?_ | refine aE ?_ ?_
  | ((refine IdxK.mk j (eNode ⟨b1, b2, b3, b4, b5, b6, b7, b8, b9, b10⟩) e' (node_get hz) ?_) <;> with_reducible refine wK ?_)
  | apply trivial)); all_goals clear fct)
       all_goals rfl
      ·rw [if_neg (by simp [hf])] at h3
       (have fct := And.intro (eq_false h2) ((eq_false hf)); (repeat' (first
  | refine gF ?_ | refine aE ?_ ?_
  | ((refine IdxK.mk j (eNode ⟨b1, b2, b3, b4, b5, b6, b7, b8, b9, b10⟩) e' (node_get hz) ?_) <;> with_reducible refine wK ?_)
  | apply trivial)); all_goals clear fct)
       refine NextK.mk b6 ?_ ?_ ?_
       ·rw [h3]
        rcases hst with h | ⟨g1, g2, g3, _⟩
        ·exact .inl h
        ·exact .inr ⟨g1, g2, g3⟩
       ·rw [if_neg h2]
        rcases hst with ⟨h, _⟩ | ⟨_, g2, _, g4⟩
        ·rw [if_pos h]
         obtain ⟨r, hr⟩ := way_head T h1
         rw [hr]; simp
        ·rw [if_neg g2]; exact g4
       ·(refine fK ?_; (with_reducible repeat' (first | exact trivial | (show _ ∧ _; refine aK ?_ ?_))); (all_goals try rfl))
   | true =>
     cases cn with
     | true => exact absurd ⟨rfl, rfl⟩ hc
     | false =>
       repeat' (first
  | refine gK ?_ | refine aE ?_ ?_
  | ((first
   | ((with_reducible refine kQ 84 ?_); refine cL h84 c84 ?_)
   | ((with_reducible refine kQ 85 ?_); refine cL h85 c85 ?_)
   | (refine IdxK.mk i (eNode _) e (node_get hx) ?_)) <;> with_reducible refine wK ?_)
  | apply trivial)
       refine LoopK.use G G_good (fun (p : Int) => [(2, .ptr 20 0 0), (11, eInt p)]) (fun _ => [(20, .live 2 [eFor ⟨l, m⟩] false)])
        (fun p => (p = -1 ∧ nb n = -1) ∨ (thereN l p = true ∧ p ≠ -1 ∧ nb n = if decide ((nd l p).name = formW) = true then p else nb p)) (fun p => if p = -1 then 0 else (wayN l p).length) a6
        (by rcases hst0 with h | ⟨h1, h2, h3, _⟩; exact .inl h; exact .inr ⟨h1, h2, h3⟩) (by (refine fK ?_; (with_reducible repeat' (first | exact trivial | (show _ ∧ _; refine aK ?_ ?_))); (all_goals try rfl))) ?_
       intro p hp
       with_reducible refine wK ?_
       rcases hp with ⟨rfl, h1⟩ | ⟨h1, h2, h3⟩
       ·rw [h1]
        repeat' (first
  | refine gK ?_ | refine aE ?_ ?_
  | apply trivial)
        all_goals rfl
       ·obtain ⟨j, z, e', hz, hnz⟩ := there_iff.1 h1
        have hst := hstp p z h1 hnz
        rw [hnz] at h3
        obtain ⟨b1, b2, b3, b4, b5, b6, b7, b8, b9, b10⟩ := z
        simp only at hst h3
        by_cases hf : b2 = formW
        ·rw [h3, if_pos (decide_eq_true hf)]
         (have fct := And.intro (eq_false h2) ((eq_true hf)); (repeat' (first
  | refine gF ?_ | refine aE ?_ ?_
  | ((refine IdxK.mk j (eNode ⟨b1, b2, b3, b4, b5, b6, b7, b8, b9, b10⟩) e' (node_get hz) ?_) <;> with_reducible refine wK ?_)
  | apply trivial)); all_goals clear fct)
         all_goals rfl
        ·rw [if_neg (by simp [hf])] at h3
         (have fct := And.intro (eq_false h2) ((eq_false hf)); (repeat' (first
  | refine gF ?_ | refine aE ?_ ?_
  | ((refine IdxK.mk j (eNode ⟨b1, b2, b3, b4, b5, b6, b7, b8, b9, b10⟩) e' (node_get hz) ?_) <;> with_reducible refine wK ?_)
  | apply trivial)); all_goals clear fct)
         refine NextK.mk b6 ?_ ?_ ?_
         ·rw [h3]
          rcases hst with h | ⟨g1, g2, g3, _⟩
          ·exact .inl h
          ·exact .inr ⟨g1, g2, g3⟩
         ·rw [if_neg h2]
          rcases hst with ⟨h, _⟩ | ⟨_, g2, _, g4⟩
          ·rw [if_pos h]
           obtain ⟨r, hr⟩ := way_head T h1
           rw [hr]; simp
          ·rw [if_neg g2]; exact g4
         ·(refine fK ?_; (with_reducible repeat' (first | exact trivial | (show _ ∧ _; refine aK ?_ ?_))); (all_goals try rfl))
 ·rw [if_neg e1] at ho
  subst ho
  (have fct := (eq_false e1); (repeat' (first
  | refine gF ?_ | refine aE ?_ ?_
  | apply trivial)); all_goals clear fct)
  all_goals rfl
def mrTo (l : List NodeM) (x : Int) (ks : List Int) (k : Nat) : List Int := (ks.take k).filter fun a => decide (ownR l a = x)
theorem mrTo_step {l : List NodeM} {x : Int} {ks : List Int} {k : Nat} {c : Int} (h : ks[k]? = some c) : mrTo l x ks (k + 1) = mrTo l x ks k ++ if ownR l c = x then [c] else [] := by
 unfold mrTo
 rw [List.take_add_one, h, List.filter_append]
 congr 1
 show List.filter _ [c] = _
 rw [List.filter_cons]
 by_cases e : ownR l c = x
 ·rw [if_pos e, decide_eq_true e]; rfl
 ·rw [if_neg e, decide_eq_false e]; rfl
theorem mrTo_len (l : List NodeM) (x : Int) (ks : List Int) (k : Nat) : (mrTo l x ks k).length ≤ k := by
 unfold mrTo
 exact Nat.le_trans (List.length_filter_le _ _) (by rw [List.length_take]; omega)
theorem f46_ok (f : ForM) (hs : SmallN f.nodes) (hr : rightF f = true) (n : Int) (ht : thereN f.nodes n = true) : FnOK Tryz.prog 46 [] [eFor f, eInt n] [] (eInts (memR f.nodes n)) := by
 have T : Tree f.nodes := tree_of hr
 have h87 := f87_ok f T n ht
 have hrt := (root_there T n ht).1
 obtain ⟨_, _, _, _, h86⟩ := ord_get (m := f.most) T hrt hs
 have hot : ∀ k ∈ ordN f.nodes f.nodes.length (rootN f.nodes n), thereN f.nodes k = true := fun k hk => (ord_root T hrt hk).1
 have hol := ord_len T f.nodes.length hrt
 have h44 := fun c h => f44_ok f hs hr c h
 have h60 := hs.len
 have hm : memR f.nodes n = mrTo f.nodes n (ordN f.nodes f.nodes.length (rootN f.nodes n)) (ordN f.nodes f.nodes.length (rootN f.nodes n)).length := by
  unfold memR mrTo; rw [List.take_length]
 rw [hm]
 obtain ⟨l, m⟩ := f
 simp only at h86 hot hol h44 h60 h87 ⊢
 generalize ordN l l.length (rootN l n) = ks at h86 hot hol ⊢
 generalize rootN l n = r at h86 h87
 have hstep := fun k c (h : ks[k]? = some c) => mrTo_step (l := l) (x := n) h
 have hml := mrTo_len l n ks
 have h0 : mrTo l n ks 0 = [] := rfl
 generalize mrTo l n ks = mr at hstep hml h0 ⊢
 have hkm : (ks.map oInt).length = ks.length := List.length_map ..
 refine FnOK.startC (rvs := [.tmp 4]) G G_good Tryz.func46 rfl Tryz.ntmps46 rfl rfl ?_; with_reducible refine wD ?_
 repeat' (first
  | refine gK ?_ | refine aE ?_ ?_
  | ((first
   | ((with_reducible refine kQ 87 ?_); refine cL h87 c87 ?_)
   | ((with_reducible refine kQ 86 ?_); refine cV h86 c86 ?_)
   | ((with_reducible show DrawK _ _ _ _); refine dK ?_)) <;> with_reducible refine wK ?_)
  | apply trivial)
 refine LoopK.ghost 5 51 1 rfl rfl ?_
 refine LoopK.use G G_good (fun (k : Nat) => [(1, eInt n), (2, .ptr 20 0 0), (5, .own 51 0 (mr k).length), (6, eInts ks), (7, eInt k)])
  (fun k => [(20, .live 2 [eFor ⟨l, m⟩] false), (51, rInts (mr k))])
  (fun k => k ≤ ks.length) (fun k => ks.length - k) 0 (Nat.zero_le _) ?_ ?_
 ·rw [h0]
  (refine fK ?_; (with_reducible repeat' (first | exact trivial | (show _ ∧ _; refine aK ?_ ?_))); (all_goals try rfl))
  all_goals first
   | exact ⟨.refl rfl, rfl⟩
 intro k hk
 have hdl := hml k
 have hmm : ((mr k).map oInt).length = (mr k).length := List.length_map ..
 with_reducible refine wK ?_
 refine IfK.mk (fun h1 => ?_) (fun h1 => ?_) <;> (try simp only [castN] at h1) <;> with_reducible refine wK ?_
 ·have hk' : k < ks.length := by simp only [decide_eq_true_eq, castN] at h1; omega
  obtain ⟨c, hc⟩ : ∃ c, ks[k]? = some c := ⟨_, List.getElem?_eq_getElem hk'⟩
  have h44 := h44 c (hot c (List.mem_of_getElem? hc))
  have hst := hstep k c hc
  generalize ownR l c = o at h44 hst
  generalize mr k = X at *
  by_cases e : o = n
  ·rw [if_pos e] at hst
   (have fct := (eq_true e); (repeat' (first
  | refine gF ?_ | refine aE ?_ ?_
  | ((first
   | (refine IdxK.mk k (eInt c) rfl (int_get hc) ?_)
   | ((with_reducible refine kQ 44 ?_); refine cL h44 c44 ?_)
   | ((with_reducible show AppK _ _ _ _ _ _ _ _ _ _); refine AppK.mk (X.map oInt) [eInt c] ⟨rfl, hmm.symm, rfl⟩ ⟨rfl, rfl, rfl⟩ rfl (by simp; omega) (by simp; omega) ?_)
   | ((with_reducible show DrawK _ _ _ _); refine dK ?_)) <;> with_reducible refine wK ?_)
  | apply trivial)); all_goals clear fct)
   refine NextK.mk (k + 1) (by omega) (by omega) ?_
   rw [hst]
   (refine fK ?_; (with_reducible repeat' (first | exact trivial | (show _ ∧ _; refine aK ?_ ?_))); (all_goals try rfl))
   all_goals first
    | (simp; done)
    | exact ⟨.refl rfl, rfl⟩
    | (refine ⟨?_, noRef_ints _⟩; rw [List.map_append]; exact .refl (by rw [← List.map_append]; exact noRef_ints _))
  ·rw [if_neg e, List.append_nil] at hst
   (have fct := (eq_false e); (repeat' (first
  | refine gF ?_ | refine aE ?_ ?_
  | ((first
   | (refine IdxK.mk k (eInt c) rfl (int_get hc) ?_)
   | ((with_reducible refine kQ 44 ?_); refine cL h44 c44 ?_)
   | ((with_reducible show DrawK _ _ _ _); refine dK ?_)) <;> with_reducible refine wK ?_)
  | apply trivial)); all_goals clear fct)
   refine NextK.mk (k + 1) (by omega) (by omega) ?_
   rw [hst]
   (refine fK ?_; (with_reducible repeat' (first | exact trivial | (show _ ∧ _; refine aK ?_ ?_))); (all_goals try rfl))
   all_goals first
    | (simp; done)
    | exact ⟨.refl rfl, rfl⟩
    | exact ⟨.refl (noRef_ints _), noRef_ints _⟩
 ·have hjl : k = ks.length := by simp only [decide_eq_false_iff_not, castN] at h1; omega
  subst hjl
  repeat' (first
  | refine gK ?_ | refine aE ?_ ?_
  | apply trivial)
  all_goals exact frz_ints rfl rfl rfl rfl
theorem f68_ok (f : ForM) (s : StateM) (d : DeskM) (cs : List ClassM) (k : Nat) (ht : thereN f.nodes (k : Int) = true) :
  FnOK Tryz.prog 68 [] [eFor f, eState s, eDesk d, eClasses cs, eInt k] [] (eInt (if dutyB f d cs k s = true then classAt s d cs.length else -1)) := by
 have h110 := f110_ok s d cs
 obtain ⟨r, hr⟩ : ∃ r, (if dutyB f d cs k s = true then classAt s d cs.length else -1) = r := ⟨_, rfl⟩
 rw [hr]
 unfold dutyB at hr
 obtain ⟨i, x, ei, hx, hnx⟩ := there_iff.1 ht
 rw [hnx] at hr
 have hcc := classAt_cases s d cs.length
 obtain ⟨cb, hcb⟩ : ∃ cb, classB s d cs = cb := ⟨_, rfl⟩
 have hcbe : cb = decide (0 ≤ classAt s d cs.length) := hcb.symm
 obtain ⟨cv, hcv⟩ : ∃ cv, classV s d cs = cv := ⟨_, rfl⟩
 have hcve : ∀ m : Nat, m < cs.length → classAt s d cs.length = m → cs[m]? = some cv := fun m hm h => by
  obtain ⟨c, hc⟩ : ∃ c, cs[m]? = some c := ⟨_, List.getElem?_eq_getElem hm⟩
  rw [← hcv, (classV_at h hc).1]; exact hc
 rw [hcb, hcv] at hr
 generalize classAt s d cs.length = ca at *
 clear hcb hcv
 obtain ⟨l, m⟩ := f
 obtain ⟨d1, d2, d3, d4⟩ := d
 obtain ⟨s1, s2, s3, s4⟩ := s
 obtain ⟨c1, c2, c3, c4, c5⟩ := cv
 obtain ⟨a1, a2, a3, a4, a5, a6, a7, a8, a9, a10⟩ := x
 simp only at hx hr
 refine FnOK.startC (rvs := [.tmp 10]) G G_good Tryz.func68 rfl Tryz.ntmps68 rfl rfl ?_; with_reducible refine wD ?_
 by_cases e1 : a1 = 1
 ·by_cases e2 : s1 = 3
  ·rcases hcc with h | ⟨j, hj, h⟩
   ·subst h
    have hr' : r = -1 := by rw [← hr, hcbe]; simp
    subst hr'
    (have fct := And.intro (eq_true e1) ((eq_true e2)); (repeat' (first
  | refine gF ?_ | refine aE ?_ ?_
  | ((first
   | (refine IdxK.mk i (eNode _) ei (node_get hx) ?_)
   | ((with_reducible refine kQ 110 ?_); refine cL h110 c110 ?_)) <;> with_reducible refine wK ?_)
  | apply trivial)); all_goals clear fct)
    all_goals rfl
   ·subst h
    have hcj := hcve j hj rfl
    have hj0 : ¬ ((j : Int) < 0) := by omega
    have hj1 : decide (0 ≤ (j : Int)) = true := decide_eq_true (by omega)
    rw [hj1] at hcbe
    subst hcbe
    cases c1 with
    | true =>
      have hr' : r = (j : Int) := by rw [← hr]; simp [e1, e2]
      subst hr'
      (have fct := And.intro (eq_true e1) (And.intro (eq_true e2) ((eq_false hj0))); (repeat' (first
  | refine gF ?_ | refine aE ?_ ?_
  | ((first
   | (first | refine IdxK.mk i (eNode _) ei (node_get hx) ?_ | refine IdxK.mk j (eClass ⟨true, c2, c3, c4, c5⟩) rfl (class_get hcj) ?_)
   | ((with_reducible refine kQ 110 ?_); refine cL h110 c110 ?_)) <;> with_reducible refine wK ?_)
  | apply trivial)); all_goals clear fct)
      all_goals rfl
    | false =>
      have hr' : r = -1 := by rw [← hr]; simp
      subst hr'
      (have fct := And.intro (eq_true e1) (And.intro (eq_true e2) ((eq_false hj0))); (repeat' (first
  | refine gF ?_ | refine aE ?_ ?_
  | ((first
   | (first | refine IdxK.mk i (eNode _) ei (node_get hx) ?_ | refine IdxK.mk j (eClass ⟨false, c2, c3, c4, c5⟩) rfl (class_get hcj) ?_)
   | ((with_reducible refine kQ 110 ?_); refine cL h110 c110 ?_)) <;> with_reducible refine wK ?_)
  | apply trivial)); all_goals clear fct)
      all_goals rfl
  ·have hr' : r = -1 := by rw [← hr]; simp [e2]
   subst hr'
   (have fct := And.intro (eq_true e1) ((eq_false e2)); (repeat' (first
  | refine gF ?_ | refine aE ?_ ?_
  | ((first
   | (refine IdxK.mk i (eNode _) ei (node_get hx) ?_)
   | ((with_reducible refine kQ 110 ?_); refine cL h110 c110 ?_)) <;> with_reducible refine wK ?_)
  | apply trivial)); all_goals clear fct)
   all_goals rfl
 ·have hr' : r = -1 := by rw [← hr]; simp [e1]
  subst hr'
  (have fct := (eq_false e1); (repeat' (first
  | refine gF ?_ | refine aE ?_ ?_
  | ((first
   | (refine IdxK.mk i (eNode _) ei (node_get hx) ?_)
   | ((with_reducible refine kQ 110 ?_); refine cL h110 c110 ?_)) <;> with_reducible refine wK ?_)
  | apply trivial)); all_goals clear fct)
  all_goals rfl
theorem duty_class {f : ForM} {d : DeskM} {cs : List ClassM} {n : Int} {s : StateM} (h : dutyB f d cs n s = true) : ∃ j : Nat, classAt s d cs.length = j ∧ cs[j]? = some (classV s d cs) := by
 unfold dutyB at h
 have hb : classB s d cs = true := by
  simp only [Bool.and_eq_true] at h
  exact h.1.1.1
 rcases classAt_cases s d cs.length with e | ⟨j, hj, e⟩
 ·rw [(classV_no e).2] at hb; cases hb
 ·obtain ⟨c, hc⟩ : ∃ c, cs[j]? = some c := ⟨_, List.getElem?_eq_getElem hj⟩
  exact ⟨j, e, by rw [(classV_at e hc).1]; exact hc⟩
theorem f32_ok (f : ForM) (st : List StateM) (d : DeskM) (cs : List ClassM) (hcs : ∀ c ∈ cs, c.hooks.length ≤ 100000) (n : Int) (s : ByteArray) (hlk : lookV f st d = true) (ht : thereN f.nodes n = true) :
  FnOK Tryz.prog 32 [] [eFor f, eStates st, eDesk d, eClasses cs, eInt n, eStr s] [] (eDuesN (restoreDu f st d cs n s)) := by
 obtain ⟨od, hod⟩ : ∃ x', restoreDu f st d cs n s = x' := ⟨_, rfl⟩
 rw [hod]
 unfold restoreDu at hod
 rw [if_pos ⟨hlk, ht⟩] at hod
 have hlen : st.length = f.nodes.length := by
  unfold lookV at hlk
  simp only [Bool.and_eq_true, decide_eq_true_eq] at hlk
  exact hlk.1.1
 obtain ⟨i, y, ei, hy, _⟩ := there_iff.1 ht
 subst ei
 have hi := (List.getElem?_eq_some_iff.1 hy).1
 obtain ⟨q, hq⟩ : ∃ q, st[i]? = some q := ⟨_, List.getElem?_eq_getElem (by omega)⟩
 rw [Int.toNat_natCast, sAt_of hq] at hod
 have h68 := f68_ok f q d cs i ht
 have hdc := fun h => duty_class (f := f) (d := d) (cs := cs) (n := (i : Int)) (s := q) h
 have hhk := classV_hooks hcs q d
 have h70 := f70_ok (classV q d cs) hhk 8
 obtain ⟨dy, hdy⟩ : ∃ dy, dutyB f d cs (i : Int) q = dy := ⟨_, rfl⟩
 rw [hdy] at h68 hod hdc
 generalize classV q d cs = cv at *
 generalize classAt q d cs.length = ca at *
 clear hy ht hlk hcs hhk
 obtain ⟨l, m⟩ := f
 obtain ⟨d1, d2, d3, d4⟩ := d
 obtain ⟨c1, c2, c3, c4, c5⟩ := cv
 obtain ⟨s1, s2, s3, s4⟩ := q
 cases dy with
 | false =>
   rw [if_neg (by simp)] at hod h68
   subst hod
   refine FnOK.startC (rvs := [.tmp 12]) G G_good Tryz.func32 rfl Tryz.ntmps32 rfl rfl ?_; with_reducible refine wD ?_
   repeat' (first
  | refine gK ?_ | refine aE ?_ ?_
  | ((first
   | (refine IdxK.mk i (eState ⟨s1, s2, s3, s4⟩) rfl (state_get hq) ?_)
   | ((with_reducible refine kQ 68 ?_); refine cL h68 c68 ?_)
   | ((with_reducible show DrawK _ _ _ _); refine dK ?_)) <;> with_reducible refine wK ?_)
  | apply trivial)
   all_goals exact .inr (.inr ⟨_, rfl⟩)
 | true =>
   rw [if_pos rfl] at hod h68
   obtain ⟨j, e, hcj⟩ := hdc rfl
   subst e
   have hj0 : ¬ ((j : Int) < 0) := by omega
   cases hw : hearsC ⟨c1, c2, c3, c4, c5⟩ 8 with
   | true =>
     rw [hw] at h70
     rw [tellD_yes (show hearsC _ (restoredT s).kind = true from hw)] at hod
     subst hod
     refine FnOK.startC (rvs := [.tmp 12]) G G_good Tryz.func32 rfl Tryz.ntmps32 rfl rfl ?_; with_reducible refine wD ?_
     (have fct := (eq_false hj0); (repeat' (first
  | refine gF ?_ | refine aE ?_ ?_
  | ((first
   | (first | refine IdxK.mk i (eState ⟨s1, s2, s3, s4⟩) rfl (state_get hq) ?_ | refine IdxK.mk j (eClass ⟨c1, c2, c3, c4, c5⟩) rfl (class_get hcj) ?_)
   | ((with_reducible refine kQ 68 ?_); refine cL h68 c68 ?_)
   | ((with_reducible refine kQ 70 ?_); refine cL h70 c70 ?_)
   | ((with_reducible show DrawK _ _ _ _); refine dK ?_)) <;> with_reducible refine wK ?_)
  | apply trivial)); all_goals clear fct)
     all_goals exact frz_duesN (l := [⟨(i : Int), restoredT s⟩]) rfl rfl rfl rfl
   | false =>
     rw [hw] at h70
     rw [tellD_no (show hearsC _ (restoredT s).kind = false from hw)] at hod
     subst hod
     refine FnOK.startC (rvs := [.tmp 12]) G G_good Tryz.func32 rfl Tryz.ntmps32 rfl rfl ?_; with_reducible refine wD ?_
     (have fct := (eq_false hj0); (repeat' (first
  | refine gF ?_ | refine aE ?_ ?_
  | ((first
   | (first | refine IdxK.mk i (eState ⟨s1, s2, s3, s4⟩) rfl (state_get hq) ?_ | refine IdxK.mk j (eClass ⟨c1, c2, c3, c4, c5⟩) rfl (class_get hcj) ?_)
   | ((with_reducible refine kQ 68 ?_); refine cL h68 c68 ?_)
   | ((with_reducible refine kQ 70 ?_); refine cL h70 c70 ?_)
   | ((with_reducible show DrawK _ _ _ _); refine dK ?_)) <;> with_reducible refine wK ?_)
  | apply trivial)); all_goals clear fct)
     all_goals exact .inr (.inr ⟨_, rfl⟩)
theorem f34_ok (f : ForM) (hs : SmallN f.nodes) (st : List StateM) (d : DeskM) (cs : List ClassM) (hcs : ∀ c ∈ cs, c.hooks.length ≤ 100000) (x : Int) (hlk : lookV f st d = true) (ht : thereN f.nodes x = true) :
  FnOK Tryz.prog 34 [] [eFor f, eStates st, eDesk d, eClasses cs, eInt x] [] (eDuesN (rDu f d cs st (memR f.nodes x) (memR f.nodes x).length)) := by
 obtain ⟨hlen, hr⟩ : st.length = f.nodes.length ∧ rightF f = true := by
  unfold lookV at hlk
  simp only [Bool.and_eq_true, decide_eq_true_eq] at hlk
  exact hlk.1
 have h46 := f46_ok f hs hr x ht
 have T : Tree f.nodes := tree_of hr
 have hmt : ∀ c ∈ memR f.nodes x, ∃ (i : Nat) (s : StateM), c = (i : Int) ∧ st[i]? = some s ∧ sAt st c.toNat = s ∧ thereN f.nodes (i : Int) = true := fun c hc => by
  unfold memR at hc
  have ht := (ord_root T (root_there T x ht).1 (List.mem_filter.1 hc).1).1
  obtain ⟨i, y, e, hy, _⟩ := there_iff.1 ht
  have hi := (List.getElem?_eq_some_iff.1 hy).1
  obtain ⟨s, hs'⟩ : ∃ s, st[i]? = some s := ⟨_, List.getElem?_eq_getElem (by omega)⟩
  subst e
  exact ⟨i, s, rfl, hs', by rw [Int.toNat_natCast]; exact sAt_of hs', ht⟩
 have h60 := hs.len
 have hml : (memR f.nodes x).length ≤ f.nodes.length := by
  unfold memR
  exact Nat.le_trans (List.length_filter_le _ _) (ord_len T _ (root_there T x ht).1)
 have hstep := fun k c (h : (memR f.nodes x)[k]? = some c) => rDu_step (f := f) (d := d) (cs := cs) (st := st) h
 have hRD : ∀ c, resetD f d cs st c = if dutyB f d cs c (sAt st c.toNat) = true then tellD (classV (sAt st c.toNat) d cs) c clearedT else [] := fun c => rfl
 have hdlen := rDu_len f d cs st (memR f.nodes x)
 have h0 : rDu f d cs st (memR f.nodes x) 0 = [] := rfl
 have h68 := fun s i h => f68_ok f s d cs i h
 have hdc := fun i s h => duty_class (f := f) (d := d) (cs := cs) (n := i) (s := s) h
 have hhk := fun s => classV_hooks hcs s d
 generalize rDu f d cs st (memR f.nodes x) = du at hstep hdlen h0 ⊢
 generalize memR f.nodes x = ms at h46 hml hmt hstep ⊢
 have hmm : (ms.map oInt).length = ms.length := List.length_map ..
 clear T hr hlk
 obtain ⟨l, m⟩ := f
 obtain ⟨d1, d2, d3, d4⟩ := d
 simp only at hlen h60 hml
 refine FnOK.startC (rvs := [.tmp 10]) G G_good Tryz.func34 rfl Tryz.ntmps34 rfl rfl ?_; with_reducible refine wD ?_
 repeat' (first
  | refine gK ?_ | refine aE ?_ ?_
  | (((with_reducible refine kQ 46 ?_); refine cV h46 c46 ?_) <;> with_reducible refine wK ?_)
  | apply trivial)
 refine LoopK.ghost 11 111 11 rfl rfl ?_
 refine LoopK.use G G_good (fun (k : Nat) => [(1, eStates st), (3, eClasses cs), (5, .ptr 50 0 0), (7, .ptr 70 0 0), (11, .own 111 0 (du k).length), (12, eInts ms), (13, eInt k)])
  (fun k => [(50, .live 2 [eFor ⟨l, m⟩] false), (70, .live 4 [eDesk ⟨d1, d2, d3, d4⟩] false), (111, rDuesN (du k))])
  (fun k => k ≤ ms.length) (fun k => ms.length - k) 0 (Nat.zero_le _) ?_ ?_
 ·rw [h0]
  (refine fK ?_; (with_reducible repeat' (first | exact trivial | (show _ ∧ _; refine aK ?_ ?_))); (all_goals try rfl))
  all_goals first
   | exact ⟨.refl rfl, rfl⟩
 intro k hk
 have hdl := hdlen k
 have hdm : ((du k).map oDueN).length = (du k).length := List.length_map ..
 with_reducible refine wK ?_
 refine IfK.mk (fun h1 => ?_) (fun h1 => ?_) <;> (try simp only [castN] at h1) <;> with_reducible refine wK ?_
 ·have hk' : k < ms.length := by simp only [decide_eq_true_eq, castN] at h1; omega
  obtain ⟨c, hc⟩ : ∃ c, ms[k]? = some c := ⟨_, List.getElem?_eq_getElem hk'⟩
  obtain ⟨i, s, ei, hsi, hsa, hti⟩ := hmt c (List.mem_of_getElem? hc)
  subst ei
  have hi := (List.getElem?_eq_some_iff.1 hsi).1
  have h68 := h68 s i hti
  have hdc := hdc (i : Int) s
  have hhk := hhk s
  have h70 := f70_ok (classV s ⟨d1, d2, d3, d4⟩ cs) hhk 7
  have hst1 := hstep k _ hc
  rw [hRD, hsa] at hst1
  clear hmt hstep hRD hsa h46 hti hhk
  obtain ⟨dy, hdy⟩ : ∃ dy, dutyB ⟨l, m⟩ ⟨d1, d2, d3, d4⟩ cs (i : Int) s = dy := ⟨_, rfl⟩
  rw [hdy] at h68 hst1 hdc
  generalize classV s ⟨d1, d2, d3, d4⟩ cs = cv at *
  generalize classAt s ⟨d1, d2, d3, d4⟩ cs.length = ca at *
  generalize du k = D at *
  obtain ⟨c1, c2, c3, c4, c5⟩ := cv
  obtain ⟨s1, s2, s3, s4⟩ := s
  cases dy with
  | false =>
    rw [if_neg (by simp)] at hst1 h68
    rw [List.append_nil] at hst1
    repeat' (first
  | refine gK ?_ | refine aE ?_ ?_
  | ((first
   | (first | refine IdxK.mk k (eInt (i : Int)) rfl (int_get hc) ?_ | refine IdxK.mk i (eState ⟨s1, s2, s3, s4⟩) rfl (state_get hsi) ?_)
   | ((with_reducible refine kQ 68 ?_); refine cL h68 c68 ?_)
   | ((with_reducible show DrawK _ _ _ _); refine dK ?_)) <;> with_reducible refine wK ?_)
  | apply trivial)
    refine NextK.mk (k + 1) (by omega) (by omega) ?_
    rw [hst1]
    (refine fK ?_; (with_reducible repeat' (first | exact trivial | (show _ ∧ _; refine aK ?_ ?_))); (all_goals try rfl))
    all_goals first
     | (simp; done)
     | exact ⟨.refl rfl, rfl⟩
     | exact ⟨.refl (noRef_duesN _), noRef_duesN _⟩
     | (refine ⟨?_, noRef_duesN _⟩; rw [List.map_append]; exact .refl (by rw [← List.map_append]; exact noRef_duesN _))
  | true =>
    rw [if_pos rfl] at hst1 h68
    obtain ⟨j, e, hcj⟩ := hdc rfl
    subst e
    have hj0 : (0 ≤ (j : Int)) := by omega
    cases hw : hearsC ⟨c1, c2, c3, c4, c5⟩ 7 with
    | true =>
      rw [hw] at h70
      rw [tellD_yes (show hearsC _ clearedT.kind = true from hw)] at hst1
      (have fct := (eq_true hj0); (repeat' (first
  | refine gF ?_ | refine aE ?_ ?_
  | ((first
   | (first | refine IdxK.mk k (eInt (i : Int)) rfl (int_get hc) ?_ | refine IdxK.mk i (eState ⟨s1, s2, s3, s4⟩) rfl (state_get hsi) ?_ | refine IdxK.mk j (eClass ⟨c1, c2, c3, c4, c5⟩) rfl (class_get hcj) ?_)
   | ((with_reducible refine kQ 68 ?_); refine cL h68 c68 ?_)
   | ((with_reducible refine kQ 70 ?_); refine cL h70 c70 ?_)
   | ((with_reducible show AppK _ _ _ _ _ _ _ _ _ _); refine AppK.mk (D.map oDueN) [eDueN ⟨(i : Int), clearedT⟩] ⟨rfl, hdm.symm, rfl⟩ ⟨rfl, rfl, rfl⟩ rfl (by simp; omega) (by simp; omega) ?_)
   | ((with_reducible show DrawK _ _ _ _); refine dK ?_)) <;> with_reducible refine wK ?_)
  | apply trivial)); all_goals clear fct)
      refine NextK.mk (k + 1) (by omega) (by omega) ?_
      rw [hst1]
      (refine fK ?_; (with_reducible repeat' (first | exact trivial | (show _ ∧ _; refine aK ?_ ?_))); (all_goals try rfl))
      all_goals first
       | (simp; done)
       | exact ⟨.refl rfl, rfl⟩
       | exact ⟨.refl (noRef_duesN _), noRef_duesN _⟩
       | (refine ⟨?_, noRef_duesN _⟩; rw [List.map_append]; exact .refl (by rw [← List.map_append]; exact noRef_duesN _))
    | false =>
      rw [hw] at h70
      rw [tellD_no (show hearsC _ clearedT.kind = false from hw), List.append_nil] at hst1
      (have fct := (eq_true hj0); (repeat' (first
  | refine gF ?_ | refine aE ?_ ?_
  | ((first
   | (first | refine IdxK.mk k (eInt (i : Int)) rfl (int_get hc) ?_ | refine IdxK.mk i (eState ⟨s1, s2, s3, s4⟩) rfl (state_get hsi) ?_ | refine IdxK.mk j (eClass ⟨c1, c2, c3, c4, c5⟩) rfl (class_get hcj) ?_)
   | ((with_reducible refine kQ 68 ?_); refine cL h68 c68 ?_)
   | ((with_reducible refine kQ 70 ?_); refine cL h70 c70 ?_)
   | ((with_reducible show AppK _ _ _ _ _ _ _ _ _ _); refine AppK.mk (D.map oDueN) [eDueN ⟨(i : Int), clearedT⟩] ⟨rfl, hdm.symm, rfl⟩ ⟨rfl, rfl, rfl⟩ rfl (by simp; omega) (by simp; omega) ?_)
   | ((with_reducible show DrawK _ _ _ _); refine dK ?_)) <;> with_reducible refine wK ?_)
  | apply trivial)); all_goals clear fct)
      refine NextK.mk (k + 1) (by omega) (by omega) ?_
      rw [hst1]
      (refine fK ?_; (with_reducible repeat' (first | exact trivial | (show _ ∧ _; refine aK ?_ ?_))); (all_goals try rfl))
      all_goals first
       | (simp; done)
       | exact ⟨.refl rfl, rfl⟩
       | exact ⟨.refl (noRef_duesN _), noRef_duesN _⟩
       | (refine ⟨?_, noRef_duesN _⟩; rw [List.map_append]; exact .refl (by rw [← List.map_append]; exact noRef_duesN _))
 ·have hjl : k = ms.length := by simp only [decide_eq_false_iff_not, castN] at h1; omega
  subst hjl
  repeat' (first
  | refine gK ?_ | refine aE ?_ ?_
  | (((with_reducible show DrawK _ _ _ _); refine dK ?_) <;> with_reducible refine wK ?_)
  | apply trivial)
  all_goals first | exact frz_duesN rfl rfl rfl rfl
def sTo (f : ForM) (d : DeskM) (cs : List ClassM) (st : List StateM) (k : Nat) : List StateM := (List.range k).map fun n : Nat => toldS f d cs (n : Int) (sAt st n)
theorem sTo_len (f : ForM) (d : DeskM) (cs : List ClassM) (st : List StateM) (k : Nat) : (sTo f d cs st k).length = k := by unfold sTo; simp
theorem sTo_step (f : ForM) (d : DeskM) (cs : List ClassM) (st : List StateM) (k : Nat) : sTo f d cs st (k + 1) = sTo f d cs st k ++ [toldS f d cs (k : Int) (sAt st k)] := by
 unfold sTo; rw [List.range_succ, List.map_append]; rfl
theorem sTo_all (f : ForM) (d : DeskM) (cs : List ClassM) (st : List StateM) : sTo f d cs st st.length = tSt f d cs st st.length := by
 unfold sTo tSt
 refine List.map_congr_left fun n hn => ?_
 rw [if_pos (List.mem_range.1 hn)]
theorem f30_ok (f : ForM) (hs : SmallN f.nodes) (st : List StateM) (d : DeskM) (cs : List ClassM) (hcs : ∀ c ∈ cs, c.hooks.length ≤ 100000) (hlk : lookV f st d = true) :
  FnOK Tryz.prog 30 [] [eFor f, eStates st, eDesk d, eClasses cs] [] (.tup [eStates (toldSt f st d cs), eDuesN (toldDu f st d cs)]) := by
 obtain ⟨hlen, hr⟩ : st.length = f.nodes.length ∧ rightF f = true := by
  have := hlk
  unfold lookV at this
  simp only [Bool.and_eq_true, decide_eq_true_eq] at this
  exact this.1
 have T : Tree f.nodes := tree_of hr
 have h60 := hs.len
 have e1 : toldSt f st d cs = sTo f d cs st st.length := by unfold toldSt; rw [if_pos hlk, sTo_all]
 have e2 : toldDu f st d cs = tDu f d cs st st.length := by unfold toldDu; rw [if_pos hlk]
 rw [e1, e2]
 have hmt : ∀ k, k < st.length → thereN f.nodes (k : Int) = true := fun k hk => there_get (List.getElem?_eq_getElem (by omega))
 have hfx : ∀ k, k < st.length → ∃ x, f.nodes[k]? = some x := fun k hk => ⟨_, List.getElem?_eq_getElem (by omega)⟩
 have h44 := fun c h => f44_ok f hs hr c h
 have h69 := fun k x h => f69_ok f hs T k x h
 have hoe := fun n h => own_eq T (n := n) h
 have hbe := fun n h => bar_eq T (n := n) h
 have hxs := fun k => sTo_step f d cs st k
 have hxl := fun k => sTo_len f d cs st k
 have hds := fun k => tDu_step f d cs st k
 have hdl := fun k => tDu_len f d cs st k
 have hx0 : sTo f d cs st 0 = [] := rfl
 have hd0 : tDu f d cs st 0 = [] := rfl
 have hSd : ∀ k s, toldS f d cs k s = if dutyB f d cs k s = true then ⟨s.phase, s.df, ownN f.nodes k, barN f.nodes k⟩ else s := fun k s => rfl
 have hDd : ∀ k s, toldD f d cs k s = if dutyB f d cs k s = true then
   (if s.owner = ownN f.nodes k then [] else tellD (classV s d cs) k (ownedT s.owner (ownN f.nodes k))) ++ (if s.barred = barN f.nodes k then [] else tellD (classV s d cs) k (barredT (barN f.nodes k))) else [] := fun k s => rfl
 have h68 := fun s i h => f68_ok f s d cs i h
 have hdc := fun i s h => duty_class (f := f) (d := d) (cs := cs) (n := i) (s := s) h
 have hhk := fun s => classV_hooks hcs s d
 have hsA : ∀ k, k < st.length → st[k]? = some (sAt st k) := fun k hk => by
  unfold sAt; rw [List.getElem?_eq_getElem hk]; rfl
 generalize sTo f d cs st = so at hxs hxl hx0 ⊢
 generalize tDu f d cs st = td at hds hdl hd0 ⊢
 clear e1 e2 T hr hlk
 obtain ⟨l, m⟩ := f
 obtain ⟨d1, d2, d3, d4⟩ := d
 simp only at hlen h60
 have hsm : (st.map oState).length = st.length := List.length_map ..
 refine FnOK.startC (rvs := [.tmp 8, .tmp 9]) G G_good Tryz.func30 rfl Tryz.ntmps30 rfl rfl ?_; with_reducible refine wD ?_
 refine LoopK.ghost 10 101 4 rfl rfl ?_
 refine LoopK.ghost 11 111 11 rfl rfl ?_
 refine LoopK.use G G_good (fun (k : Nat) => [(1, eStates st), (3, eClasses cs), (4, .ptr 40 0 0), (6, .ptr 60 0 0), (10, .own 101 0 (so k).length), (11, .own 111 0 (td k).length), (12, eInt k)])
  (fun k => [(40, .live 2 [eFor ⟨l, m⟩] false), (60, .live 4 [eDesk ⟨d1, d2, d3, d4⟩] false), (101, mStates (so k)), (111, rDuesN (td k))])
  (fun k => k ≤ st.length) (fun k => st.length - k) 0 (Nat.zero_le _) ?_ ?_
 ·rw [hx0, hd0]
  (refine fK ?_; (with_reducible repeat' (first | exact trivial | (show _ ∧ _; refine aK ?_ ?_))); (all_goals try rfl))
  all_goals first
   | exact ⟨.refl rfl, rfl⟩
 intro k hk
 have hdl := hdl k
 have hxl := hxl k
 have hdm : ((td k).map oDueN).length = (td k).length := List.length_map ..
 have hxm : ((so k).map oState).length = (so k).length := List.length_map ..
 with_reducible refine wK ?_
 refine IfK.mk (fun h1 => ?_) (fun h1 => ?_) <;> (try simp only [castN] at h1) <;> with_reducible refine wK ?_
 ·have hk' : k < st.length := by simp only [decide_eq_true_eq, castN] at h1; omega
  have hti := hmt k hk'
  obtain ⟨x, hfx⟩ := hfx k hk'
  have hsi := hsA k hk'
  have h44 := h44 (k : Int) hti
  have h69 := h69 k x hfx
  rw [← hoe (k : Int) hti] at h44
  rw [← hbe (k : Int) hti] at h69
  have hxt := hxs k
  have hdt := hds k
  have hSd := hSd k (sAt st k)
  have hDd := hDd k (sAt st k)
  rw [hSd] at hxt
  rw [hDd] at hdt
  clear hSd hDd hxs hds hmt hsA hoe hbe hfx
  generalize sAt st k = s at *
  have h68 := h68 s k hti
  have hdc := hdc (k : Int) s
  have hhk := hhk s
  have hA := f70_ok (classV s ⟨d1, d2, d3, d4⟩ cs) hhk 5
  have hB := f70_ok (classV s ⟨d1, d2, d3, d4⟩ cs) hhk 6
  obtain ⟨dy, hdy⟩ : ∃ dy, dutyB ⟨l, m⟩ ⟨d1, d2, d3, d4⟩ cs (k : Int) s = dy := ⟨_, rfl⟩
  rw [hdy] at h68 hdt hxt hdc
  generalize classV s ⟨d1, d2, d3, d4⟩ cs = cv at *
  generalize classAt s ⟨d1, d2, d3, d4⟩ cs.length = ca at *
  generalize ownN l (k : Int) = o at *
  generalize barN l (k : Int) = b at *
  generalize td k = D at *
  generalize so k = X at *
  obtain ⟨c1, c2, c3, c4, c5⟩ := cv
  obtain ⟨s1, s2, s3, s4⟩ := s
  clear hti hhk
  cases dy with
  | false =>
    rw [if_neg (by simp)] at hdt hxt h68
    rw [List.append_nil] at hdt
    obtain ⟨y, hy⟩ : ∃ y : StateM, y = ⟨s1, s2, s3, s4⟩ := ⟨_, rfl⟩
    subst hy
    repeat' (first
  | refine gK ?_ | refine aE ?_ ?_
  | ((first
   | (refine IdxK.mk k (eState ⟨s1, s2, s3, s4⟩) rfl (state_get hsi) ?_)
   | ((with_reducible refine kQ 68 ?_); refine cL h68 c68 ?_)
   | ((with_reducible show AppK _ _ _ _ _ _ _ _ _ _); refine AppK.mk (X.map oState) [eState ⟨s1, s2, s3, s4⟩] ⟨rfl, hxm.symm, rfl⟩ ⟨rfl, rfl, rfl⟩ rfl (by simp; omega) (by simp; omega) ?_)
   | ((with_reducible show ElemK _ _ _ _ _); refine ElemK.mk _ rfl ?_)
   | ((with_reducible show DrawK _ _ _ _); refine dK ?_)) <;> with_reducible refine wK ?_)
  | apply trivial)
    refine NextK.mk (k + 1) (by omega) (by omega) ?_
    rw [hxt, hdt]
    (refine fK ?_; (with_reducible repeat' (first | exact trivial | (show _ ∧ _; refine aK ?_ ?_))); (all_goals try rfl))
    all_goals first
     | (simp; done)
     | exact ⟨.refl rfl, rfl⟩
     | exact ⟨.refl (noRef_duesN _), noRef_duesN _⟩
     | (refine ⟨?_, noRef_states _⟩; rw [List.map_append]; exact .refl (by rw [← List.map_append]; exact noRef_states _))
  | true =>
    rw [if_pos rfl] at hdt hxt h68
    simp only at hdt hxt
    obtain ⟨j, e, hcj⟩ := hdc rfl
    subst e
    have hj0 : (0 ≤ (j : Int)) := by omega
    generalize hwA : hearsC ⟨c1, c2, c3, c4, c5⟩ 5 = wA at *
    generalize hwB : hearsC ⟨c1, c2, c3, c4, c5⟩ 6 = wB at *
    have hgA : ∀ t, t = ownedT s3 o → hearsC ⟨c1, c2, c3, c4, c5⟩ t.kind = wA := fun t e => by rw [e]; exact hwA
    have hgB : ∀ t, t = barredT b → hearsC ⟨c1, c2, c3, c4, c5⟩ t.kind = wB := fun t e => by rw [e]; exact hwB
    have eA : ∃ X : List DueN, (if s3 = o then [] else tellD ⟨c1, c2, c3, c4, c5⟩ (k : Int) (ownedT s3 o)) = X ∧ (((o = s3) = True ∧ True ∧ X = []) ∨ ((o = s3) = False ∧ wA = false ∧ X = []) ∨ ((o = s3) = False ∧ wA = true ∧ X = [⟨(k : Int), ownedT s3 o⟩])) := by
     by_cases e : o = s3
     ·exact ⟨[], if_pos e.symm, .inl ⟨eq_true e, trivial, rfl⟩⟩
     ·rw [if_neg (fun h => e h.symm)]
      cases wA with
      | true => exact ⟨_, tellD_yes (hgA _ rfl), .inr (.inr ⟨eq_false e, rfl, rfl⟩)⟩
      | false => exact ⟨_, tellD_no (hgA _ rfl), .inr (.inl ⟨eq_false e, rfl, rfl⟩)⟩
    have eB : ∃ Y : List DueN, (if s4 = b then [] else tellD ⟨c1, c2, c3, c4, c5⟩ (k : Int) (barredT b)) = Y ∧ (((b == s4) = true ∧ True ∧ Y = []) ∨ ((b == s4) = false ∧ wB = false ∧ Y = []) ∨ ((b == s4) = false ∧ wB = true ∧ Y = [⟨(k : Int), barredT b⟩])) := by
     by_cases e : s4 = b
     ·exact ⟨[], if_pos e, .inl ⟨by rw [e]; simp, trivial, rfl⟩⟩
     ·have e' : (b == s4) = false := by cases b <;> cases s4 <;> simp at e ⊢
      rw [if_neg e]
      cases wB with
      | true => exact ⟨_, tellD_yes (hgB _ rfl), .inr (.inr ⟨e', rfl, rfl⟩)⟩
      | false => exact ⟨_, tellD_no (hgB _ rfl), .inr (.inl ⟨e', rfl, rfl⟩)⟩
    obtain ⟨X', hX, hA'⟩ := eA
    obtain ⟨Y', hY, hB'⟩ := eB
    rw [hX, hY] at hdt
    clear hgA hgB hwA hwB hX hY
    rcases hA' with ⟨e1f, w1, rfl⟩ | ⟨e1f, w1, rfl⟩ | ⟨e1f, w1, rfl⟩ <;> rcases hB' with ⟨e2f, w2, rfl⟩ | ⟨e2f, w2, rfl⟩ | ⟨e2f, w2, rfl⟩
    all_goals
     try simp only [List.nil_append, List.append_nil] at hdt
     (have fct := And.intro e1f (And.intro w1 (And.intro e2f (And.intro w2 ((eq_true hj0))))); (repeat' (first
  | refine gF ?_ | refine aE ?_ ?_
  | ((first
   | (first | refine IdxK.mk k (eState ⟨s1, s2, s3, s4⟩) rfl (state_get hsi) ?_ | refine IdxK.mk j (eClass ⟨c1, c2, c3, c4, c5⟩) rfl (class_get hcj) ?_)
   | ((with_reducible refine kQ 68 ?_); refine cL h68 c68 ?_)
   | ((with_reducible refine kQ 44 ?_); refine cL h44 c44 ?_)
   | ((with_reducible refine kQ 69 ?_); refine cL h69 c69 ?_)
   | ((with_reducible refine kQ 70 ?_); first | refine cL hA c70 ?_ | refine cL hB c70 ?_)
   | ((with_reducible show AppK _ _ _ _ _ _ _ _ _ _); first | refine AppK.mk (D.map oDueN) [eDueN ⟨(k : Int), ownedT s3 o⟩] ⟨rfl, hdm.symm, rfl⟩ ⟨rfl, rfl, rfl⟩ rfl (by simp; omega) (by simp; omega) ?_ | refine AppK.mk (D.map oDueN) [eDueN ⟨(k : Int), barredT b⟩] ⟨rfl, hdm.symm, rfl⟩ ⟨rfl, rfl, rfl⟩ rfl (by simp; omega) (by simp; omega) ?_ | refine AppK.mk (D.map oDueN ++ [eDueN ⟨(k : Int), ownedT s3 o⟩]) [eDueN ⟨(k : Int), barredT b⟩] ⟨rfl, by simp, rfl⟩ ⟨rfl, rfl, rfl⟩ rfl (by simp; omega) (by simp; omega) ?_ | refine AppK.mk (X.map oState) [eState ⟨s1, s2, o, b⟩] ⟨rfl, hxm.symm, rfl⟩ ⟨rfl, rfl, rfl⟩ rfl (by simp; omega) (by simp; omega) ?_)
   | ((with_reducible show ElemK _ _ _ _ _); refine ElemK.mk _ rfl ?_)
   | ((with_reducible show DrawK _ _ _ _); refine dK ?_)) <;> with_reducible refine wK ?_)
  | apply trivial)); all_goals clear fct)
     refine NextK.mk (k + 1) (by omega) (by omega) ?_
     rw [hxt, hdt]
     (refine fK ?_; (with_reducible repeat' (first | exact trivial | (show _ ∧ _; refine aK ?_ ?_))); (all_goals try rfl))
     all_goals first
      | (simp; done)
      | (simp; omega)
      | exact ⟨.refl rfl, rfl⟩
      | exact ⟨.refl (noRef_duesN _), noRef_duesN _⟩
      | (refine ⟨?_, noRef_states _⟩; rw [List.map_append]; exact .refl (by rw [← List.map_append]; exact noRef_states _))
      | (refine ⟨?_, noRef_duesN _⟩; rw [List.map_append]; exact .refl (by rw [← List.map_append]; exact noRef_duesN _))
      | (refine ⟨?_, noRef_duesN _⟩; rw [← List.append_assoc, List.map_append, List.map_append]; exact .refl (by rw [← List.map_append, ← List.map_append]; exact noRef_duesN _))
 ·have hjl : k = st.length := by simp only [decide_eq_false_iff_not, castN] at h1; omega
  subst hjl
  repeat' (first
  | refine gK ?_ | refine aE ?_ ?_
  | (((with_reducible show DrawK _ _ _ _); refine dK ?_) <;> with_reducible refine wK ?_)
  | apply trivial)
  all_goals first | exact frz_states rfl rfl rfl rfl | exact frz_duesN rfl rfl rfl rfl
def stateEq (t u : StateM) : Bool := (t.phase == u.phase) && ((t.df == u.df) && ((t.owner == u.owner) && (t.barred == u.barred)))
theorem stateEq_iff (t u : StateM) : stateEq t u = decide (t = u) := by
 rw [Bool.eq_iff_iff, decide_eq_true_eq]
 unfold stateEq
 simp only [Bool.and_eq_true, beq_iff_eq]
 constructor
 ·rintro ⟨a, b, c, d⟩
  cases t; cases u
  simp only at *
  subst a; subst b; subst c; subst d; rfl
 ·rintro rfl; simp
@[reducible] def vState (t : StateM) : Value := .agg #[.int .i64 t.phase, .int .i64 t.df, .int .i64 t.owner, .bool t.barred]
theorem state_eq (t u : StateM) (w : World) : (Op.equalIn 10000 67 (vState t) (vState u)).run Tryz.prog w = .ok (decide (t = u)) w := by
 have hS : Tryz.prog.underlying 67 = some (.struct (Tryz.prog.fieldsOf 67)) := by kernel_rfl
 have hp : Tryz.prog.stoodInHeld 67 = false := by kernel_rfl
 have u3 := Tryz.underlying3
 have a3 := Tryz.isAgg3
 have z3 := Tryz.sizeOf3
 have u4 := Tryz.underlying4
 have a4 := Tryz.isAgg4
 have z4 := Tryz.sizeOf4
 rw [← stateEq_iff, show (10000 : Nat) = 9999 + 1 from rfl, run_equalIn_agg w 9999 67 _ _ hS hp]
 simp only [Program.fieldsOf, Tryz.underlying67]
 go_simp
 clear hS hp u3 a3 z3 u4 a4 z4
 unfold stateEq
 by_cases h1 : t.phase = u.phase <;> by_cases h2 : t.df = u.df <;> by_cases h3 : t.owner = u.owner <;> simp [h1, h2, h3]
 by_cases h4 : t.barred = u.barred <;> simp [h4]
theorem state_neq (a b : StateM) (y z : Operand) (w : World) : ((do eqGuard .neq 67 y z (vState a) (vState b); binOp .neq 67 (vState a) (vState b) : Sem Value)).run Tryz.prog w = .ok (.bool (!decide (a = b))) w := by
 rw [Sem.run_bind, run_eqGuard_agg w .neq 67 y z _ _ (by kernel_rfl), Result.andThen_ok, run_neq_struct, state_eq]; rfl
theorem f27_ok (a b : List StateM) (ha : a.length ≤ 100000) : FnOK Tryz.prog 27 [] [eStates a, eStates b] [] (eBool (decide (a = b))) := by
 have hlm : (a.map oState).length = a.length := List.length_map ..
 have hlm' : (b.map oState).length = b.length := List.length_map ..
 refine FnOK.startC (rvs := [.tmp 4]) G G_good Tryz.func27 rfl Tryz.ntmps27 rfl rfl ?_; with_reducible refine wD ?_
 by_cases g1 : a.length = b.length
 ·(have fct := And.intro hlm (And.intro hlm' (g1)); (repeat' (first
  | refine gF ?_ | refine aE ?_ ?_
  | apply trivial)); all_goals clear fct)
  refine LoopK.use G G_good (fun (k : Nat) => [(0, eStates a), (1, eStates b), (5, eInt k)]) (fun _ => []) (fun k => k ≤ a.length ∧ ∀ j, j < k → a[j]? = b[j]?) (fun k => a.length - k) 0 ⟨Nat.zero_le _, fun j hj => by omega⟩
   ⟨⟨rfl, rfl⟩, ⟨rfl, rfl, rfl, trivial⟩, trivial⟩ ?_
  intro k ⟨hk, hno⟩
  with_reducible refine wK ?_
  refine IfK.mk (fun h1 => ?_) (fun h1 => ?_) <;> (try simp only [castN] at h1) <;> with_reducible refine wK ?_
  ·simp only [hlm, decide_eq_true_eq] at h1
   have hk' : k < a.length := by omega
   obtain ⟨⟨x1, x2, x3, x4⟩, hx⟩ : ∃ x, a[k]? = some x := ⟨_, List.getElem?_eq_getElem hk'⟩
   obtain ⟨⟨y1, y2, y3, y4⟩, hy⟩ : ∃ y, b[k]? = some y := ⟨_, List.getElem?_eq_getElem (by omega)⟩
   refine IdxK.mk k (eState ⟨x1, x2, x3, x4⟩) rfl (state_get hx) ?_; with_reducible refine wK ?_
   refine IdxK.mk k (eState ⟨y1, y2, y3, y4⟩) rfl (state_get hy) ?_; with_reducible refine wK ?_
   refine EqK.mk _ (fun y z w => state_neq ⟨x1, x2, x3, x4⟩ ⟨y1, y2, y3, y4⟩ y z w) ?_; with_reducible refine wK ?_
   by_cases e : (⟨x1, x2, x3, x4⟩ : StateM) = ⟨y1, y2, y3, y4⟩
   ·have e' := hx.trans ((congrArg some e).trans hy.symm)
    rw [decide_eq_true e]
    repeat' (first
  | refine gK ?_ | refine aE ?_ ?_
  | ((first
   | ((with_reducible show NextK _ _); refine NextK.mk (k + 1) ⟨by omega, same_succ hno e'⟩ (by omega) ⟨⟨rfl, rfl⟩, ⟨rfl, rfl, by show ((k + 1 : Nat) : Int) = (k : Int) + 1; omega, trivial⟩, trivial⟩)
   | ((with_reducible show DrawK _ _ _ _); refine dK ?_)) <;> with_reducible refine wK ?_)
  | apply trivial)
   ·rw [show decide (a = b) = false from decide_eq_false fun h => e (by rw [h] at hx; rw [hx] at hy; exact Option.some.inj hy), decide_eq_false e]
    repeat' (first
  | refine gK ?_ | refine aE ?_ ?_
  | (((with_reducible show DrawK _ _ _ _); refine dK ?_) <;> with_reducible refine wK ?_)
  | apply trivial)
  ·have hkl : k = a.length := by simp only [hlm, decide_eq_false_iff_not] at h1; omega
   subst hkl
   rw [show decide (a = b) = true from decide_eq_true (list_same g1 hno)]
   (have fct := hlm; (repeat' (first
  | refine gF ?_ | refine aE ?_ ?_
  | apply trivial)); all_goals clear fct)
 ·rw [show decide (a = b) = false from decide_eq_false fun h => g1 (by rw [h])]
  (have fct := And.intro hlm (And.intro hlm' (g1)); (repeat' (first
  | refine gF ?_ | refine aE ?_ ?_
  | apply trivial)); all_goals clear fct)
theorem mt78 : MapTy Tryz.prog 204 .string (.agg #[.string ByteArray.empty, .string ByteArray.empty]) := ⟨9, 130, by kernel_rfl, by kernel_rfl, fun w => Tryz.zeroValue130 w⟩
noncomputable def fnsT : List (Nat × Func) := [(13, Tryz.f13), (45, Tryz.f45), (51, Tryz.f51), (91, Tryz.f91), (15, Tryz.f15), (144, Tryz.f144), (89, Tryz.f89), (90, Tryz.f90), (139, Tryz.f139), (142, Tryz.f142), (145, Tryz.f145), (54, Tryz.f54), (180, Tryz.f180), (136, Tryz.f136), (137, Tryz.f137), (138, Tryz.f138), (177, Tryz.f177), (92, Tryz.f92), (93, Tryz.f93), (94, Tryz.f94), (95, Tryz.f95), (96, Tryz.f96), (97, Tryz.f97), (120, Tryz.f120), (171, Tryz.f171), (172, Tryz.f172), (173, Tryz.f173), (174, Tryz.f174), (175, Tryz.f175), (134, Tryz.f134), (133, Tryz.f133), (146, Tryz.f146), (122, Tryz.f122), (147, Tryz.f147), (148, Tryz.f148), (149, Tryz.f149), (130, Tryz.f130), (192, Tryz.f192), (193, Tryz.f193), (194, Tryz.f194), (168, Tryz.f168), (165, Tryz.f165), (166, Tryz.f166), (167, Tryz.f167), (79, Tryz.f79), (208, Tryz.f208), (209, Tryz.f209), (169, Tryz.f169), (220, Tryz.f220)]
def kindsT : List (Nat × IntKind) := [(3, .i64), (5, .u8), (21, .i32), (33, .i64)]
theorem fnsT_ok : ∀ p ∈ fnsT, Tryz.prog.funcs[p.1]? = some p.2 ∧ Callable Tryz.prog p.1 := List.forall_mem_cons.2 ⟨⟨Tryz.func13, c13⟩, List.forall_mem_cons.2 ⟨⟨Tryz.func45, c45⟩, List.forall_mem_cons.2 ⟨⟨Tryz.func51, c51⟩, List.forall_mem_cons.2 ⟨⟨Tryz.func91, c91⟩, List.forall_mem_cons.2 ⟨⟨Tryz.func15, c15⟩, List.forall_mem_cons.2 ⟨⟨Tryz.func144, c144⟩, List.forall_mem_cons.2 ⟨⟨Tryz.func89, c89⟩, List.forall_mem_cons.2 ⟨⟨Tryz.func90, c90⟩, List.forall_mem_cons.2 ⟨⟨Tryz.func139, c139⟩, List.forall_mem_cons.2 ⟨⟨Tryz.func142, c142⟩, List.forall_mem_cons.2 ⟨⟨Tryz.func145, c145⟩, List.forall_mem_cons.2 ⟨⟨Tryz.func54, c54⟩, List.forall_mem_cons.2 ⟨⟨Tryz.func180, c180⟩, List.forall_mem_cons.2 ⟨⟨Tryz.func136, c136⟩, List.forall_mem_cons.2 ⟨⟨Tryz.func137, c137⟩, List.forall_mem_cons.2 ⟨⟨Tryz.func138, c138⟩, List.forall_mem_cons.2 ⟨⟨Tryz.func177, c177⟩, List.forall_mem_cons.2 ⟨⟨Tryz.func92, c92⟩, List.forall_mem_cons.2 ⟨⟨Tryz.func93, c93⟩, List.forall_mem_cons.2 ⟨⟨Tryz.func94, c94⟩, List.forall_mem_cons.2 ⟨⟨Tryz.func95, c95⟩, List.forall_mem_cons.2 ⟨⟨Tryz.func96, c96⟩, List.forall_mem_cons.2 ⟨⟨Tryz.func97, c97⟩, List.forall_mem_cons.2 ⟨⟨Tryz.func120, c120⟩, List.forall_mem_cons.2 ⟨⟨Tryz.func171, c171⟩, List.forall_mem_cons.2 ⟨⟨Tryz.func172, c172⟩, List.forall_mem_cons.2 ⟨⟨Tryz.func173, c173⟩, List.forall_mem_cons.2 ⟨⟨Tryz.func174, c174⟩, List.forall_mem_cons.2 ⟨⟨Tryz.func175, c175⟩, List.forall_mem_cons.2 ⟨⟨Tryz.func134, c134⟩, List.forall_mem_cons.2 ⟨⟨Tryz.func133, c133⟩, List.forall_mem_cons.2 ⟨⟨Tryz.func146, c146⟩, List.forall_mem_cons.2 ⟨⟨Tryz.func122, c122⟩, List.forall_mem_cons.2 ⟨⟨Tryz.func147, c147⟩, List.forall_mem_cons.2 ⟨⟨Tryz.func148, c148⟩, List.forall_mem_cons.2 ⟨⟨Tryz.func149, c149⟩, List.forall_mem_cons.2 ⟨⟨Tryz.func130, c130⟩, List.forall_mem_cons.2 ⟨⟨Tryz.func192, c192⟩, List.forall_mem_cons.2 ⟨⟨Tryz.func193, c193⟩, List.forall_mem_cons.2 ⟨⟨Tryz.func194, c194⟩, List.forall_mem_cons.2 ⟨⟨Tryz.func168, c168⟩, List.forall_mem_cons.2 ⟨⟨Tryz.func165, c165⟩, List.forall_mem_cons.2 ⟨⟨Tryz.func166, c166⟩, List.forall_mem_cons.2 ⟨⟨Tryz.func167, c167⟩, List.forall_mem_cons.2 ⟨⟨Tryz.func79, c79⟩, List.forall_mem_cons.2 ⟨⟨Tryz.func208, c208⟩, List.forall_mem_cons.2 ⟨⟨Tryz.func209, c209⟩, List.forall_mem_cons.2 ⟨⟨Tryz.func169, c169⟩, List.forall_mem_cons.2 ⟨⟨Tryz.func220, c220⟩, fun _ h => by simp at h⟩⟩⟩⟩⟩⟩⟩⟩⟩⟩⟩⟩⟩⟩⟩⟩⟩⟩⟩⟩⟩⟩⟩⟩⟩⟩⟩⟩⟩⟩⟩⟩⟩⟩⟩⟩⟩⟩⟩⟩⟩⟩⟩⟩⟩⟩⟩⟩⟩
theorem kindsT_ok : ∀ p ∈ kindsT, Tryz.prog.underlying p.1 = some (.int p.2) := List.forall_mem_cons.2 ⟨by kernel_rfl, List.forall_mem_cons.2 ⟨by kernel_rfl, List.forall_mem_cons.2 ⟨by kernel_rfl, List.forall_mem_cons.2 ⟨by kernel_rfl, fun _ h => by simp at h⟩⟩⟩⟩
def mapsT : MEnv := [(135, .int .i64, .int .i64 0), (204, .string, .agg #[.string ByteArray.empty, .string ByteArray.empty])]
theorem mapsT_ok : MEnv.Good Tryz.prog mapsT := List.forall_mem_cons.2 ⟨mt74, List.forall_mem_cons.2 ⟨mt78, fun _ h => by simp at h⟩⟩
theorem i32_run (s t : TypeId) (c : Int) (h1 : Tryz.prog.underlying s = some (.int .i32)) (h2 : Tryz.prog.underlying t = some .string) : ∀ w, (convert s t (.int .i32 c)).run Tryz.prog w = .ok (.string (Utf8.encode c)) w :=
 fun w => run_convert_int_string w s t .i32 c (by rw [h1]; rfl) h2
theorem enc_size (c : Int) : (Utf8.encode c).size ≤ 4 := by
 unfold Utf8.encode
 simp only
 repeat' split
 all_goals exact Nat.le_of_ble_eq_true rfl
@[reducible] def aB : ByteArray := ⟨#[97]⟩
def wordB (r : Nat) : Bool := !rightS (aB ++ Utf8.encode (r : Int))
theorem f209_ok (c : Int) : FnOK Tryz.prog 209 [] [eRune c] [] (eBool (!rightS (aB ++ Utf8.encode c))) := by
 have hsz := enc_size c
 have ha : aB.size = 1 := rfl
 refine FnOK.startC (rvs := [.tmp 2]) G G_good Tryz.func209 rfl Tryz.ntmps209 rfl rfl ?_; with_reducible refine wD ?_
 refine ConvK.mk _ (i32_run 21 9 c (by kernel_rfl) (by kernel_rfl)) ?_; with_reducible refine wK ?_
 refine NeedK.mk (by have := enc_size c; have h1 : (⟨⟨[97]⟩⟩ : ByteArray).size = 1 := rfl; omega) ?_; with_reducible refine wK ?_
 refine cL (f139_ok _) c139 ?_; with_reducible refine wK ?_
 (refine eK ?_ ?_ <;> with_reducible repeat' (first | exact trivial | (show _ ∧ _; refine aK ?_ ?_)))
 all_goals first | rfl
theorem f178_word (s : ByteArray) : FnOK Tryz.prog 178 [] [eStr s, .lit (.func (.func 209) #[] #[])] [] (eInt (Lib.idxFunc wordB true s)) :=
 FnOK.of_calls (vs := [.string s, .func (.func 209) #[] #[]]) fun w ht => f178_calls 209 c209 wordB s w ht fun W x ht _ => (f209_ok (x : Int)).below (vs := [.int .i32 (x : Int)]) W ht
theorem f195_nil : FnOK Tryz.prog 195 [.live 2 [.agg [.lit (.pointer none), .lit (.slice none 0 0)]] false] [.ptr 0 0 0] [.live 2 [.agg [.lit (.pointer none), .lit (.slice none 0 0)]] false] (eStr ⟨#[]⟩) := by
 refine FnOK.startC (rvs := [.tmp 2]) G G_good Tryz.func195 rfl Tryz.ntmps195 rfl rfl ?_; with_reducible refine wD ?_
 refine ⟨[], .lit (.pointer none), [], EffOK.lits (ρ := fun _ => .slice none 0 0) (r := .pointer none) (by simp) (fun y hy => ?_) (fun w => ?_) (dst_ok rfl), ?_⟩
 ·simp [Op.operands, Call.operands] at hy
  subst hy
  rfl
 ·kernel_rfl
 with_reducible refine wK ?_
 refine ⟨[], .lit (.string ⟨#[]⟩), [], EffOK.lits (ρ := fun y => match y with | .tmp 7 => .pointer none | _ => .int .i64 0) (r := .string ⟨#[]⟩) (by simp) (fun y hy => ?_) (fun w => ?_) (dst_ok rfl), ?_⟩
 ·simp [Op.operands, Call.operands] at hy
  rcases hy with rfl | rfl <;> rfl
 ·kernel_rfl
 with_reducible refine wK ?_
 refine dK ?_; with_reducible refine wK ?_
 (refine eK ?_ ?_ <;> with_reducible repeat' (first | exact trivial | (show _ ∧ _; refine aK ?_ ?_)))
 all_goals first | rfl | exact .inl rfl | exact ⟨rfl, rfl⟩
def orcA : CallT := fun g ins args => match g with
 | 91 => match ins, args with
   | [], [.lit (.string s)] => some ([], eBool (customS s))
   | _, _ => none
 | 139 => match ins, args with
   | [], [.lit (.string s)] => some ([], eBool (rightS s))
   | _, _ => none
 | 134 => match ins, args with
   | [], [.lit (.string s)] => some ([], .tup [eStr (if rightS s then lowS s else ⟨#[]⟩), eInt (if rightS s then 0 else 4)])
   | _, _ => none
 | 178 => match ins, args with
   | [], [.lit (.string s), .lit (.func (.func 209) a b)] => match a.toList, b.toList with
     | [], [] => some ([], eInt (Lib.idxFunc wordB true s))
     | _, _ => none
   | _, _ => none
 | 195 => match ins, args with
   | [.live 2 [.agg [.lit (.pointer none), .lit (.slice none 0 0)]] false], [.ptr 0 0 0] => some ([.live 2 [.agg [.lit (.pointer none), .lit (.slice none 0 0)]] false], eStr ⟨#[]⟩)
   | _, _ => none
 | _ => none
theorem orcA_ok : ∀ g ins args outs res, orcA g ins args = some (outs, res) → FnOK Tryz.prog g ins args outs res ∧ Callable Tryz.prog g := by
 intro g ins args outs res h
 unfold orcA at h
 split at h
 ·split at h
  ·cases h; exact ⟨f91_ok _, c91⟩
  ·cases h
 ·split at h
  ·cases h; exact ⟨f139_ok _, c139⟩
  ·cases h
 ·split at h
  ·cases h; exact ⟨f134_ok _, c134⟩
  ·cases h
 ·split at h
  ·split at h
   ·rename_i ha hb
    cases h
    rename_i a b _ _
    obtain rfl := (Array.ext' ha : _ = #[])
    obtain rfl := (Array.ext' hb : _ = #[])
    exact ⟨f178_word _, c178⟩
   ·cases h
  ·cases h
 ·split at h
  ·cases h; exact ⟨f195_nil, c195⟩
  ·cases h
 ·cases h
noncomputable def envA : EEnv := ⟨G, mapsT, fnsT, kindsT, orcA⟩
theorem envA_good : envA.Good Tryz.prog := ⟨G_good, mapsT_ok, fnsT_ok, kindsT_ok, orcA_ok, by kernel_rfl⟩

def awA : ByteArray := ⟨#[120, 45, 97]⟩
end Go.Proofs.Heir
namespace Go.Proofs
open Go.Shelf
def Tryz.lays169_ren : Go.Shelf.Ren := ⟨fun | 169 => 195 | n => n, fun | 70 => 221 | 9 => 9 | 0 => 0 | 72 => 223 | 37 => 182 | 127 => 240 | 3 => 3 | 5 => 5 | n => n, fun | n => n⟩
theorem Tryz.lays169 : Go.Proofs.Lays.n169 Tryz.prog Tryz.lays169_ren := {
 mixed := by kernel_rfl
 f169 := Tryz.func195.trans (congrArg some (by kernel_rfl))
 t0 := Tryz.underlying0
 a0 := Tryz.isAgg0
 z0 := Tryz.sizeOf0
 v0 := Tryz.zeroValue0
 t3 := Tryz.underlying3
 a3 := Tryz.isAgg3
 z3 := Tryz.sizeOf3
 v3 := Tryz.zeroValue3
 t9 := Tryz.underlying9
 a9 := Tryz.isAgg9
 z9 := Tryz.sizeOf9
 v9 := Tryz.zeroValue9
 t37 := Tryz.underlying182
 a37 := Tryz.isAgg182
 z37 := Tryz.sizeOf182
 v37 := Tryz.zeroValue182
 t70 := Tryz.underlying221
 a70 := Tryz.isAgg221
 z70 := Tryz.sizeOf221
 v70 := Tryz.zeroValue221
 t72 := Tryz.underlying223
 a72 := Tryz.isAgg223
 z72 := Tryz.sizeOf223
 v72 := Tryz.zeroValue223
 t127 := Tryz.underlying240
 a127 := Tryz.isAgg240
 z127 := Tryz.sizeOf240
 v127 := Tryz.zeroValue240 }
theorem Tryz.Builder_Extra_169 : Builder.Extra Tryz.prog Tryz.lays169_ren := {
 sizeBuilder := by kernel_rfl
 liesBuilder := by kernel_rfl
 t5 := Tryz.underlying5
 a5 := Tryz.isAgg5
 z5 := Tryz.sizeOf5
 v5 := Tryz.zeroValue5
 infoByte := by kernel_rfl
 cellsByte := by kernel_rfl
 sizeByte := by kernel_rfl
 neB5 := by decide }
open Go.RowKit in
theorem Tryz.Builder_String_any (B b : Nat) (l : List UInt8) (w : World) (h : Lib.IsBuilder 223 5 B b (Lib.byteCells l) w) (hBw : B ≤ w.heap.size) :
  Calls Tryz.prog 195 #[.pointer (some ⟨b, 0, none⟩)] w fun e w' => e = .returned (.string ⟨l.toArray⟩) ∧ Below B w w' := Any.Builder_String_any Tryz.lays169 Tryz.Builder_Extra_169 B b l w h hBw
def Tryz.lays167_ren : Go.Shelf.Ren := ⟨fun | 167 => 196 | 240 => 210 | 276 => 221 | n => n, fun | 0 => 0 | 4 => 4 | 5 => 5 | 9 => 9 | 20 => 20 | 37 => 182 | 70 => 221 | 72 => 223 | 75 => 159 | 80 => 209 | 164 => 228 | n => n, fun | n => n⟩
theorem Tryz.lays167 : Go.Proofs.Lays.n167 Tryz.prog Tryz.lays167_ren := {
 mixed := by kernel_rfl
 f167 := Tryz.func196.trans (congrArg some (by kernel_rfl))
 f240 := Tryz.func210.trans (congrArg some (by kernel_rfl))
 f276 := Tryz.func221.trans (congrArg some (by kernel_rfl))
 t0 := Tryz.underlying0
 a0 := Tryz.isAgg0
 z0 := Tryz.sizeOf0
 v0 := Tryz.zeroValue0
 t4 := Tryz.underlying4
 a4 := Tryz.isAgg4
 z4 := Tryz.sizeOf4
 v4 := Tryz.zeroValue4
 t5 := Tryz.underlying5
 a5 := Tryz.isAgg5
 z5 := Tryz.sizeOf5
 v5 := Tryz.zeroValue5
 t9 := Tryz.underlying9
 a9 := Tryz.isAgg9
 z9 := Tryz.sizeOf9
 v9 := Tryz.zeroValue9
 t20 := Tryz.underlying20
 a20 := Tryz.isAgg20
 z20 := Tryz.sizeOf20
 v20 := Tryz.zeroValue20
 t37 := Tryz.underlying182
 a37 := Tryz.isAgg182
 z37 := Tryz.sizeOf182
 v37 := Tryz.zeroValue182
 t70 := Tryz.underlying221
 a70 := Tryz.isAgg221
 z70 := Tryz.sizeOf221
 v70 := Tryz.zeroValue221
 t72 := Tryz.underlying223
 a72 := Tryz.isAgg223
 z72 := Tryz.sizeOf223
 v72 := Tryz.zeroValue223
 t75 := Tryz.underlying159
 a75 := Tryz.isAgg159
 z75 := Tryz.sizeOf159
 v75 := Tryz.zeroValue159
 t164 := Tryz.underlying228
 a164 := Tryz.isAgg228
 z164 := Tryz.sizeOf228
 v164 := Tryz.zeroValue228 }
theorem Tryz.Builder_Extra_167 : Builder.Extra Tryz.prog Tryz.lays167_ren := {
 sizeBuilder := by kernel_rfl
 liesBuilder := by kernel_rfl
 t5 := Tryz.underlying5
 a5 := Tryz.isAgg5
 z5 := Tryz.sizeOf5
 v5 := Tryz.zeroValue5
 infoByte := by kernel_rfl
 cellsByte := by kernel_rfl
 sizeByte := by kernel_rfl
 neB5 := by decide }
open Go.RowKit in
theorem Tryz.Builder_WriteByte (B b : Nat) (bs : List Value) (c : Int) (w : World) (h : Lib.IsBuilder 223 5 B b bs w) (hlen : bs.length + 1 ≤ 140737488355328) (hBw : B ≤ w.heap.size) :
  Calls Tryz.prog 196 #[.pointer (some ⟨b, 0, none⟩), .int .u8 c] w fun e w' => e = .returned .nilIface ∧ (Lib.BuilderAt 223 5 B b (.pointer (some ⟨b, 0, none⟩)) (bs ++ [.int .u8 c]) w' ∧ Below B w w') := Any.Builder_WriteByte Tryz.lays167 Tryz.Builder_Extra_167 B b bs c w h hlen hBw
end Go.Proofs
namespace Go.Proofs.Heir
open Go Go.Am Go.RowKit Go.Shelf
set_option maxRecDepth 100000
set_option maxHeartbeats 8000000
theorem setCell_heap (w : World) (a : Addr) (u : Value) (k : Nat) : (w.setCell a u).heap[k]? = if k = a.block then (w.heap[k]?).map (fun o => match (w.setCell a u).heap[k]? with | some o' => o' | none => o) else w.heap[k]? := by
 by_cases h : k = a.block
 ·subst h
  rw [if_pos rfl]
  unfold World.setCell
  simp only [Array.getElem?_modify, if_true]
  cases w.heap[a.block]? <;> rfl
 ·rw [if_neg h]
  unfold World.setCell
  simp only [Array.getElem?_modify]
  rw [if_neg (fun e => h e.symm)]
theorem setCell_ne (w : World) (a : Addr) (u : Value) {k : Nat} (h : k ≠ a.block) : (w.setCell a u).heap[k]? = w.heap[k]? := by rw [setCell_heap, if_neg h]
theorem setCell_same {w w' : World} (a : Addr) (u : Value) (h : w'.heap[a.block]? = w.heap[a.block]?) : (w'.setCell a u).heap[a.block]? = (w.setCell a u).heap[a.block]? := by
 unfold World.setCell
 simp only [Array.getElem?_modify, if_true, h]
theorem below_both {B : Nat} {w w' : World} (h : Below B w w') (a : Addr) (u : Value) (ha : a.block < B) : Below B (w.setCell a u) (w'.setCell a u) where
 os := h.os
 tape := h.tape
 output := h.output
 size := by have := h.size; simpa [World.setCell] using this
 block k hk := by
  by_cases e : k = a.block
  ·subst e; exact setCell_same a u (h.block _ hk)
  ·rw [setCell_ne _ _ _ e, setCell_ne _ _ _ e]; exact h.block k hk
theorem builder_setCell {T e : TypeId} {B b : Nat} {bs : List Value} {w : World} (h : Lib.IsBuilder T e B b bs w) (a : Addr) (ha : a.block < B) (u : Value) : Lib.IsBuilder T e B b bs (w.setCell a u) := by
 rcases h with ⟨hB, v, hb, hown, hne⟩ | ⟨hB, v, hb, hown, hne⟩
 ·exact .inl ⟨hB, v, (setCell_ne w a u (by omega)).trans hb, ownsRow_setCell_below hown ha u, hne⟩
 ·exact .inr ⟨hB, v, (setCell_ne w a u (by omega)).trans hb, ownsRow_setCell_below hown ha u, hne⟩
theorem quoted_calls (w : World) (b o : Nat) (body tail : List UInt8) (hb : ∀ c ∈ body, c ≠ 34 ∧ c ≠ 92) (hsz : body.length + tail.length ≤ 100000) (Q : World → Prop)
  (hm : Calls Tryz.prog 194 #[.pointer (some ⟨b, o, none⟩), .string ⟨#[34]⟩] w fun e w1 => e = .returned (.tuple #[]) ∧ Q w1)
  (hQ : ∀ w1, Q w1 → w1.cell? ⟨b, o + 3, none⟩ = some (.string ⟨(body ++ 34 :: tail).toArray⟩) ∧ w1.frozen? ⟨b, o + 3, none⟩ = false) :
  Calls Tryz.prog 175 #[.pointer (some ⟨b, o, none⟩)] w fun e w' => e = .returned (.string ⟨body.toArray⟩) ∧ ∃ w1, Q w1 ∧ Below w1.heap.size (w1.setCell ⟨b, o + 3, none⟩ (.string ⟨tail.toArray⟩)) w' := by
 go_enter Tryz.func175, Tryz.ntmps175
 go_wp2_with (go_at_call 194; refine hm.mono ?_; rintro e w1 ⟨rfl, hq⟩)
 obtain ⟨c1, f1⟩ := hQ w1 hq
 have hlt := World.block_lt_of_cell? _ _ c1
 have hsl : (ByteArray.mk (body ++ 34 :: tail).toArray).size = body.length + (tail.length + 1) := by simp [ByteArray.size]
 go_loopw [4] (fun i wr => ∃ k : Nat, k ≤ body.length ∧ i = .int .i64 k ∧ Lib.IsBuilder 223 5 w1.heap.size w1.heap.size (Lib.byteCells (body.take k)) wr ∧ Below w1.heap.size w1 wr ∧ w1.heap.size ≤ wr.heap.size) (fun i _ => body.length + 1 - (intOf i).toNat)
 case atStart => exact ⟨0, Nat.zero_le _, rfl, Lib.fresh_isBuilder 223 5 w1, (Below.refl _ w1).alloc (Nat.le_refl _) _, by simp⟩
 case round =>
  obtain ⟨k, hk, rfl, hbd, hbl, hsz2⟩ := hrel
  have c2 : wr.cell? ⟨b, o + 3, none⟩ = some (.string ⟨(body ++ 34 :: tail).toArray⟩) := (hbl.cell (p := ⟨b, o + 3, none⟩) hlt).trans c1
  have f2 : wr.frozen? ⟨b, o + 3, none⟩ = false := (hbl.frozen (p := ⟨b, o + 3, none⟩) hlt).trans f1
  have hklt : k < body.length + (tail.length + 1) := by omega
  by_cases hkb : k < body.length
  ·have hkS : k < (ByteArray.mk (body ++ 34 :: tail).toArray).size := by rw [hsl]; omega
   have hgk : (ByteArray.mk (body ++ 34 :: tail).toArray)[k]'hkS = body[k] := by
    show (body ++ 34 :: tail).toArray[k] = _
    rw [List.getElem_toArray, List.getElem_append_left hkb]
   obtain ⟨m, hm⟩ : ∃ m : UInt8, body[k] = m := ⟨_, rfl⟩
   have hmm := hb m (by rw [← hm]; exact List.getElem_mem hkb)
   have q1 : ((m.toNat : Int) == 34) = false := by
    rw [beq_eq_false_iff_ne]; intro h; exact hmm.1 (UInt8.toNat_inj.1 (by show m.toNat = 34; omega))
   have q2 : ((m.toNat : Int) == 92) = false := by
    rw [beq_eq_false_iff_ne]; intro h; exact hmm.2 (UInt8.toNat_inj.1 (by show m.toNat = 92; omega))
   have q3 : ¬ (m.toNat : Int) = 34 := by simpa using q1
   have q4 : ¬ (m.toNat : Int) = 92 := by simpa using q2
   rw [hm] at hgk
   have hwb := Tryz.Builder_WriteByte w1.heap.size w1.heap.size (Lib.byteCells (body.take k)) m.toNat wr hbd (by rw [show (Lib.byteCells (body.take k)).length = (body.take k).length from List.length_map .., List.length_take]; omega) hsz2
   have htk : Lib.byteCells (body.take k) ++ [.int .u8 (m.toNat : Int)] = Lib.byteCells (body.take (k + 1)) := by
    rw [List.take_add_one, List.getElem?_eq_getElem hkb, hm]
    simp [Lib.byteCells]
   rw [htk] at hwb
   clear hb hmm hsl
   go_wp2_with (go_at_call 196; refine hwb.mono ?_; rintro e w2 ⟨rfl, h2, h3⟩)
   exact ⟨⟨k + 1, hkb, by congr 1, .inr h2, hbl.trans h3, by have := h3.size; omega⟩, by simp [intOf]; omega⟩
  ·obtain rfl : k = body.length := by omega
   have hkS : body.length < (ByteArray.mk (body ++ 34 :: tail).toArray).size := by rw [hsl]; omega
   have hgk : (ByteArray.mk (body ++ 34 :: tail).toArray)[body.length]'hkS = 34 := by
    show (body ++ 34 :: tail).toArray[body.length] = _
    rw [List.getElem_toArray, List.getElem_append_right (Nat.le_refl _)]
    simp
   have hex : (ByteArray.mk (body ++ 34 :: tail).toArray).extract (body.length + 1) (body.length + (tail.length + 1)) = ⟨tail.toArray⟩ := by
    rw [cut_strOf]
    show strOf (((body ++ 34 :: tail).take (body.length + (tail.length + 1))).drop (body.length + 1)) = strOf tail
    rw [List.take_of_length_le (by simp), show body ++ 34 :: tail = (body ++ [34]) ++ tail by simp, List.drop_left' (by simp)]
   rw [List.take_length] at hbd
   have hst := Tryz.Builder_String_any w1.heap.size w1.heap.size body (wr.setCell ⟨b, o + 3, none⟩ (.string ⟨tail.toArray⟩)) (builder_setCell hbd ⟨b, o + 3, none⟩ hlt _) (by simpa [World.setCell] using hsz2)
   have h34 : ((34 : UInt8).toNat : Int) = 34 := rfl
   clear hb
   go_wp2_with (go_at_call 195; refine hst.mono ?_; rintro e w2 ⟨rfl, h3⟩)
   go_ret
   exact ⟨rfl, w1, hq, (below_both hbl _ _ hlt).trans h3⟩
theorem setCell_row {w : World} {b j : Nat} {C : Array Value} {e : TypeId} {fz : Nat × Nat} (hC : w.heap[b]? = some (.cells C e fz)) (u : Value) : w.setCell ⟨b, j, none⟩ u = w.setRow b (C.setIfInBounds j u) := by
 unfold World.setCell World.setRow
 congr 1
 apply Array.ext_getElem?
 intro k
 simp only [Array.getElem?_modify]
 by_cases e : b = k
 ·subst e; simp [hC]
 ·simp [e]
theorem f175_ok (x0 x1 x2 : AV) (s0 : ByteArray) (body tail : List UInt8) (rest : List MS) (hb : ∀ c ∈ body, c ≠ 34 ∧ c ≠ 92) (hsz : body.length + tail.length ≤ 100000)
  (h126 : FnOK Tryz.prog 194 (.live 5 [.agg [x0, x1, x2, .lit (.string s0), .lit (.bool false)]] false :: rest) [.ptr 0 0 0, .lit (.string ⟨#[34]⟩)] (.live 5 [.agg [x0, x1, x2, .lit (.string ⟨(body ++ 34 :: tail).toArray⟩), .lit (.bool false)]] false :: rest) (.tup [])) :
  FnOK Tryz.prog 175 (.live 5 [.agg [x0, x1, x2, .lit (.string s0), .lit (.bool false)]] false :: rest) [.ptr 0 0 0] (.live 5 [.agg [x0, x1, x2, .lit (.string ⟨tail.toArray⟩), .lit (.bool false)]] false :: rest) (.lit (.string ⟨body.toArray⟩)) := by
 intro w W0 L vs hL hs hr
 obtain ⟨v, us, rfl, hv, hus⟩ := RepL.uncons hr
 obtain rfl := RepL.unnil hus
 obtain ⟨B, hB, hmp, rfl⟩ : ∃ B, L 0 = some B ∧ B.mp = false ∧ v = .pointer (some ⟨B.b, B.o + (0 * B.wd + 0), none⟩) := by cases hv with | ptr h1 h2 => exact ⟨_, h1, h2, rfl⟩
 rw [Nat.zero_mul, Nat.zero_add, Nat.add_zero] at hv
 rw [Nat.zero_mul, Nat.zero_add, Nat.add_zero]
 have look : ∀ (s1 : ByteArray) (μ' : Mu) (w1 : World), Sim Tryz.prog 0 w W0 L μ' (bare (.live 5 [.agg [x0, x1, x2, .lit (.string s1), .lit (.bool false)]] false :: rest)) noAct w1 → μ' 0 = some B ∧ ObjAt (Wr W0 μ' (objsOf (.live 5 [.agg [x0, x1, x2, .lit (.string s1), .lit (.bool false)]] false :: rest))) μ' w1 B 5 [.agg [x0, x1, x2, .lit (.string s1), .lit (.bool false)]] false := by
  intro s1 μ' w1 hs1
  obtain ⟨B', hB', ho⟩ := hs1.objs 0 5 _ false rfl
  have h := hs1.lentμ 0 B (by decide) hB
  rw [h] at hB'
  cases hB'
  exact ⟨h, ho⟩
 refine (quoted_calls w B.b B.o body tail hb hsz (fun w1 => ∃ μ', Sim Tryz.prog 0 w W0 L μ' (bare (.live 5 [.agg [x0, x1, x2, .lit (.string ⟨(body ++ 34 :: tail).toArray⟩), .lit (.bool false)]] false :: rest)) noAct w1) ?_ ?_).mono ?_
 ·refine (h126 w W0 L [.pointer (some ⟨B.b, B.o, none⟩), .string ⟨#[34]⟩] hL hs (.cons hv (.cons .lit .nil))).mono ?_
  rintro e w1 ⟨u, μ', rfl, hs1, hu⟩
  cases hu with
  | tup h1 h2 =>
    rename_i vs
    obtain rfl : vs = [] := List.eq_nil_of_length_eq_zero h1
    exact ⟨rfl, μ', hs1⟩
 ·rintro w1 ⟨μ', hs1⟩
  obtain ⟨h1, ho⟩ := look _ μ' w1 hs1
  obtain ⟨u, hu1, hu2⟩ := ho.cell hmp 3 (.lit (.string ⟨(body ++ 34 :: tail).toArray⟩)) rfl
  have hvirt := ho.real (i := 0) rfl
  obtain ⟨C, e, fz, c1, c2, _⟩ := ho.blk hvirt hmp
  rw [c2 rfl] at c1
  refine ⟨?_, Lib.frozen_of_heap c1 _⟩
  rw [hu1]; cases hu2; rfl
 ·rintro e w' ⟨rfl, w1, ⟨μ', hs1⟩, hbel⟩
  obtain ⟨h1, ho⟩ := look _ μ' w1 hs1
  have hvirt := ho.real (i := 0) rfl
  obtain ⟨C, e, fz, c1, c2, c3⟩ := ho.blk hvirt hmp
  rw [c2 rfl] at c1
  have hset := hs1.setObj (t := 0) (rows' := [.agg [x0, x1, x2, .lit (.string ⟨tail.toArray⟩), .lit (.bool false)]]) (C' := C.setIfInBounds (B.o + 3) (.string ⟨tail.toArray⟩)) rfl h1 hvirt hmp c1 (by simp) rfl (Wide.of_mem fun r hr => by rw [List.mem_singleton] at hr; subst hr; rfl) (fun q c hc => ?_)
  ·rw [← setCell_row c1] at hset
   refine ⟨_, μ', rfl, ?_, .lit⟩
   have hm := hset.more (w' := w') ⟨hbel.os, hbel.tape, hbel.output, hbel.size, fun k hk => hbel.block k (by simpa [World.setCell] using hk)⟩
   have e : (⟨(bare (.live 5 [.agg [x0, x1, x2, .lit (.string ⟨(body ++ 34 :: tail).toArray⟩), .lit (.bool false)]] false :: rest)).slots, updM (bare (.live 5 [.agg [x0, x1, x2, .lit (.string ⟨(body ++ 34 :: tail).toArray⟩), .lit (.bool false)]] false :: rest)).mem [(0, .live 5 [.agg [x0, x1, x2, .lit (.string ⟨tail.toArray⟩), .lit (.bool false)]] false)]⟩ : AState) = bare (.live 5 [.agg [x0, x1, x2, .lit (.string ⟨tail.toArray⟩), .lit (.bool false)]] false :: rest) := by
    unfold bare
    congr 1
    funext t
    cases t with
    | zero => rfl
    | succ t => rfl
   rw [e] at hm
   exact hm
  ·have hq5 : q < 5 := by
    have := (List.getElem?_eq_some_iff.1 hc).1
    simpa [flat, cells] using this
   by_cases h3 : q = 3
   ·subst h3
    obtain rfl : AV.lit (.string ⟨tail.toArray⟩) = c := Option.some.inj hc
    refine ⟨_, ?_, .lit⟩
    rw [Array.getElem?_setIfInBounds_self_of_lt]
    have : [AV.agg [x0, x1, x2, .lit (.string ⟨(body ++ 34 :: tail).toArray⟩), .lit (.bool false)]].length * 5 = 5 := rfl
    omega
   ·have hc' : (flat [AV.agg [x0, x1, x2, .lit (.string ⟨(body ++ 34 :: tail).toArray⟩), .lit (.bool false)]])[q]? = some c := by
     rw [← hc]
     match q, hq5, h3 with
     | 0, _, _ => rfl
     | 1, _, _ => rfl
     | 2, _, _ => rfl
     | 4, _, _ => rfl
    obtain ⟨u, hu1, hu2⟩ := ho.cell hmp q c hc'
    rw [Lib.cell_of_heap c1] at hu1
    exact ⟨u, by rw [Array.getElem?_setIfInBounds_ne (by omega)]; exact hu1, hu2⟩
end Go.Proofs.Heir
namespace Go.Proofs.Heir
open Go Go.Am Go.RowKit Go.Lib
set_option maxRecDepth 100000
set_option maxHeartbeats 8000000
def dIns (s : ByteArray) : List MS := [.live 5 [.agg [.own 1 0 2, .lit (.int .i64 (400)), .lit (.int .i64 (0)), .lit (.string s), .lit (.bool false)]] false, .live 10 [.agg [.lit (.int .i64 (0)), .lit (.string ⟨⟨[]⟩⟩), .lit (.string ⟨⟨[]⟩⟩), .lit (.string ⟨⟨[]⟩⟩), .lit (.slice none 0 0), .lit (.int .i64 (-1)), .lit (.slice none 0 0), .lit (.int .i64 (-1)), .lit (.int .i64 (-1)), .lit (.int .i64 (0))], .agg [.lit (.int .i64 (1)), .lit (.string ⟨⟨[102, 111, 114, 109]⟩⟩), .lit (.string ⟨⟨[]⟩⟩), .lit (.string ⟨⟨[]⟩⟩), .lit (.slice none 0 0), .lit (.int .i64 (-1)), .lit (.slice none 0 0), .lit (.int .i64 (-1)), .lit (.int .i64 (-1)), .lit (.int .i64 (0))]] false]
def dm1 : Ans := ⟨194, dIns ⟨⟨[34, 34, 62, 60, 47, 120, 45, 97, 62, 60, 47, 102, 111, 114, 109, 62]⟩⟩, [.ptr 0 0 0, .lit (.string ⟨⟨[34]⟩⟩)], dIns ⟨⟨[34, 62, 60, 47, 120, 45, 97, 62, 60, 47, 102, 111, 114, 109, 62]⟩⟩, .tup []⟩
theorem dm1_run : runF envA 1000 60 dm1.g dm1.ins dm1.args = some (dm1.outs, dm1.res) := by kernel_rfl
def dq1 : Ans := ⟨175, dIns ⟨⟨[34, 34, 62, 60, 47, 120, 45, 97, 62, 60, 47, 102, 111, 114, 109, 62]⟩⟩, [.ptr 0 0 0], dIns ⟨⟨[62, 60, 47, 120, 45, 97, 62, 60, 47, 102, 111, 114, 109, 62]⟩⟩, .lit (.string ⟨⟨[]⟩⟩)⟩
theorem dq1_ok : dq1.OK Tryz.prog := ⟨f175_ok (.own 1 0 2) (.lit (.int .i64 400)) (.lit (.int .i64 0)) _ [] [62, 60, 47, 120, 45, 97, 62, 60, 47, 102, 111, 114, 109, 62] _ (by decide) (by decide) (Ans.of envA_good dm1_run).1, c175⟩
theorem dq_ok : ∀ r ∈ [dq1], r.OK Tryz.prog := Ans.cons dq1_ok (fun _ h => by cases h)
def dR : Ans := ⟨51, [], [.lit (.string ⟨⟨[60, 102, 111, 114, 109, 62, 60, 120, 45, 97, 32, 100, 105, 115, 97, 98, 108, 101, 100, 61, 34, 34, 62, 60, 47, 120, 45, 97, 62, 60, 47, 102, 111, 114, 109, 62]⟩⟩), .lit (.int .i64 (9))], [.live 10 [.agg [.lit (.int .i64 (0)), .lit (.string ⟨⟨[]⟩⟩), .lit (.string ⟨⟨[]⟩⟩), .lit (.string ⟨⟨[]⟩⟩), .lit (.slice none 0 0), .lit (.int .i64 (-1)), .lit (.slice none 0 0), .lit (.int .i64 (-1)), .lit (.int .i64 (-1)), .lit (.int .i64 (0))], .agg [.lit (.int .i64 (1)), .lit (.string ⟨⟨[102, 111, 114, 109]⟩⟩), .lit (.string ⟨⟨[]⟩⟩), .lit (.string ⟨⟨[]⟩⟩), .lit (.slice none 0 0), .lit (.int .i64 (-1)), .own 1 0 1, .lit (.int .i64 (-1)), .lit (.int .i64 (-1)), .lit (.int .i64 (0))], .agg [.lit (.int .i64 (1)), .lit (.string ⟨⟨[120, 45, 97]⟩⟩), .lit (.string ⟨⟨[]⟩⟩), .lit (.string ⟨⟨[]⟩⟩), .own 2 0 1, .lit (.int .i64 (1)), .lit (.slice none 0 0), .lit (.int .i64 (-1)), .lit (.int .i64 (-1)), .lit (.int .i64 (0))]] false, .live 1 [.lit (.int .i64 (2))] false, .live 2 [.agg [.lit (.string ⟨⟨[100, 105, 115, 97, 98, 108, 101, 100]⟩⟩), .lit (.string ⟨⟨[]⟩⟩)]] false], .tup [.agg [.own 0 0 3, .lit (.int .i64 (9))], .lit (.int .i64 (1)), .lit (.int .i64 (0))]⟩
theorem dR_run : runF (envA.more [dq1]) 1000 60 dR.g dR.ins dR.args = some (dR.outs, dR.res) := by kernel_rfl
theorem dR_ok : dR.OK Tryz.prog := Ans.of (EEnv.more_good envA_good dq_ok) dR_run
def dT : ByteArray := ⟨⟨[60, 102, 111, 114, 109, 62, 60, 120, 45, 97, 32, 100, 105, 115, 97, 98, 108, 101, 100, 61, 34, 34, 62, 60, 47, 120, 45, 97, 62, 60, 47, 102, 111, 114, 109, 62]⟩⟩
def dsW : ByteArray := ⟨#[100, 105, 115, 97, 98, 108, 101, 100]⟩
def dF : ForM := ⟨[⟨0, ⟨#[]⟩, ⟨#[]⟩, ⟨#[]⟩, [], -1, [], -1, -1, 0⟩, ⟨1, ⟨#[102, 111, 114, 109]⟩, ⟨#[]⟩, ⟨#[]⟩, [], -1, [2], -1, -1, 0⟩, ⟨1, awA, ⟨#[]⟩, ⟨#[]⟩, [⟨dsW, ⟨#[]⟩⟩], 1, [], -1, -1, 0⟩], 9⟩
theorem dfresh_ok : FnOK Tryz.prog 51 [] [eStr dT, eInt 9] [] (.tup [eFor dF, eInt 1, eInt 0]) := by
 have h := dR_ok.1
 refine FnOK.frozen (objsR 0 dR.outs) ?_ (by kernel_rfl) h ?_
 ·funext t
  match t with
  | 0 => rfl
  | 1 => rfl
  | 2 => rfl
  | n + 3 => rfl
 ·have nil2 : ∀ wd, NilK (.sl wd []) := fun wd => .inr (.inr ⟨wd, rfl⟩)
  refine ⟨⟨⟨10, _, _, _, rfl, rfl, rfl, by decide, rfl, RowsM.of ⟨?_, ?_, ?_, trivial⟩⟩, rfl, trivial⟩, rfl, rfl, trivial⟩
  ·exact ⟨rfl, rfl, rfl, rfl, nil2 _, rfl, nil2 _, rfl, rfl, rfl, trivial⟩
  ·exact ⟨rfl, rfl, rfl, rfl, nil2 _, rfl, ⟨1, _, _, _, rfl, rfl, rfl, by decide, rfl, RowsM.of ⟨rfl, trivial⟩⟩, rfl, rfl, rfl, trivial⟩
  ·exact ⟨rfl, rfl, rfl, rfl, ⟨2, _, _, _, rfl, rfl, rfl, by decide, rfl, RowsM.of ⟨⟨rfl, rfl, trivial⟩, trivial⟩⟩, rfl, nil2 _, rfl, rfl, rfl, trivial⟩
def dDk : DeskM := ⟨[⟨awA, awA, 0⟩], [], 0, false⟩
def dCl : ClassM := ⟨true, [], [], [], [⟨5, []⟩, ⟨6, []⟩, ⟨7, []⟩, ⟨8, []⟩]⟩
def dSt : List StateM := [⟨0, -1, -1, false⟩, ⟨0, -1, -1, false⟩, ⟨3, 0, -1, false⟩]
def dNow : List StateM := [⟨0, -1, -1, false⟩, ⟨0, -1, -1, false⟩, ⟨3, 0, 1, true⟩]
def dS : ByteArray := ⟨#[115]⟩
theorem d_small : SmallN dF.nodes := ⟨by decide, by decide, by decide, by decide⟩
theorem d_smallD : SmallD dDk := ⟨by decide, by decide⟩
theorem d_smallC : ∀ c ∈ [dCl], c.hooks.length ≤ 100000 := by
 intro c hc
 rw [List.mem_singleton] at hc
 subst hc
 decide
theorem ad24 : FnOK Tryz.prog 24 [] [eFor dF, eStates dSt, eDesk dDk, eClasses [dCl]] [] (.tup [eStates dNow, eDuesN [⟨2, ownedT (-1) 1⟩, ⟨2, barredT true⟩]]) := by
 have h := f24_ok dF d_small dSt (by decide) dDk d_smallD [dCl] d_smallC
 rwa [show toldSt dF dSt dDk [dCl] = dNow from by kernel_rfl, show toldDu dF dSt dDk [dCl] = [⟨2, ownedT (-1) 1⟩, ⟨2, barredT true⟩] from by kernel_rfl] at h
theorem ad25 : FnOK Tryz.prog 25 [] [eFor dF, eStates dSt, eDesk dDk, eClasses [dCl], eInt 1] [] (eDuesN [⟨2, clearedT⟩]) := by
 have h := f25_ok dF d_small dSt (by decide) dDk d_smallD [dCl] d_smallC 1
 rwa [show resetDu dF dSt dDk [dCl] 1 = [⟨2, clearedT⟩] from by kernel_rfl] at h
theorem ad26 : FnOK Tryz.prog 26 [] [eFor dF, eStates dSt, eDesk dDk, eClasses [dCl], eInt 2, eStr dS] [] (eDuesN [⟨2, restoredT dS⟩]) := by
 have h := f26_ok dF d_small dSt (by decide) dDk d_smallD [dCl] d_smallC 2 dS
 rwa [show restoreDu dF dSt dDk [dCl] 2 dS = [⟨2, restoredT dS⟩] from by kernel_rfl] at h
theorem f22_ok : FnOK Tryz.prog 22 [] [] [] (eBool true) := by
 have nil2 : ∀ wd, NilK (.sl wd []) := fun wd => .inr (.inr ⟨wd, rfl⟩)
 refine FnOK.startC (rvs := [.tmp 0]) G G_good Tryz.func22 rfl Tryz.ntmps22 rfl rfl ?_; with_reducible refine wD ?_
 refine cV dfresh_ok c51 ?_; with_reducible refine wK ?_
 repeat' (first
  | refine gK ?_ | refine aE ?_ ?_
  | (((with_reducible refine kQ 24 ?_); refine CallK.val [181, 241, 261, 311] ad24 c24 ⟨⟨rfl, rfl, trivial⟩, ⟨4, _, _, _, rfl, rfl, rfl, by decide, rfl, RowsM.of ⟨⟨rfl, rfl, rfl, rfl, trivial⟩, ⟨rfl, rfl, rfl, rfl, trivial⟩, ⟨rfl, rfl, rfl, rfl, trivial⟩, trivial⟩⟩, ⟨⟨3, _, _, _, rfl, rfl, rfl, by decide, rfl, RowsM.of ⟨⟨rfl, rfl, rfl, trivial⟩, trivial⟩⟩, nil2 _, rfl, rfl, trivial⟩, ⟨5, _, _, _, rfl, rfl, rfl, by decide, rfl, RowsM.of ⟨⟨rfl, nil2 _, nil2 _, nil2 _, ⟨2, _, _, _, rfl, rfl, rfl, by decide, rfl, RowsM.of ⟨⟨rfl, nil2 _, trivial⟩, ⟨rfl, nil2 _, trivial⟩, ⟨rfl, nil2 _, trivial⟩, ⟨rfl, nil2 _, trivial⟩, trivial⟩⟩, trivial⟩, trivial⟩⟩, trivial⟩ rfl rfl rfl ?_) <;> with_reducible refine wK ?_)
  | apply trivial)
 dsimp only [List.append]; with_reducible refine wK ?_
 repeat' (first
  | refine gK ?_ | refine aE ?_ ?_
  | (((with_reducible refine kQ 25 ?_); refine CallK.val [181, 241, 261, 311] ad25 c25 ⟨⟨rfl, rfl, trivial⟩, ⟨4, _, _, _, rfl, rfl, rfl, by decide, rfl, RowsM.of ⟨⟨rfl, rfl, rfl, rfl, trivial⟩, ⟨rfl, rfl, rfl, rfl, trivial⟩, ⟨rfl, rfl, rfl, rfl, trivial⟩, trivial⟩⟩, ⟨⟨3, _, _, _, rfl, rfl, rfl, by decide, rfl, RowsM.of ⟨⟨rfl, rfl, rfl, trivial⟩, trivial⟩⟩, nil2 _, rfl, rfl, trivial⟩, ⟨5, _, _, _, rfl, rfl, rfl, by decide, rfl, RowsM.of ⟨⟨rfl, nil2 _, nil2 _, nil2 _, ⟨2, _, _, _, rfl, rfl, rfl, by decide, rfl, RowsM.of ⟨⟨rfl, nil2 _, trivial⟩, ⟨rfl, nil2 _, trivial⟩, ⟨rfl, nil2 _, trivial⟩, ⟨rfl, nil2 _, trivial⟩, trivial⟩⟩, trivial⟩, trivial⟩⟩, rfl, trivial⟩ rfl rfl rfl ?_) <;> with_reducible refine wK ?_)
  | apply trivial)
 dsimp only [List.append]; with_reducible refine wK ?_
 repeat' (first
  | refine gK ?_ | refine aE ?_ ?_
  | (((with_reducible refine kQ 26 ?_); refine CallK.val [181, 241, 261, 311] ad26 c26 ⟨⟨rfl, rfl, trivial⟩, ⟨4, _, _, _, rfl, rfl, rfl, by decide, rfl, RowsM.of ⟨⟨rfl, rfl, rfl, rfl, trivial⟩, ⟨rfl, rfl, rfl, rfl, trivial⟩, ⟨rfl, rfl, rfl, rfl, trivial⟩, trivial⟩⟩, ⟨⟨3, _, _, _, rfl, rfl, rfl, by decide, rfl, RowsM.of ⟨⟨rfl, rfl, rfl, trivial⟩, trivial⟩⟩, nil2 _, rfl, rfl, trivial⟩, ⟨5, _, _, _, rfl, rfl, rfl, by decide, rfl, RowsM.of ⟨⟨rfl, nil2 _, nil2 _, nil2 _, ⟨2, _, _, _, rfl, rfl, rfl, by decide, rfl, RowsM.of ⟨⟨rfl, nil2 _, trivial⟩, ⟨rfl, nil2 _, trivial⟩, ⟨rfl, nil2 _, trivial⟩, ⟨rfl, nil2 _, trivial⟩, trivial⟩⟩, trivial⟩, trivial⟩⟩, rfl, rfl, trivial⟩ rfl rfl rfl ?_) <;> with_reducible refine wK ?_)
  | apply trivial)
 dsimp only [List.append]; with_reducible refine wK ?_
 repeat' (first
  | refine gK ?_ | refine aE ?_ ?_
  | ((first
   | (first | refine IdxK.mk 0 (eDueN ⟨2, ownedT (-1) 1⟩) rfl rfl ?_ | refine IdxK.mk 1 (eDueN ⟨2, barredT true⟩) rfl rfl ?_ | refine IdxK.mk 2 (eState ⟨3, 0, 1, true⟩) rfl rfl ?_ | refine IdxK.mk 0 (eDueN ⟨2, clearedT⟩) rfl rfl ?_ | refine IdxK.mk 0 (eDueN ⟨2, restoredT dS⟩) rfl rfl ?_)
   | ((with_reducible show EqK _ _ _ _ _ _ _ _); first | refine EqK.mk _ (fun y z w => dueN_eql ⟨2, ownedT (-1) 1⟩ ⟨2, ownedT (-1) 1⟩ y z w) ?_ | refine EqK.mk _ (fun y z w => dueN_eql ⟨2, barredT true⟩ ⟨2, barredT true⟩ y z w) ?_)
   | ((with_reducible show DrawK _ _ _ _); refine dK ?_)) <;> with_reducible refine wK ?_)
  | apply trivial)
 all_goals first | rfl
theorem resetDu_no {f : ForM} {st : List StateM} {d : DeskM} {cs : List ClassM} {x : Int} (h : lookV f st d = false ∨ thereN f.nodes x = false) : resetDu f st d cs x = [] := by
 unfold resetDu
 rw [if_neg]
 rintro ⟨h1, h2⟩
 rcases h with h | h
 ·rw [h] at h1; cases h1
 ·rw [h] at h2; cases h2
theorem restoreDu_no {f : ForM} {st : List StateM} {d : DeskM} {cs : List ClassM} {n : Int} {s : ByteArray} (h : lookV f st d = false ∨ thereN f.nodes n = false) : restoreDu f st d cs n s = [] := by
 unfold restoreDu
 rw [if_neg]
 rintro ⟨h1, h2⟩
 rcases h with h | h
 ·rw [h] at h1; cases h1
 ·rw [h] at h2; cases h2
theorem resetDu_form {f : ForM} {st : List StateM} {d : DeskM} {cs : List ClassM} {x : Int} (h : lookV f st d = true) (ht : thereN f.nodes x = true) (hf : isForm (nd f.nodes x) = true) : resetDu f st d cs x = rDu f d cs st (memR f.nodes x) (memR f.nodes x).length := by
 have hr : rightF f = true := by
  have := h
  unfold lookV at this
  simp only [Bool.and_eq_true] at this
  exact this.1.2
 have e : memV f x = memR f.nodes x := by
  unfold memV memF
  rw [ht, hr, hf, if_pos (by rfl : (true && true) = true), if_pos rfl]
  exact mem_eq' (tree_of hr) ht
 rw [resetDu_eq h, e]
theorem resetDu_else {f : ForM} {st : List StateM} {d : DeskM} {cs : List ClassM} {x : Int} (h : lookV f st d = true) (hf : isForm (nd f.nodes x) = false) : resetDu f st d cs x = [] := by
 have e : memV f x = [] := by
  unfold memV memF
  rw [hf, if_neg (by simp : ¬ false = true)]
  split <;> rfl
 rw [resetDu_eq h, e]; rfl
theorem resetDu_len {f : ForM} {st : List StateM} {d : DeskM} {cs : List ClassM} {x : Int} : (resetDu f st d cs x).length ≤ f.nodes.length := by
 cases h : lookV f st d with
 | true =>
   rw [resetDu_eq h]
   exact Nat.le_trans (rDu_len f d cs st _ _) (memV_len x)
 | false => rw [resetDu_no (.inl h)]; simp
theorem restoreDu_len {f : ForM} {st : List StateM} {d : DeskM} {cs : List ClassM} {n : Int} {s : ByteArray} : (restoreDu f st d cs n s).length ≤ 1 := by
 unfold restoreDu
 split
 ·split
  ·exact tellD_len _ _ _
  ·simp
 ·simp
def shortAll (f : ForM) (st : List StateM) (d : DeskM) (cs : List ClassM) (s : ByteArray) : Bool := (((shortF f && shortB d) && shortC cs) && !decide (60 < st.length)) && !decide (300 < s.size)
theorem f4_no (f : ForM) (st : List StateM) (d : DeskM) (cs : List ClassM) (n : Int) (s : ByteArray) (hn : shortAll f st d cs s = false) : FnOK Tryz.prog 4 [] [eFor f, eStates st, eDesk d, eClasses cs, eInt n, eStr s] [] (eBool true) := by
 have h22 := f22_ok
 have h13 := f13_ok f
 have h14 := f14_ok d
 have h23 := f23_ok cs
 have hsm : (st.map oState).length = st.length := List.length_map ..
 unfold shortAll at hn
 generalize shortF f = b1 at *
 generalize shortB d = b2 at *
 generalize shortC cs = b3 at *
 obtain ⟨l, m⟩ := f
 obtain ⟨d1, d2, d3, d4⟩ := d
 cases b1 with
 | false =>
   refine FnOK.startC (rvs := [.tmp 12]) G G_good Tryz.func4 rfl Tryz.ntmps4 rfl rfl ?_; with_reducible refine wD ?_
   repeat' (first
  | refine gK ?_ | refine aE ?_ ?_
  | ((first
   | ((with_reducible refine kQ 22 ?_); refine cL h22 c22 ?_)
   | ((with_reducible refine kQ 13 ?_); refine cL h13 c13 ?_)) <;> with_reducible refine wK ?_)
  | apply trivial)
   all_goals rfl
 | true =>
   cases b2 with
   | false =>
     refine FnOK.startC (rvs := [.tmp 12]) G G_good Tryz.func4 rfl Tryz.ntmps4 rfl rfl ?_; with_reducible refine wD ?_
     repeat' (first
  | refine gK ?_ | refine aE ?_ ?_
  | ((first
   | ((with_reducible refine kQ 22 ?_); refine cL h22 c22 ?_)
   | ((with_reducible refine kQ 13 ?_); refine cL h13 c13 ?_)
   | ((with_reducible refine kQ 14 ?_); refine cL h14 c14 ?_)) <;> with_reducible refine wK ?_)
  | apply trivial)
     all_goals rfl
   | true =>
     cases b3 with
     | false =>
       refine FnOK.startC (rvs := [.tmp 12]) G G_good Tryz.func4 rfl Tryz.ntmps4 rfl rfl ?_; with_reducible refine wD ?_
       repeat' (first
  | refine gK ?_ | refine aE ?_ ?_
  | ((first
   | ((with_reducible refine kQ 22 ?_); refine cL h22 c22 ?_)
   | ((with_reducible refine kQ 13 ?_); refine cL h13 c13 ?_)
   | ((with_reducible refine kQ 14 ?_); refine cL h14 c14 ?_)
   | ((with_reducible refine kQ 23 ?_); refine cL h23 c23 ?_)) <;> with_reducible refine wK ?_)
  | apply trivial)
       all_goals rfl
     | true =>
       by_cases q1 : 60 < st.length
       ·have q1' : (60 : Int) < (st.length : Int) := by omega
        refine FnOK.startC (rvs := [.tmp 12]) G G_good Tryz.func4 rfl Tryz.ntmps4 rfl rfl ?_; with_reducible refine wD ?_
        (have fct := And.intro hsm ((eq_true q1')); (repeat' (first
  | refine gF ?_ | refine aE ?_ ?_
  | ((first
   | ((with_reducible refine kQ 22 ?_); refine cL h22 c22 ?_)
   | ((with_reducible refine kQ 13 ?_); refine cL h13 c13 ?_)
   | ((with_reducible refine kQ 14 ?_); refine cL h14 c14 ?_)
   | ((with_reducible refine kQ 23 ?_); refine cL h23 c23 ?_)) <;> with_reducible refine wK ?_)
  | apply trivial)); all_goals clear fct)
        all_goals rfl
       ·have q1' : ¬ (60 : Int) < (st.length : Int) := by omega
        have q2 : 300 < s.size := by simpa [q1] using hn
        have q2' : (300 : Int) < (s.size : Int) := by omega
        refine FnOK.startC (rvs := [.tmp 12]) G G_good Tryz.func4 rfl Tryz.ntmps4 rfl rfl ?_; with_reducible refine wD ?_
        (have fct := And.intro hsm (And.intro (eq_false q1') ((eq_true q2'))); (repeat' (first
  | refine gF ?_ | refine aE ?_ ?_
  | ((first
   | ((with_reducible refine kQ 22 ?_); refine cL h22 c22 ?_)
   | ((with_reducible refine kQ 13 ?_); refine cL h13 c13 ?_)
   | ((with_reducible refine kQ 14 ?_); refine cL h14 c14 ?_)
   | ((with_reducible refine kQ 23 ?_); refine cL h23 c23 ?_)) <;> with_reducible refine wK ?_)
  | apply trivial)); all_goals clear fct)
        all_goals rfl
theorem f4_ok (f : ForM) (st : List StateM) (d : DeskM) (cs : List ClassM) (n : Int) (s : ByteArray) : FnOK Tryz.prog 4 [] [eFor f, eStates st, eDesk d, eClasses cs, eInt n, eStr s] [] (eBool true) := by
 cases hn : shortAll f st d cs s with
 | false => exact f4_no f st d cs n s hn
 | true =>
 have h22 := f22_ok
 have h13 := f13_ok f
 have h14 := f14_ok d
 have h23 := f23_ok cs
 unfold shortAll at hn
 obtain ⟨⟨⟨⟨b1, b2⟩, b3⟩, q1⟩, q2⟩ : (((shortF f = true ∧ shortB d = true) ∧ shortC cs = true) ∧ st.length ≤ 60) ∧ s.size ≤ 300 := by simpa using hn
 have hs := shortF_iff.1 b1
 have hd' := shortB_iff.1 b2
 have hd : SmallD d := hd'.small
 have hcs : ∀ c ∈ cs, c.hooks.length ≤ 100000 := fun c hc => (small_of_shortC b3 c hc).hooks
 rw [b1] at h13
 rw [b2] at h14
 rw [b3] at h23
 have hsm : (st.map oState).length = st.length := List.length_map ..
 have q1' : ¬ (60 : Int) < (st.length : Int) := by omega
 have q2' : ¬ (300 : Int) < (s.size : Int) := by omega
 have h24 := f24_ok f hs st (by omega) d hd cs hcs
 have h25 := f25_ok f hs st (by omega) d hd cs hcs n
 have h26 := f26_ok f hs st (by omega) d hd cs hcs n s
 have h28 := f28_ok f hs
 rw [right_eq] at h28
 have h29 := f29_ok d hd'
 have h27a := f27_ok st st (by omega)
 rw [decide_eq_true rfl] at h27a
 have h60 := hs.len
 obtain ⟨lv, hlv⟩ : ∃ lv, lookV f st d = lv := ⟨_, rfl⟩
 cases lv with
 | false =>
   have e1 : toldSt f st d cs = st := by unfold toldSt; rw [hlv]; rfl
   have e2 : toldDu f st d cs = [] := by unfold toldDu; rw [hlv]; rfl
   rw [e1, e2] at h24
   rw [resetDu_no (.inl hlv)] at h25
   rw [restoreDu_no (.inl hlv)] at h26
   unfold lookV at hlv
   have hlm : (f.nodes.map oNode).length = f.nodes.length := List.length_map ..
   generalize rightF f = r1 at *
   generalize rightD d = r2 at *
   clear hn
   obtain ⟨l, m⟩ := f
   obtain ⟨d1, d2, d3, d4⟩ := d
   simp only at hlm hlv
   have h3 : r1 = false ∨ (r1 = true ∧ r2 = false) ∨ (r1 = true ∧ r2 = true ∧ ¬ ((st.length : Int) = (l.length : Int))) := by
    cases r1 <;> cases r2 <;> simp at hlv ⊢
    omega
   clear hlv
   rcases h3 with hle | hle | hle
   all_goals
    refine FnOK.startC (rvs := [.tmp 12]) G G_good Tryz.func4 rfl Tryz.ntmps4 rfl rfl ?_; with_reducible refine wD ?_
    (have fct := And.intro hsm (And.intro hlm (And.intro hle (And.intro (eq_false q1') ((eq_false q2'))))); (repeat' (first
  | refine gF ?_ | refine aE ?_ ?_
  | ((first
   | ((with_reducible refine kQ 22 ?_); refine cL h22 c22 ?_)
   | ((with_reducible refine kQ 13 ?_); refine cL h13 c13 ?_)
   | ((with_reducible refine kQ 14 ?_); refine cL h14 c14 ?_)
   | ((with_reducible refine kQ 23 ?_); refine cL h23 c23 ?_)
   | ((with_reducible show AppK _ _ _ _ _ _ _ _ _ _); refine AppK.mk [] (st.map oState) ⟨rfl, rfl, rfl⟩ ⟨rfl, rfl, rfl⟩ (one_states st) (by simp; omega) (by simp; omega) ?_)
   | ((with_reducible refine kQ 24 ?_); refine CallK.val [471] h24 c24 ⟨⟨rfl, rfl, trivial⟩, frz_states rfl rfl rfl hsm, ⟨rfl, rfl, rfl, rfl, trivial⟩, rfl, trivial⟩ rfl rfl rfl ?_)
   | ((with_reducible refine kQ 25 ?_); refine CallK.val [471] h25 c25 ⟨⟨rfl, rfl, trivial⟩, frz_states rfl rfl rfl hsm, ⟨rfl, rfl, rfl, rfl, trivial⟩, rfl, rfl, trivial⟩ rfl rfl rfl ?_)
   | ((with_reducible refine kQ 26 ?_); refine CallK.val [471] h26 c26 ⟨⟨rfl, rfl, trivial⟩, frz_states rfl rfl rfl hsm, ⟨rfl, rfl, rfl, rfl, trivial⟩, rfl, rfl, rfl, trivial⟩ rfl rfl rfl ?_)
   | ((with_reducible refine kQ 27 ?_); first | refine CallK.lit [471] h27a c27 ⟨frz_states rfl rfl rfl hsm, rfl, trivial⟩ rfl rfl ?_ | refine cL h27a c27 ?_)
   | ((with_reducible refine kQ 28 ?_); refine cL h28 c28 ?_)
   | ((with_reducible refine kQ 29 ?_); refine cL h29 c29 ?_)
   | ((with_reducible show DrawK _ _ _ _); refine dK ?_)) <;> with_reducible refine wK ?_)
  | apply trivial)); all_goals clear fct)
    all_goals first | rfl
 | true =>
   have hle : st.length = f.nodes.length ∧ (rightF f = true ∧ rightD d = true) := by
    have := hlv
    unfold lookV at this
    simp only [Bool.and_eq_true, decide_eq_true_eq] at this
    exact ⟨this.1.1, this.1.2, this.2⟩
   rw [hle.2.1] at h28
   rw [hle.2.2] at h29
   have h30 := f30_ok f hs st d cs hcs hlv
   have h27b := f27_ok (toldSt f st d cs) (toldSt f st d cs) (by unfold toldSt; split <;> (try rw [tSt_len]) <;> omega)
   have h31a := f21n_ok (toldDu f st d cs) (toldDu f st d cs) (by unfold toldDu; rw [if_pos hlv]; have := tDu_len f d cs st st.length; omega)
   have h31b := f21n_ok (restoreDu f st d cs n s) (restoreDu f st d cs n s) (by have := restoreDu_len (f := f) (st := st) (d := d) (cs := cs) (n := n) (s := s); omega)
   have h31c := f21n_ok (resetDu f st d cs n) (resetDu f st d cs n) (by have := resetDu_len (f := f) (st := st) (d := d) (cs := cs) (x := n); omega)
   rw [decide_eq_true rfl] at h27b h31a h31b h31c
   generalize toldSt f st d cs = now at *
   generalize toldDu f st d cs = l1 at *
   have hlm : (f.nodes.map oNode).length = f.nodes.length := List.length_map ..
   have hlf : st.length = f.nodes.length := hle.1
   cases ht : thereN f.nodes n with
   | false =>
     rw [resetDu_no (.inr ht)] at h25
     rw [restoreDu_no (.inr ht)] at h26
     have ht' : ¬ (0 ≤ n ∧ n < (f.nodes.length : Int)) := fun h => by
      unfold thereN at ht; simp [h.1, h.2] at ht
     clear h31b h31c
     obtain ⟨l, m⟩ := f
     obtain ⟨d1, d2, d3, d4⟩ := d
     simp only at hlm hlf ht'
     have h3 : ((n < 0) = True ∧ True) ∨ ((n < 0) = False ∧ ((l.length : Int) ≤ n) = True) := by
      by_cases e1 : n < 0
      ·exact .inl ⟨eq_true e1, trivial⟩
      ·exact .inr ⟨eq_false e1, eq_true (by omega)⟩
     rcases h3 with ⟨e1f, e2f⟩ | ⟨e1f, e2f⟩
     all_goals
      refine FnOK.startC (rvs := [.tmp 12]) G G_good Tryz.func4 rfl Tryz.ntmps4 rfl rfl ?_; with_reducible refine wD ?_
      (have fct := And.intro hsm (And.intro hlm (And.intro hlf (And.intro e1f (And.intro e2f (And.intro (eq_false q1') ((eq_false q2'))))))); (repeat' (first
  | refine gF ?_ | refine aE ?_ ?_
  | ((first
   | ((with_reducible refine kQ 22 ?_); refine cL h22 c22 ?_)
   | ((with_reducible refine kQ 13 ?_); refine cL h13 c13 ?_)
   | ((with_reducible refine kQ 14 ?_); refine cL h14 c14 ?_)
   | ((with_reducible refine kQ 23 ?_); refine cL h23 c23 ?_)
   | ((with_reducible show AppK _ _ _ _ _ _ _ _ _ _); refine AppK.mk [] (st.map oState) ⟨rfl, rfl, rfl⟩ ⟨rfl, rfl, rfl⟩ (one_states st) (by simp; omega) (by simp; omega) ?_)
   | ((with_reducible refine kQ 24 ?_); refine CallK.val [471] h24 c24 ⟨⟨rfl, rfl, trivial⟩, frz_states rfl rfl rfl hsm, ⟨rfl, rfl, rfl, rfl, trivial⟩, rfl, trivial⟩ rfl rfl rfl ?_)
   | ((with_reducible refine kQ 25 ?_); refine CallK.val [471] h25 c25 ⟨⟨rfl, rfl, trivial⟩, frz_states rfl rfl rfl hsm, ⟨rfl, rfl, rfl, rfl, trivial⟩, rfl, rfl, trivial⟩ rfl rfl rfl ?_)
   | ((with_reducible refine kQ 26 ?_); refine CallK.val [471] h26 c26 ⟨⟨rfl, rfl, trivial⟩, frz_states rfl rfl rfl hsm, ⟨rfl, rfl, rfl, rfl, trivial⟩, rfl, rfl, rfl, trivial⟩ rfl rfl rfl ?_)
   | ((with_reducible refine kQ 27 ?_); first | refine CallK.lit [471] h27a c27 ⟨frz_states rfl rfl rfl hsm, rfl, trivial⟩ rfl rfl ?_ | refine cL h27a c27 ?_ | refine cL h27b c27 ?_)
   | ((with_reducible refine kQ 28 ?_); refine cL h28 c28 ?_)
   | ((with_reducible refine kQ 29 ?_); refine cL h29 c29 ?_)
   | ((with_reducible refine kQ 30 ?_); refine cV h30 c30 ?_)
   | ((with_reducible refine kQ 31 ?_); refine cL h31a c31 ?_)
   | ((with_reducible show DrawK _ _ _ _); refine dK ?_)) <;> with_reducible refine wK ?_)
  | apply trivial)); all_goals clear fct)
      all_goals first | rfl
   | true =>
     have h32 := f32_ok f st d cs hcs n s hlv ht
     obtain ⟨e1, e2⟩ := there_pos ht
     have e1f := eq_false (show ¬ n < 0 by omega)
     have e2f := eq_false (show ¬ (f.nodes.length : Int) ≤ n by omega)
     obtain ⟨k, x, ek, hx, hnx⟩ := there_iff.1 ht
     have h33 := f33_ok f k x hx
     have h33' : FnOK Tryz.prog 33 [] [eFor f, eInt n] [] (eBool (isForm x)) := by rw [ek]; exact h33
     obtain ⟨fm, hfm⟩ : ∃ fm, isForm x = fm := ⟨_, rfl⟩
     rw [hfm] at h33'
     cases fm with
     | false =>
       rw [resetDu_else hlv (by rw [hnx]; exact hfm)] at h25
       clear h31c h33 hfm hnx hx
       generalize restoreDu f st d cs n s = od at *
       obtain ⟨l, m⟩ := f
       obtain ⟨d1, d2, d3, d4⟩ := d
       try simp only at hlm hlf e2f
       refine FnOK.startC (rvs := [.tmp 12]) G G_good Tryz.func4 rfl Tryz.ntmps4 rfl rfl ?_; with_reducible refine wD ?_
       (have fct := And.intro hsm (And.intro hlm (And.intro hlf (And.intro e1f (And.intro e2f (And.intro (eq_false q1') ((eq_false q2'))))))); (repeat' (first
  | refine gF ?_ | refine aE ?_ ?_
  | ((first
   | ((with_reducible refine kQ 22 ?_); refine cL h22 c22 ?_)
   | ((with_reducible refine kQ 13 ?_); refine cL h13 c13 ?_)
   | ((with_reducible refine kQ 14 ?_); refine cL h14 c14 ?_)
   | ((with_reducible refine kQ 23 ?_); refine cL h23 c23 ?_)
   | ((with_reducible show AppK _ _ _ _ _ _ _ _ _ _); refine AppK.mk [] (st.map oState) ⟨rfl, rfl, rfl⟩ ⟨rfl, rfl, rfl⟩ (one_states st) (by simp; omega) (by simp; omega) ?_)
   | ((with_reducible refine kQ 24 ?_); refine CallK.val [471] h24 c24 ⟨⟨rfl, rfl, trivial⟩, frz_states rfl rfl rfl hsm, ⟨rfl, rfl, rfl, rfl, trivial⟩, rfl, trivial⟩ rfl rfl rfl ?_)
   | ((with_reducible refine kQ 25 ?_); refine CallK.val [471] h25 c25 ⟨⟨rfl, rfl, trivial⟩, frz_states rfl rfl rfl hsm, ⟨rfl, rfl, rfl, rfl, trivial⟩, rfl, rfl, trivial⟩ rfl rfl rfl ?_)
   | ((with_reducible refine kQ 26 ?_); refine CallK.val [471] h26 c26 ⟨⟨rfl, rfl, trivial⟩, frz_states rfl rfl rfl hsm, ⟨rfl, rfl, rfl, rfl, trivial⟩, rfl, rfl, rfl, trivial⟩ rfl rfl rfl ?_)
   | ((with_reducible refine kQ 27 ?_); first | refine CallK.lit [471] h27a c27 ⟨frz_states rfl rfl rfl hsm, rfl, trivial⟩ rfl rfl ?_ | refine cL h27a c27 ?_ | refine cL h27b c27 ?_)
   | ((with_reducible refine kQ 28 ?_); refine cL h28 c28 ?_)
   | ((with_reducible refine kQ 29 ?_); refine cL h29 c29 ?_)
   | ((with_reducible refine kQ 30 ?_); refine cV h30 c30 ?_)
   | ((with_reducible refine kQ 31 ?_); first | refine cL h31a c31 ?_ | refine cL h31b c31 ?_ | refine cL h31c c31 ?_)
   | ((with_reducible refine kQ 32 ?_); refine cV h32 c32 ?_)
   | ((with_reducible refine kQ 33 ?_); refine cL h33' c33 ?_)
   | ((with_reducible refine kQ 34 ?_); refine cV h34 c34 ?_)
   | ((with_reducible show DrawK _ _ _ _); refine dK ?_)) <;> with_reducible refine wK ?_)
  | apply trivial)); all_goals clear fct)
       all_goals first | rfl
     | true =>
       have h34 := f34_ok f hs st d cs hcs n hlv ht
       rw [← resetDu_form hlv ht (by rw [hnx]; exact hfm)] at h34
       clear h33 hfm hnx hx
       generalize restoreDu f st d cs n s = od at *
       generalize resetDu f st d cs n = ra at *
       obtain ⟨l, m⟩ := f
       obtain ⟨d1, d2, d3, d4⟩ := d
       try simp only at hlm hlf e2f
       refine FnOK.startC (rvs := [.tmp 12]) G G_good Tryz.func4 rfl Tryz.ntmps4 rfl rfl ?_; with_reducible refine wD ?_
       (have fct := And.intro hsm (And.intro hlm (And.intro hlf (And.intro e1f (And.intro e2f (And.intro (eq_false q1') ((eq_false q2'))))))); (repeat' (first
  | refine gF ?_ | refine aE ?_ ?_
  | ((first
   | ((with_reducible refine kQ 22 ?_); refine cL h22 c22 ?_)
   | ((with_reducible refine kQ 13 ?_); refine cL h13 c13 ?_)
   | ((with_reducible refine kQ 14 ?_); refine cL h14 c14 ?_)
   | ((with_reducible refine kQ 23 ?_); refine cL h23 c23 ?_)
   | ((with_reducible show AppK _ _ _ _ _ _ _ _ _ _); refine AppK.mk [] (st.map oState) ⟨rfl, rfl, rfl⟩ ⟨rfl, rfl, rfl⟩ (one_states st) (by simp; omega) (by simp; omega) ?_)
   | ((with_reducible refine kQ 24 ?_); refine CallK.val [471] h24 c24 ⟨⟨rfl, rfl, trivial⟩, frz_states rfl rfl rfl hsm, ⟨rfl, rfl, rfl, rfl, trivial⟩, rfl, trivial⟩ rfl rfl rfl ?_)
   | ((with_reducible refine kQ 25 ?_); refine CallK.val [471] h25 c25 ⟨⟨rfl, rfl, trivial⟩, frz_states rfl rfl rfl hsm, ⟨rfl, rfl, rfl, rfl, trivial⟩, rfl, rfl, trivial⟩ rfl rfl rfl ?_)
   | ((with_reducible refine kQ 26 ?_); refine CallK.val [471] h26 c26 ⟨⟨rfl, rfl, trivial⟩, frz_states rfl rfl rfl hsm, ⟨rfl, rfl, rfl, rfl, trivial⟩, rfl, rfl, rfl, trivial⟩ rfl rfl rfl ?_)
   | ((with_reducible refine kQ 27 ?_); first | refine CallK.lit [471] h27a c27 ⟨frz_states rfl rfl rfl hsm, rfl, trivial⟩ rfl rfl ?_ | refine cL h27a c27 ?_ | refine cL h27b c27 ?_)
   | ((with_reducible refine kQ 28 ?_); refine cL h28 c28 ?_)
   | ((with_reducible refine kQ 29 ?_); refine cL h29 c29 ?_)
   | ((with_reducible refine kQ 30 ?_); refine cV h30 c30 ?_)
   | ((with_reducible refine kQ 31 ?_); first | refine cL h31a c31 ?_ | refine cL h31b c31 ?_ | refine cL h31c c31 ?_)
   | ((with_reducible refine kQ 32 ?_); refine cV h32 c32 ?_)
   | ((with_reducible refine kQ 33 ?_); refine cL h33' c33 ?_)
   | ((with_reducible refine kQ 34 ?_); refine cV h34 c34 ?_)
   | ((with_reducible show DrawK _ _ _ _); refine dK ?_)) <;> with_reducible refine wK ?_)
  | apply trivial)); all_goals clear fct)
       all_goals first | rfl
def deafC (c : ClassM) : ClassM := ⟨c.form, c.watch, [], [], []⟩
theorem classV_deaf (s : StateM) (d : DeskM) (cs : List ClassM) : classV s d (cs.map deafC) = deafC (classV s d cs) ∧ classB s d (cs.map deafC) = classB s d cs := by
 have e : classAt s d (cs.map deafC).length = classAt s d cs.length := by rw [List.length_map]
 rcases classAt_cases s d cs.length with h | ⟨k, hk, h⟩
 ·rw [(classV_no (e.trans h)).1, (classV_no (e.trans h)).2, (classV_no h).1, (classV_no h).2]
  exact ⟨rfl, rfl⟩
 ·have hc : cs[k]? = some cs[k] := List.getElem?_eq_getElem hk
  have hc' : (cs.map deafC)[k]? = some (deafC cs[k]) := by rw [List.getElem?_map, hc]; rfl
  rw [(classV_at (e.trans h) hc').1, (classV_at (e.trans h) hc').2, (classV_at h hc).1, (classV_at h hc).2]
  exact ⟨rfl, rfl⟩
theorem dutyB_deaf (f : ForM) (d : DeskM) (cs : List ClassM) (n : Int) (s : StateM) : dutyB f d (cs.map deafC) n s = dutyB f d cs n s := by
 unfold dutyB
 rw [(classV_deaf s d cs).1, (classV_deaf s d cs).2]; rfl
theorem hears_deaf (c : ClassM) (k : Int) : hearsC (deafC c) k = false := rfl
theorem told_deaf (f : ForM) (st : List StateM) (d : DeskM) (cs : List ClassM) : toldSt f st d (cs.map deafC) = toldSt f st d cs ∧ toldDu f st d (cs.map deafC) = [] := by
 constructor
 ·unfold toldSt tSt toldS
  simp only [dutyB_deaf]
 ·unfold toldDu tDu
  split
  ·rw [List.flatMap_eq_nil_iff]
   intro k _
   unfold toldD tellD
   rw [(classV_deaf _ d cs).1]
   simp [hears_deaf]
  ·rfl
@[reducible] def oDeaf (c : ClassM) : AV := .agg [eBool c.form, eStrs c.watch, nilA, nilA, nilA]
theorem frz_deaf {m : ML} {fz : Nat → Bool} {tab : List (Nat × Nat)} {n t len : Nat} {ro : Bool} {rows : List AV} {l : List ClassM} (h1 : lkM m t = .live 5 rows ro) (h2 : fz t = true) (h3 : rows = l.map oDeaf) (h4 : len = l.length) (hn : noRefL ((l.map deafC).map oClass) = true) : FrzK m fz (MF tab fz m (n + 2)) (eClasses (l.map deafC)) t 0 len := by
 subst h3; subst h4
 refine ⟨5, _, _, (l.map deafC).map oClass, h1, h2, rfl, by simp, hn, ?_⟩
 have e : (List.drop 0 (l.map oDeaf)).take l.length = l.map oDeaf := by rw [List.drop_zero, List.take_of_length_le (by simp)]
 rw [e]
 refine ⟨by simp, fun i x y hx hy => ?_⟩
 rw [List.getElem?_map, List.getElem?_map] at hx
 rw [List.getElem?_map] at hy
 cases hc : l[i]? with
 | none => rw [hc] at hx; cases hx
 | some c =>
   rw [hc] at hx hy
   cases hx; cases hy
   have nil2 : ∀ wd, NilK (.sl wd []) := fun wd => .inr (.inr ⟨wd, rfl⟩)
   exact ⟨rfl, rfl, nil2 _, nil2 _, nil2 _, trivial⟩
theorem noRef_deaf (l : List ClassM) : noRefL (l.map oDeaf) = true := noRefL_map oDeaf (fun _ => rfl) l
theorem noRef_classes (l : List ClassM) : noRefL (l.map oClass) = true := noRefL_map oClass (fun _ => rfl) l
theorem f5_no (f : ForM) (st : List StateM) (d : DeskM) (cs : List ClassM) (a : Int) (s : ByteArray) (hn : (rightW f st d cs && !decide (300 < s.size)) = false) : FnOK Tryz.prog 5 [] [eFor f, eStates st, eDesk d, eClasses cs, .lit (.int .u8 a), eStr s] [] (eBool true) := by
 have h22 := f22_ok
 have h35 := f35_ok f st d cs
 generalize rightW f st d cs = b1 at *
 obtain ⟨l, m⟩ := f
 obtain ⟨d1, d2, d3, d4⟩ := d
 cases b1 with
 | false =>
   refine FnOK.startC (rvs := [.tmp 12]) G G_good Tryz.func5 rfl Tryz.ntmps5 rfl rfl ?_; with_reducible refine wD ?_
   repeat' (first
  | refine gK ?_ | refine aE ?_ ?_
  | ((first
   | ((with_reducible refine kQ 22 ?_); refine cL h22 c22 ?_)
   | ((with_reducible refine kQ 35 ?_); refine cL h35 c35 ?_)) <;> with_reducible refine wK ?_)
  | apply trivial)
   all_goals rfl
 | true =>
   have q2 : 300 < s.size := by simpa using hn
   have q2' : (300 : Int) < (s.size : Int) := by omega
   refine FnOK.startC (rvs := [.tmp 12]) G G_good Tryz.func5 rfl Tryz.ntmps5 rfl rfl ?_; with_reducible refine wD ?_
   (have fct := (eq_true q2'); (repeat' (first
  | refine gF ?_ | refine aE ?_ ?_
  | ((first
   | ((with_reducible refine kQ 22 ?_); refine cL h22 c22 ?_)
   | ((with_reducible refine kQ 35 ?_); refine cL h35 c35 ?_)) <;> with_reducible refine wK ?_)
  | apply trivial)); all_goals clear fct)
   all_goals rfl

theorem there0 {f : ForM} (h : rightF f = true) : thereN f.nodes 0 = true := by
 unfold rightF at h
 rw [Bool.and_eq_true] at h
 have h1 := h.1
 obtain ⟨l, m⟩ := f
 cases l with
 | nil => simp [headOK] at h1
 | cons a r => unfold thereN; simp
theorem restoreDu_at {f : ForM} {st : List StateM} {d : DeskM} {cs : List ClassM} {k : Nat} {s : ByteArray} {q : StateM} (h : lookV f st d = true) (ht : thereN f.nodes (k : Int) = true) (hq : st[k]? = some q) :
  restoreDu f st d cs k s = if dutyB f d cs k q = true then tellD (classV q d cs) k (restoredT s) else [] := by
 unfold restoreDu
 rw [if_pos ⟨h, ht⟩, Int.toNat_natCast, sAt_of hq]
theorem five {cb c1 hb : Bool} {p q : Prop} [Decidable p] [Decidable q] (h : ((((cb && c1) && decide p) && decide q) && hb) = false) : cb = false ∨ (cb = true ∧ c1 = false) ∨ (cb = true ∧ c1 = true ∧ ¬ p) ∨ (cb = true ∧ c1 = true ∧ p ∧ ¬ q) ∨ (cb = true ∧ c1 = true ∧ p ∧ q ∧ hb = false) := by
 cases cb <;> cases c1 <;> by_cases hp : p <;> by_cases hq : q <;> cases hb <;> simp [hp, hq] at h ⊢
theorem HandK.mul {N : Nat} {o : Oper} {acc : Tk} {sl : SL} {m : ML} {R : Go.Am.Rest} {x y : Operand} {a b : Int} (ha : 0 ≤ a * b ∧ a * b ≤ 1000000) (ho : o.op = .binOp .mul 3 x y 3) (h1 : evB sl x = .lit (.int .i64 a)) (h2 : evB sl y = .lit (.int .i64 b)) (hd : dstB N o.dst = true) (h : R [] (.lit (.int .i64 (a * b))) [] acc sl m) : HandK Tryz.prog N acc sl m (o := o) (R := R) := by
 rw [evB_eq] at h1 h2
 refine ⟨[], .lit (.int .i64 (a * b)), [], ?_, h⟩
 refine .val (fun σ2 he2 hrd w0 W0 L μ a' w hs => ⟨.int .i64 (a * b), ?_, .lit⟩) (dst_ok hd)
 have k1 := hs.eval x
 have k2 := hs.eval y
 rw [he2 x (by simp [ho, Op.operands]), St_eval, h1] at k1
 rw [he2 y (by simp [ho, Op.operands]), St_eval, h2] at k2
 have hx := k1.val
 have hy := k2.val
 have hw : IntKind.i64.wrap (a * b) = a * b := IntWalk.i64_in _ (by omega)
 simp only [execOp, ho, hx, hy]
 simp only [eqGuard, binOp]
 go_simp
theorem snoc_deaf (l : List ClassM) (x : ClassM) : l.map oDeaf ++ [oDeaf x] = (l ++ [x]).map oDeaf := by rw [List.map_append]; rfl
theorem f5_ok (f : ForM) (st : List StateM) (d : DeskM) (cs : List ClassM) (a : Int) (s : ByteArray) (ha : 0 ≤ a ∧ a < 256) : FnOK Tryz.prog 5 [] [eFor f, eStates st, eDesk d, eClasses cs, .lit (.int .u8 a), eStr s] [] (eBool true) := by
 cases hn : (rightW f st d cs && !decide (300 < s.size)) with
 | false => exact f5_no f st d cs a s hn
 | true =>
 obtain ⟨b1, q2⟩ : rightW f st d cs = true ∧ s.size ≤ 300 := by simpa using hn
 have R := rightW_of b1
 have hs := R.hs
 have hcs : ∀ c ∈ cs, c.hooks.length ≤ 100000 := fun c hc => (R.hc c hc).hooks
 have hcl : cs.length ≤ 14 := by
  unfold rightW shortC at b1
  simp only [Bool.and_eq_true, decide_eq_true_eq] at b1
  exact b1.1.2.1
 have h22 := f22_ok
 have h35 := f35_ok f st d cs
 rw [b1] at h35
 have h60 := hs.len
 have hlf := R.len
 have h0 := there0 R.rf
 have hpos : 0 < f.nodes.length := by have := there_pos h0; omega
 obtain ⟨k, hk⟩ : ∃ k : Nat, a % (f.nodes.length : Int) = k := ⟨_, (Int.toNat_of_nonneg (Int.emod_nonneg _ (by omega))).symm⟩
 have hkl : k < f.nodes.length := by have := Int.emod_lt_of_pos a (show (0 : Int) < f.nodes.length by omega); omega
 obtain ⟨x, hx⟩ : ∃ x, f.nodes[k]? = some x := ⟨_, List.getElem?_eq_getElem hkl⟩
 obtain ⟨q, hq⟩ : ∃ q, st[k]? = some q := ⟨_, List.getElem?_eq_getElem (by omega)⟩
 have ht : thereN f.nodes (k : Int) = true := there_get hx
 have hnx : nd f.nodes k = x := by
  obtain ⟨i, y, ei, hy, hny⟩ := there_iff.1 ht
  obtain rfl : k = i := by omega
  rw [hx] at hy; cases hy; exact hny
 have h36 := f36_ok q d cs
 have h37 := f37_ok (classV q d cs) (classV_hooks hcs q d) 8
 have h26 := f26_ok f hs st (by omega) d R.hd cs hcs k s
 have hrd := restoreDu_at (cs := cs) (s := s) R.look ht hq
 have h24 := f24_ok f hs st (by omega) d R.hd cs hcs
 have h24d := f24_ok f hs st (by omega) d R.hd (cs.map deafC) (fun c hc => by
  obtain ⟨y, _, rfl⟩ := List.mem_map.1 hc
  exact Nat.zero_le _)
 rw [(told_deaf f st d cs).1, (told_deaf f st d cs).2] at h24d
 have h27b := f27_ok (toldSt f st d cs) (toldSt f st d cs) (by unfold toldSt; split <;> (try rw [tSt_len]) <;> omega)
 rw [decide_eq_true rfl] at h27b
 have hdu : (toldDu f st d cs).length ≤ 2 * st.length := by unfold toldDu; rw [if_pos R.look]; exact tDu_len f d cs st st.length
 generalize toldSt f st d cs = now at *
 generalize toldDu f st d cs = l1 at *
 have hl1 : (l1.map oDueN).length = l1.length := List.length_map ..
 have hle : (l1.length : Int) ≤ 2 * (st.length : Int) := by omega
 have q2' : ¬ (300 : Int) < (s.size : Int) := by omega
 have hsm : (st.map oState).length = st.length := List.length_map ..
 have hlm : (f.nodes.map oNode).length = f.nodes.length := List.length_map ..
 have hcm : (cs.map oClass).length = cs.length := List.length_map ..
 unfold dutyB at hrd
 rw [hnx] at hrd
 obtain ⟨hb, hhb⟩ : ∃ hb, hearsC (classV q d cs) 8 = hb := ⟨_, rfl⟩
 rw [hhb] at h37
 have hty : ∀ t, t = restoredT s → hearsC (classV q d cs) t.kind = hb := fun t e => by rw [e]; exact hhb
 have htell := tellD_yes (c := classV q d cs) (n := (k : Int)) (t := restoredT s)
 have htelln := tellD_no (c := classV q d cs) (n := (k : Int)) (t := restoredT s)
 have hty' := hty _ rfl
 rw [hty'] at htell htelln
 generalize classV q d cs = cv at *
 generalize classB q d cs = cb at *
 generalize restoreDu f st d cs k s = od at *
 clear hhb hty hty' b1 R hn ht h0 hnx hcs
 obtain ⟨l, m⟩ := f
 obtain ⟨d1, d2, d3, d4⟩ := d
 obtain ⟨c1, c2, c3, c4, c5⟩ := cv
 obtain ⟨s1, s2, s3, s4⟩ := q
 obtain ⟨a1, a2, a3, a4, a5, a6, a7, a8, a9, a10⟩ := x
 simp only at hlm hlf hk hkl hx hrd hpos h60
 have hwa : IntKind.i64.wrap a = a := wrap_u8 ha
 have hln : (0 : Int) < ((l.map oNode).length : Int) := by rw [hlm]; omega
 have hk' : a % ((l.map oNode).length : Int) = k := by rw [hlm]; exact hk
 refine FnOK.startC (rvs := [.tmp 12]) G G_good Tryz.func5 rfl Tryz.ntmps5 rfl rfl ?_; with_reducible refine wD ?_
 (have fct := (eq_false q2'); (repeat' (first
  | refine gF ?_ | refine aE ?_ ?_
  | ((first
   | ((with_reducible refine kQ 22 ?_); refine cL h22 c22 ?_)
   | ((with_reducible refine kQ 35 ?_); refine cL h35 c35 ?_)) <;> with_reducible refine wK ?_)
  | apply trivial)); all_goals clear fct)
 refine ConvK.int (by kernel_rfl) (by kernel_rfl) hwa ?_; with_reducible refine wK ?_
 repeat' (first
  | refine gK ?_ | refine aE ?_ ?_
  | apply trivial)
 refine HandK.rem ha.1 hln rfl rfl rfl rfl ?_; with_reducible refine wK ?_
 rw [hk']
 cases hall : ((((cb && c1) && decide (s1 = 3)) && decide (a1 = 1)) && hb) with
 | true =>
   obtain ⟨⟨⟨⟨rfl, rfl⟩, g3⟩, g4⟩, g5⟩ : (((cb = true ∧ c1 = true) ∧ s1 = 3) ∧ a1 = 1) ∧ hb = true := by simpa using hall
   rw [decide_eq_true g3, decide_eq_true g4, if_pos (by rfl), htell g5] at hrd
   subst hrd
   have hall2 := And.intro g3 (And.intro g4 g5)
   (have fct := hall2; (repeat' (first
  | refine gF ?_ | refine aE ?_ ?_
  | ((first
   | (first | refine IdxK.mk k (eState ⟨s1, s2, s3, s4⟩) rfl (state_get hq) ?_ | refine IdxK.mk k (eNode _) rfl (node_get hx) ?_ | refine IdxK.mk 0 (eDueN ⟨(k : Int), restoredT s⟩) rfl rfl ?_)
   | ((with_reducible refine kQ 36 ?_); refine cV h36 c36 ?_)
   | ((with_reducible refine kQ 26 ?_); refine cV h26 c26 ?_)
   | ((with_reducible refine kQ 37 ?_); refine cL h37 c37 ?_)
   | ((with_reducible show ElemK _ _ _ _ _); refine ElemK.mk _ rfl ?_)
   | ((with_reducible show EqK _ _ _ _ _ _ _ _); refine EqK.mk _ (fun y z w => dueN_eql ⟨(k : Int), restoredT s⟩ ⟨(k : Int), restoredT s⟩ y z w) ?_)
   | ((with_reducible show DrawK _ _ _ _); refine dK ?_)) <;> with_reducible refine wK ?_)
  | apply trivial)); all_goals clear fct)
   all_goals first | rfl | (simp; done)
 | false =>
   have hod : od = [] := by
    rw [hrd]
    cases hb with
    | false => rw [htelln rfl]; split <;> rfl
    | true => rw [Bool.and_true] at hall; rw [hall, if_neg (by simp)]
   subst hod
   have h5 := five hall
   clear hrd hall htell htelln
   rcases h5 with h5 | h5 | h5 | h5 | h5
   all_goals
    (have fct := h5; (repeat' (first
  | refine gF ?_ | refine aE ?_ ?_
  | ((first
   | (first | refine IdxK.mk k (eState ⟨s1, s2, s3, s4⟩) rfl (state_get hq) ?_ | refine IdxK.mk k (eNode _) rfl (node_get hx) ?_)
   | ((with_reducible refine kQ 36 ?_); refine cV h36 c36 ?_)
   | ((with_reducible refine kQ 26 ?_); refine cV h26 c26 ?_)
   | ((with_reducible refine kQ 37 ?_); refine cL h37 c37 ?_)
   | ((with_reducible show ElemK _ _ _ _ _); refine ElemK.mk _ rfl ?_)
   | ((with_reducible show DrawK _ _ _ _); refine dK ?_)) <;> with_reducible refine wK ?_)
  | apply trivial)); all_goals clear fct)
    refine LoopK.ghost 18 181 5 rfl rfl ?_
    refine LoopK.use G G_good (fun (j : Nat) => [(1, eStates st), (3, eClasses cs), (6, .ptr 60 0 0), (8, .ptr 80 0 0), (18, .own 181 0 j), (19, eInt j)])
     (fun j => [(60, .live 2 [eFor ⟨l, m⟩] false), (80, .live 4 [eDesk ⟨d1, d2, d3, d4⟩] false), (181, .live 5 ((cs.take j).map oDeaf) false)])
     (fun j => j ≤ cs.length) (fun j => cs.length - j) 0 (Nat.zero_le _) ?_ ?_
    ·(refine fK ?_; (with_reducible repeat' (first | exact trivial | (show _ ∧ _; refine aK ?_ ?_))); (all_goals try rfl))
     all_goals first
      | exact ⟨.refl rfl, rfl⟩
    intro j hj
    have htl : ((cs.take j).map oDeaf).length = j := by rw [List.length_map, List.length_take, Nat.min_eq_left hj]
    with_reducible refine wK ?_
    refine IfK.mk (fun h1 => ?_) (fun h1 => ?_) <;> (try simp only [castN] at h1) <;> with_reducible refine wK ?_
    ·have hj' : j < cs.length := by simp only [decide_eq_true_eq, castN] at h1; omega
     obtain ⟨⟨y1, y2, y3, y4, y5⟩, hy⟩ : ∃ y, cs[j]? = some y := ⟨_, List.getElem?_eq_getElem hj'⟩
     have htk : cs.take (j + 1) = cs.take j ++ [⟨y1, y2, y3, y4, y5⟩] := by rw [List.take_add_one, hy]; rfl
     repeat' (first
  | refine gK ?_ | refine aE ?_ ?_
  | ((first
   | (refine IdxK.mk j (eClass ⟨y1, y2, y3, y4, y5⟩) rfl (class_get hy) ?_)
   | ((with_reducible show AppK _ _ _ _ _ _ _ _ _ _); refine AppK.mk ((cs.take j).map oDeaf) [oDeaf ⟨y1, y2, y3, y4, y5⟩] ⟨rfl, htl.symm, rfl⟩ ⟨rfl, rfl, rfl⟩ rfl (by simp; omega) (by simp; omega) ?_)
   | ((with_reducible show DrawK _ _ _ _); refine dK ?_)) <;> with_reducible refine wK ?_)
  | apply trivial)
     refine NextK.mk (j + 1) (by omega) (by omega) ?_
     rw [htk, ← snoc_deaf]
     (refine fK ?_; (with_reducible repeat' (first | exact trivial | (show _ ∧ _; refine aK ?_ ?_))); (all_goals try rfl))
     all_goals first
      | (simp; done)
      | (simp; omega)
      | exact ⟨.refl rfl, rfl⟩
      | (refine ⟨.refl ?_, ?_⟩ <;> rw [snoc_deaf] <;> exact noRef_deaf _)
    ·have hjl : j = cs.length := by simp only [decide_eq_false_iff_not, castN] at h1; omega
     subst hjl
     rw [List.take_length]
     (have fct := And.intro hsm (And.intro hl1 (hle)); (repeat' (first
  | refine gF ?_ | refine aE ?_ ?_
  | ((first
   | ((with_reducible show HandK _ _ _ _ _); refine HandK.mul (a := 2) (b := ((st.map oState).length : Int)) (by rw [hsm]; omega) rfl rfl rfl rfl ?_)
   | ((with_reducible refine kQ 24 ?_); first | refine cV h24 c24 ?_ | refine CallK.val [181] h24d c24 ⟨⟨rfl, rfl, trivial⟩, rfl, ⟨rfl, rfl, rfl, rfl, trivial⟩, frz_deaf rfl rfl rfl rfl (noRef_classes _), trivial⟩ rfl rfl rfl ?_)
   | ((with_reducible refine kQ 27 ?_); refine cL h27b c27 ?_)
   | ((with_reducible show DrawK _ _ _ _); refine dK ?_)) <;> with_reducible refine wK ?_)
  | apply trivial)); all_goals clear fct)
     all_goals first | rfl | (simp [hle]; done)
theorem toldS_again (f : ForM) (d : DeskM) (cs : List ClassM) (n : Int) (s : StateM) : toldS f d cs n (toldS f d cs n s) = toldS f d cs n s ∧ toldD f d cs n (toldS f d cs n s) = [] := by
 cases h : dutyB f d cs n s with
 | false =>
   have e : toldS f d cs n s = s := by unfold toldS; rw [h, if_neg (by simp)]
   rw [e]
   exact ⟨e, by unfold toldD; rw [h, if_neg (by simp)]⟩
 | true =>
   have e : toldS f d cs n s = ⟨s.phase, s.df, ownN f.nodes n, barN f.nodes n⟩ := by unfold toldS; rw [h, if_pos rfl]
   rw [e]
   have h' : dutyB f d cs n ⟨s.phase, s.df, ownN f.nodes n, barN f.nodes n⟩ = true := h
   constructor
   ·unfold toldS; rw [h', if_pos rfl]
   ·unfold toldD; rw [h', if_pos rfl, if_pos rfl, if_pos rfl]; rfl
theorem told_get {f : ForM} {st : List StateM} {d : DeskM} {cs : List ClassM} (h : lookV f st d = true) {n : Nat} (hn : n < st.length) : (toldSt f st d cs)[n]? = some (toldS f d cs (n : Int) (sAt st n)) := by
 unfold toldSt
 rw [if_pos h, tSt_get hn, if_pos hn]
theorem told_len {f : ForM} {st : List StateM} {d : DeskM} {cs : List ClassM} : (toldSt f st d cs).length = st.length := by
 unfold toldSt
 split
 ·exact tSt_len ..
 ·rfl
theorem told_again {f : ForM} {st : List StateM} {d : DeskM} {cs : List ClassM} (h : lookV f st d = true) : toldSt f (toldSt f st d cs) d cs = toldSt f st d cs ∧ toldDu f (toldSt f st d cs) d cs = [] := by
 have h2 : lookV f (toldSt f st d cs) d = true := by
  unfold lookV at h ⊢
  rw [told_len]; exact h
 have ha : ∀ n, n < st.length → sAt (toldSt f st d cs) n = toldS f d cs (n : Int) (sAt st n) := fun n hn => sAt_of (told_get h hn)
 constructor
 ·apply List.ext_getElem?
  intro n
  by_cases hn : n < st.length
  ·rw [told_get h2 (by rw [told_len]; exact hn), told_get h hn, ha n hn, (toldS_again f d cs n _).1]
  ·rw [List.getElem?_eq_none (by rw [told_len, told_len]; omega), List.getElem?_eq_none (by rw [told_len]; omega)]
 ·unfold toldDu tDu
  rw [if_pos h2, List.flatMap_eq_nil_iff]
  intro n hn
  rw [told_len, List.mem_range] at hn
  rw [ha n hn, (toldS_again f d cs n _).2]
theorem tDu_pre (f : ForM) (d : DeskM) (cs : List ClassM) (st : List StateM) (k : Nat) : ∀ j, ∃ r, tDu f d cs st (k + j) = tDu f d cs st k ++ r
 | 0 => ⟨[], by simp⟩
 | j + 1 => by
   obtain ⟨r, hr⟩ := tDu_pre f d cs st k j
   exact ⟨r ++ toldD f d cs ((k + j : Nat) : Int) (sAt st (k + j)), by rw [← Nat.add_assoc, tDu_step, hr, List.append_assoc]⟩
theorem four {cb c1 : Bool} {p q : Prop} [Decidable p] [Decidable q] (h : (((cb && c1) && decide p) && decide q) = false) : cb = false ∨ (cb = true ∧ c1 = false) ∨ (cb = true ∧ c1 = true ∧ ¬ p) ∨ (cb = true ∧ c1 = true ∧ p ∧ ¬ q) := by
 cases cb <;> cases c1 <;> by_cases hp : p <;> by_cases hq : q <;> simp [hp, hq] at h ⊢
theorem f6_ok (f : ForM) (st : List StateM) (d : DeskM) (cs : List ClassM) : FnOK Tryz.prog 6 [] [eFor f, eStates st, eDesk d, eClasses cs] [] (eBool true) := by
 have h22 := f22_ok
 have h35 := f35_ok f st d cs
 cases b1 : rightW f st d cs with
 | false =>
   rw [b1] at h35
   obtain ⟨l, m⟩ := f
   obtain ⟨d1, d2, d3, d4⟩ := d
   refine FnOK.startC (rvs := [.tmp 8]) G G_good Tryz.func6 rfl Tryz.ntmps6 rfl rfl ?_; with_reducible refine wD ?_
   repeat' (first
  | refine gK ?_ | refine aE ?_ ?_
  | ((first
   | ((with_reducible refine kQ 22 ?_); refine cL h22 c22 ?_)
   | ((with_reducible refine kQ 35 ?_); refine cL h35 c35 ?_)) <;> with_reducible refine wK ?_)
  | apply trivial)
   all_goals rfl
 | true =>
 have R := rightW_of b1
 have hs := R.hs
 have hcs : ∀ c ∈ cs, c.hooks.length ≤ 100000 := fun c hc => (R.hc c hc).hooks
 rw [b1] at h35
 have h60 := hs.len
 have hlf := R.len
 have hgt := fun n hn => told_get (cs := cs) R.look (n := n) hn
 have hnl := told_len (f := f) (st := st) (d := d) (cs := cs)
 have h24 := f24_ok f hs st (by omega) d R.hd cs hcs
 have h24d := f24_ok f hs (toldSt f st d cs) (by omega) d R.hd cs hcs
 rw [(told_again R.look).1, (told_again R.look).2] at h24d
 have h27b := f27_ok (toldSt f st d cs) (toldSt f st d cs) (by omega)
 rw [decide_eq_true rfl] at h27b
 have hdu : toldDu f st d cs = tDu f d cs st st.length := by unfold toldDu; rw [if_pos R.look]
 rw [hdu] at h24
 have hds := fun k => tDu_step f d cs st k
 have hpre := fun k => tDu_pre f d cs st k
 have hdl := fun k => tDu_len f d cs st k
 have hd0 : tDu f d cs st 0 = [] := rfl
 have hSd : ∀ k s, toldS f d cs k s = if dutyB f d cs k s = true then ⟨s.phase, s.df, ownN f.nodes k, barN f.nodes k⟩ else s := fun k s => rfl
 have hDd : ∀ k s, toldD f d cs k s = if dutyB f d cs k s = true then
   (if s.owner = ownN f.nodes k then [] else tellD (classV s d cs) k (ownedT s.owner (ownN f.nodes k))) ++ (if s.barred = barN f.nodes k then [] else tellD (classV s d cs) k (barredT (barN f.nodes k))) else [] := fun k s => rfl
 have h36 := fun s => f36_ok s d cs
 have h37 := fun s n => f37_ok (classV s d cs) (classV_hooks hcs s d) n
 have h38 := fun n => f38_ok f hs n
 have h39 := fun n => f39_ok f hs n
 have hsA : ∀ k, k < st.length → st[k]? = some (sAt st k) := fun k hk => by
  unfold sAt; rw [List.getElem?_eq_getElem hk]; rfl
 have hth : ∀ k, k < st.length → ∃ x, f.nodes[k]? = some x ∧ thereN f.nodes (k : Int) = true ∧ nd f.nodes (k : Int) = x := fun k hk => by
  obtain ⟨x, hx⟩ : ∃ x, f.nodes[k]? = some x := ⟨_, List.getElem?_eq_getElem (by omega)⟩
  have ht : thereN f.nodes (k : Int) = true := there_get hx
  obtain ⟨i, y, ei, hy, hny⟩ := there_iff.1 ht
  obtain rfl : k = i := by omega
  rw [hx] at hy; cases hy
  exact ⟨x, hx, ht, hny⟩
 have hdb : ∀ k s, dutyB f d cs k s = (((classB s d cs && (classV s d cs).form) && decide (s.phase = 3)) && decide ((nd f.nodes k).kind = 1)) := fun k s => rfl
 have hown : ∀ n, ownF f n = if (thereN f.nodes n && rightF f) = true then ownN f.nodes n else -1 := fun n => rfl
 have hr := R.rf
 generalize toldSt f st d cs = now at *
 generalize tDu f d cs st = td at *
 clear b1 R hcs hs hdu
 obtain ⟨dl, hdle⟩ : ∃ dl, td st.length = dl := ⟨_, rfl⟩
 rw [hdle] at h24
 have hdm : (dl.map oDueN).length = dl.length := List.length_map ..
 have hsm : (st.map oState).length = st.length := List.length_map ..
 have hnm : (now.map oState).length = st.length := by rw [List.length_map]; exact hnl
 obtain ⟨l, m⟩ := f
 obtain ⟨d1, d2, d3, d4⟩ := d
 have h60' : l.length ≤ 60 := h60
 have hlf' : st.length = l.length := hlf
 refine FnOK.startC (rvs := [.tmp 8]) G G_good Tryz.func6 rfl Tryz.ntmps6 rfl rfl ?_; with_reducible refine wD ?_
 (have fct := And.intro hsm (hnm); (repeat' (first
  | refine gF ?_ | refine aE ?_ ?_
  | ((first
   | ((with_reducible refine kQ 22 ?_); refine cL h22 c22 ?_)
   | ((with_reducible refine kQ 35 ?_); refine cL h35 c35 ?_)
   | ((with_reducible refine kQ 24 ?_); first | refine cV h24 c24 ?_ | refine cV h24d c24 ?_)
   | ((with_reducible refine kQ 27 ?_); refine cL h27b c27 ?_)) <;> with_reducible refine wK ?_)
  | apply trivial)); all_goals clear fct)
 refine LoopK.use G G_good (fun (k : Nat) => [(1, eStates st), (3, eClasses cs), (4, .ptr 40 0 0), (6, .ptr 60 0 0), (9, eStates now), (10, eDuesN dl), (13, eInt (td k).length), (14, eInt k)])
  (fun _ => [(40, .live 2 [eFor ⟨l, m⟩] false), (60, .live 4 [eDesk ⟨d1, d2, d3, d4⟩] false)])
  (fun k => k ≤ st.length) (fun k => st.length - k) 0 (Nat.zero_le _) ?_ ?_
 ·rw [hd0]
  (refine fK ?_; (with_reducible repeat' (first | exact trivial | (show _ ∧ _; refine aK ?_ ?_))); (all_goals try rfl))
  all_goals first
   | exact ⟨.refl rfl, rfl⟩
 intro k hk
 with_reducible refine wK ?_
 refine IfK.mk (fun h1 => ?_) (fun h1 => ?_) <;> (try simp only [castN] at h1) <;> with_reducible refine wK ?_
 ·have hk' : k < st.length := by simp only [hsm, decide_eq_true_eq, castN] at h1; omega
  obtain ⟨x, hx, ht, hnx⟩ := hth k hk'
  have hsk := hsA k hk'
  have hgk := hgt k hk'
  have hst := hds k
  have hSd := hSd k (sAt st k)
  have hDd := hDd k (sAt st k)
  have hdb := hdb k (sAt st k)
  have h36 := h36 (sAt st k)
  have hA := h37 (sAt st k) 5
  have hB := h37 (sAt st k) 6
  have h38 := h38 k
  have h39 := h39 k
  rw [hown, show thereN (ForM.mk l m).nodes k = true from ht, hr, if_pos (by rfl)] at h38
  rw [show thereN (ForM.mk l m).nodes k = true from ht, hr, Bool.true_and, Bool.true_and] at h39
  obtain ⟨rr, hrr⟩ := hpre (k + 1) (st.length - (k + 1))
  rw [show k + 1 + (st.length - (k + 1)) = st.length by omega, hdle] at hrr
  have hdlk := hdl k
  have hdlk1 := hdl (k + 1)
  rw [hSd] at hgk
  rw [hDd] at hst
  rw [hnx] at hdb
  clear hSd hDd hds hpre hdl hsA hgt hth hown h24 h24d h27b h35 hnx
  generalize sAt st k = s at *
  generalize hdy : dutyB ⟨l, m⟩ ⟨d1, d2, d3, d4⟩ cs (k : Int) s = dy at *
  generalize classV s ⟨d1, d2, d3, d4⟩ cs = cv at *
  generalize classB s ⟨d1, d2, d3, d4⟩ cs = cb at *
  generalize ownN l (k : Int) = o at *
  generalize barN l (k : Int) = b at *
  generalize hp : (td k).length = p at *
  obtain ⟨c1, c2, c3, c4, c5⟩ := cv
  obtain ⟨s1, s2, s3, s4⟩ := s
  obtain ⟨a1, a2, a3, a4, a5, a6, a7, a8, a9, a10⟩ := x
  simp only at hdb hx hlf
  cases dy with
  | false =>
    rw [if_neg (by simp)] at hst hgk
    rw [List.append_nil] at hst
    have h4 := four hdb.symm
    clear hdb hdy
    rcases h4 with h4 | h4 | h4 | h4
    all_goals
     (have fct := h4; (repeat' (first
  | refine gF ?_ | refine aE ?_ ?_
  | ((first
   | (first | refine IdxK.mk k (eState ⟨s1, s2, s3, s4⟩) rfl (state_get hsk) ?_ | refine IdxK.mk k (eState ⟨s1, s2, s3, s4⟩) rfl (state_get hgk) ?_ | refine IdxK.mk k (eNode _) rfl (node_get hx) ?_)
   | ((with_reducible refine kQ 36 ?_); refine cV h36 c36 ?_)
   | ((with_reducible show ElemK _ _ _ _ _); refine ElemK.mk _ rfl ?_)
   | ((with_reducible show EqK _ _ _ _ _ _ _ _); refine EqK.mk _ (fun y z w => state_neq ⟨s1, s2, s3, s4⟩ ⟨s1, s2, s3, s4⟩ y z w) ?_)
   | ((with_reducible show DrawK _ _ _ _); refine dK ?_)) <;> with_reducible refine wK ?_)
  | apply trivial)); all_goals clear fct)
     refine NextK.mk (k + 1) (by omega) (by omega) ?_
     rw [hst, hp]
     (refine fK ?_; (with_reducible repeat' (first | exact trivial | (show _ ∧ _; refine aK ?_ ?_))); (all_goals try rfl))
     all_goals first
      | exact ⟨.refl rfl, rfl⟩
      | (simp; done)
  | true =>
    rw [if_pos rfl] at hst hgk
    simp only at hst hgk
    obtain ⟨⟨⟨g1, g2⟩, g3⟩, g4⟩ : ((cb = true ∧ c1 = true) ∧ s1 = 3) ∧ a1 = 1 := by simpa using hdb.symm
    subst g1
    subst g2
    generalize hwA : hearsC ⟨true, c2, c3, c4, c5⟩ 5 = wA at *
    generalize hwB : hearsC ⟨true, c2, c3, c4, c5⟩ 6 = wB at *
    have hgA : ∀ t, t = ownedT s3 o → hearsC ⟨true, c2, c3, c4, c5⟩ t.kind = wA := fun t e => by rw [e]; exact hwA
    have hgB : ∀ t, t = barredT b → hearsC ⟨true, c2, c3, c4, c5⟩ t.kind = wB := fun t e => by rw [e]; exact hwB
    have eA : ∃ n1 : Nat, ∃ X : List DueN, (if s3 = o then [] else tellD ⟨true, c2, c3, c4, c5⟩ (k : Int) (ownedT s3 o)) = X ∧ X.length = n1 ∧ (((o = s3) = True ∧ True ∧ n1 = 0 ∧ True) ∨ ((o = s3) = False ∧ wA = false ∧ n1 = 0 ∧ True) ∨ ((o = s3) = False ∧ wA = true ∧ n1 = 1 ∧ X = [⟨(k : Int), ownedT s3 o⟩])) := by
     by_cases e : o = s3
     ·exact ⟨0, [], if_pos e.symm, rfl, .inl ⟨eq_true e, trivial, rfl, trivial⟩⟩
     ·rw [if_neg (fun h => e h.symm)]
      cases wA with
      | true => exact ⟨1, _, tellD_yes (hgA _ rfl), rfl, .inr (.inr ⟨eq_false e, rfl, rfl, rfl⟩)⟩
      | false => exact ⟨0, _, tellD_no (hgA _ rfl), rfl, .inr (.inl ⟨eq_false e, rfl, rfl, trivial⟩)⟩
    have eB : ∃ n2 : Nat, ∃ Y : List DueN, (if s4 = b then [] else tellD ⟨true, c2, c3, c4, c5⟩ (k : Int) (barredT b)) = Y ∧ Y.length = n2 ∧ (((b == s4) = true ∧ True ∧ n2 = 0 ∧ True) ∨ ((b == s4) = false ∧ wB = false ∧ n2 = 0 ∧ True) ∨ ((b == s4) = false ∧ wB = true ∧ n2 = 1 ∧ Y = [⟨(k : Int), barredT b⟩])) := by
     by_cases e : s4 = b
     ·exact ⟨0, [], if_pos e, rfl, .inl ⟨by rw [e]; simp, trivial, rfl, trivial⟩⟩
     ·have e' : (b == s4) = false := by cases b <;> cases s4 <;> simp at e ⊢
      rw [if_neg e]
      cases wB with
      | true => exact ⟨1, _, tellD_yes (hgB _ rfl), rfl, .inr (.inr ⟨e', rfl, rfl, rfl⟩)⟩
      | false => exact ⟨0, _, tellD_no (hgB _ rfl), rfl, .inr (.inl ⟨e', rfl, rfl, trivial⟩)⟩
    obtain ⟨n1, X, hX, hXl, hA'⟩ := eA
    obtain ⟨n2, Y, hY, hYl, hB'⟩ := eB
    rw [hX, hY] at hst
    have hst2 : (td (k + 1)).length = p + n1 + n2 := by rw [hst, List.length_append, List.length_append, hp, hXl, hYl]; omega
    have hdlL : p + n1 + n2 ≤ dl.length := by rw [hrr, List.length_append, hst2]; omega
    have hi1 : ∀ q, X = [q] → dl[p]? = some q := fun q e => by
     rw [hrr, hst, e, ← hp]; simp
    have hi2 : ∀ q, Y = [q] → dl[p + n1]? = some q := fun q e => by
     rw [hrr, hst, e, ← hp, ← hXl, ← List.append_assoc, List.getElem?_append_left (by simp), List.getElem?_append_right (by simp)]; simp
    clear hgA hgB hwA hwB hX hY hst hrr hXl hYl hdb hdy
    have hg := And.intro g3 g4
    rcases hA' with ⟨e1, w1, z1, t1⟩ | ⟨e1, w1, z1, t1⟩ | ⟨e1, w1, z1, t1⟩ <;> rcases hB' with ⟨e2, w2, z2, t2⟩ | ⟨e2, w2, z2, t2⟩ | ⟨e2, w2, z2, t2⟩
    all_goals
     subst z1
     subst z2
     (have fct := And.intro hdm (And.intro hg (And.intro e1 (And.intro w1 (And.intro e2 (w2))))); (repeat' (first
  | refine gF ?_ | refine aE ?_ ?_
  | ((first
   | (first | refine IdxK.mk k (eState ⟨s1, s2, s3, s4⟩) rfl (state_get hsk) ?_ | refine IdxK.mk k (eState ⟨s1, s2, o, b⟩) rfl (state_get hgk) ?_ | refine IdxK.mk k (eNode _) rfl (node_get hx) ?_ | refine IdxK.mk p (eDueN ⟨(k : Int), ownedT s3 o⟩) rfl (dueN_get (hi1 _ t1)) ?_ | refine IdxK.mk (p + 0) (eDueN ⟨(k : Int), barredT b⟩) (by (try simp only [castN]); omega) (dueN_get (hi2 _ t2)) ?_ | refine IdxK.mk (p + 1) (eDueN ⟨(k : Int), barredT b⟩) (by (try simp only [castN]); omega) (dueN_get (hi2 _ t2)) ?_)
   | ((with_reducible refine kQ 36 ?_); refine cV h36 c36 ?_)
   | ((with_reducible refine kQ 37 ?_); first | refine cL hA c37 ?_ | refine cL hB c37 ?_)
   | ((with_reducible refine kQ 38 ?_); refine cL h38 c38 ?_)
   | ((with_reducible refine kQ 39 ?_); refine cL h39 c39 ?_)
   | ((with_reducible show ElemK _ _ _ _ _); refine ElemK.mk _ rfl ?_)
   | ((with_reducible show EqK _ _ _ _ _ _ _ _); first | refine EqK.mk _ (fun y z w => dueN_neq ⟨(k : Int), ownedT s3 o⟩ ⟨(k : Int), ownedT s3 o⟩ y z w) ?_ | refine EqK.mk _ (fun y z w => dueN_neq ⟨(k : Int), barredT b⟩ ⟨(k : Int), barredT b⟩ y z w) ?_)
   | ((with_reducible show DrawK _ _ _ _); refine dK ?_)) <;> with_reducible refine wK ?_)
  | apply trivial)); all_goals clear fct)
     refine NextK.mk (k + 1) (by omega) (by omega) ?_
     rw [hst2]
     (refine fK ?_; (with_reducible repeat' (first | exact trivial | (show _ ∧ _; refine aK ?_ ?_))); (all_goals try rfl))
     all_goals first
      | exact ⟨.refl rfl, rfl⟩
      | (simp; done)
      | (simp; omega)
 ·have hjl : k = st.length := by simp only [hsm, decide_eq_false_iff_not, castN] at h1; omega
  subst hjl
  rw [hdle]
  (have fct := hdm; (repeat' (first
  | refine gF ?_ | refine aE ?_ ?_
  | (((with_reducible show DrawK _ _ _ _); refine dK ?_) <;> with_reducible refine wK ?_)
  | apply trivial)); all_goals clear fct)
  all_goals first | rfl | (simp [hdm]; done)
theorem rStr : Reads Tryz.prog 9 1 eStr (fun s => s.size ≤ maxLen) := Reads.str Tryz.underlying9 (by kernel_rfl)
theorem rInt : Reads Tryz.prog 3 1 oInt (fun _ => True) := (Reads.int Tryz.underlying3 (by kernel_rfl)).conv id id (fun _ => rfl) (fun _ => rfl) (fun _ _ => trivial)
theorem rBool : Reads Tryz.prog 4 1 (fun b : Bool => .lit (.bool b)) (fun _ => True) := Reads.bool Tryz.underlying4 (by kernel_rfl)
theorem rDef : Reads Tryz.prog 39 3 oDef (fun _ => True) :=
 (Reads.struct (l := [(0, 9), (1, 9), (2, 3)]) Tryz.underlying39 (by kernel_rfl) rfl (.cons rStr (.cons rStr (.cons rInt .nil)))).conv
  (fun (a, b, c, _) => ⟨a, b, c⟩) (fun t => (t.name, t.locl, t.cls, ())) (fun _ => rfl) (fun _ => rfl) (fun _ _ => trivial)
theorem rWait : Reads Tryz.prog 89 2 oWait (fun _ => True) :=
 (Reads.struct (l := [(0, 9), (1, 3)]) Tryz.underlying89 (by kernel_rfl) rfl (.cons rStr (.cons rInt .nil))).conv
  (fun (a, b, _) => ⟨a, b⟩) (fun t => (t.name, t.ticket, ())) (fun _ => rfl) (fun _ => rfl) (fun _ _ => trivial)
theorem rDefs1 : Reads Tryz.prog 25 1 eDefs (fun _ => True) := (Reads.slice Tryz.underlying25 (by kernel_rfl) rDef (by omega)).conv id id (fun _ => rfl) (fun _ => rfl) (fun _ _ => trivial)
theorem rWaits1 : Reads Tryz.prog 26 1 eWaits (fun _ => True) := (Reads.slice Tryz.underlying26 (by kernel_rfl) rWait (by omega)).conv id id (fun _ => rfl) (fun _ => rfl) (fun _ _ => trivial)
theorem rDesk : Reads Tryz.prog 28 4 eDesk (fun _ => True) :=
 (Reads.struct (l := [(0, 25), (1, 26), (2, 3), (3, 4)]) Tryz.underlying28 (by kernel_rfl) rfl (.cons rDefs1 (.cons rWaits1 (.cons rInt (.cons rBool .nil))))).conv
  (fun (a, b, c, e, _) => ⟨a, b, c, e⟩) (fun t => (t.defs, t.waits, t.next, t.busy, ())) (fun _ => rfl) (fun _ => rfl) (fun _ _ => trivial)
theorem rAttr : Reads Tryz.prog 130 2 oAttr (fun _ => True) :=
 (Reads.struct (l := [(0, 9), (1, 9)]) Tryz.underlying130 (by kernel_rfl) rfl (.cons rStr (.cons rStr .nil))).conv
  (fun (a, b, _) => ⟨a, b⟩) (fun t => (t.name, t.value, ())) (fun _ => rfl) (fun _ => rfl) (fun _ _ => trivial)
theorem rAttrs1 : Reads Tryz.prog 40 1 eAttrs (fun _ => True) := (Reads.slice Tryz.underlying40 (by kernel_rfl) rAttr (by omega)).conv id id (fun _ => rfl) (fun _ => rfl) (fun _ _ => trivial)
theorem rInts1 : Reads Tryz.prog 32 1 eInts (fun _ => True) := (Reads.slice Tryz.underlying32 (by kernel_rfl) rInt (by omega)).conv id id (fun _ => rfl) (fun _ => rfl) (fun _ _ => trivial)
theorem rNode : Reads Tryz.prog 42 10 oNode (fun _ => True) :=
 (Reads.struct (l := [(0, 3), (1, 9), (2, 9), (3, 9), (4, 40), (5, 3), (6, 32), (7, 3), (8, 3), (9, 3)]) Tryz.underlying42 (by kernel_rfl) rfl
  (.cons rInt (.cons rStr (.cons rStr (.cons rStr (.cons rAttrs1 (.cons rInt (.cons rInts1 (.cons rInt (.cons rInt (.cons rInt .nil))))))))))).conv
  (fun (a, b, c, d, e, f, g, h, i, j, _) => ⟨a, b, c, d, e, f, g, h, i, j⟩)
  (fun t => (t.kind, t.name, t.is, t.data, t.attrs, t.parent, t.kids, t.host, t.under, t.doc, ())) (fun _ => rfl) (fun _ => rfl) (fun _ _ => trivial)
theorem rNodes1 : Reads Tryz.prog 22 1 eNodes (fun _ => True) := (Reads.slice Tryz.underlying22 (by kernel_rfl) rNode (by omega)).conv id id (fun _ => rfl) (fun _ => rfl) (fun _ _ => trivial)
theorem rFor : Reads Tryz.prog 24 2 eFor (fun _ => True) :=
 (Reads.struct (l := [(0, 22), (1, 3)]) Tryz.underlying24 (by kernel_rfl) rfl (.cons rNodes1 (.cons rInt .nil))).conv
  (fun (a, b, _) => ⟨a, b⟩) (fun t => (t.nodes, t.most, ())) (fun _ => rfl) (fun _ => rfl) (fun _ _ => trivial)
theorem laid : Go.laidOutB Tryz.prog = true := by kernel_rfl
abbrev laidRows : List (String × DataW Unit) := [("unicode.White_Space", Go.Proofs.YtpogpigciaajoaaGreatDoor.Rows.laid_unicode_White_Space), ("strings.asciiSpace", Go.Proofs.YtpogpigciaajoaaGreatDoor.Rows.laid_strings_asciiSpace)]
theorem tab_eq : (Go.Proofs.YtpogpigciaajoaaGreatDoor.Rows.laid_strings_asciiSpace : DataW Unit) = Lib.tabData .u8 Lib.asciiSpaceTab := by kernel_rfl
theorem door_met (os : Os) (args : Array Value) : laidMetH Tryz.prog laidRows ((World.doorLaid Tryz.prog 33 os).forCall (fun _ _ => 0) ⟨#[], args, []⟩).memory :=
 laidMetH_of_parts3 (fuel := 8) (laidMet_of_run' 8 (by kernel_rfl) (by kernel_rfl)) (by kernel_rfl) (by kernel_rfl)
theorem gSp : Tryz.prog.globalNamed "strings.asciiSpace" = some 0 := by kernel_rfl
theorem tySp : (Tryz.prog.globals[0]?).map (·.type) = some 226 := by kernel_rfl
theorem tabs_of_laid {W : World} (h : laidMetH Tryz.prog laidRows W) : Tabs Tryz.prog W fun _ => none := by
 rw [MakeChecks.laidMetH_plain _ _ _ (by kernel_rfl)] at h
 obtain ⟨ps, ⟨g0, t0, cs0, f0, p0, q0, hg0, ht0, hv0, hd0, ⟨g1, t1, cs1, f1, p1, q1, hg1, ht1, hv1, hd1, _, _⟩, _⟩, _⟩ := h
 intro g hg
 obtain rfl := Option.some.inj (hg.symm.trans hg1)
 have e : g = 0 := Option.some.inj (hg.symm.trans gSp)
 have ht : (Tryz.prog.globals[g]?).map (·.type) = some 226 := by rw [e]; exact tySp
 obtain rfl := Option.some.inj (ht.symm.trans ht1)
 rw [tab_eq] at hd1
 have hc := Lib.cells_of_tab Tryz.underlying226 Tryz.underlying5 (by kernel_rfl) (by kernel_rfl) hd1
 have htab : Lib.TabIs Tryz.prog W "strings.asciiSpace" .u8 Lib.asciiSpaceTab := by
  unfold Lib.TabIs
  rw [hv1, ← hc]
 have hcell : ∀ c : Nat, c < 256 → W.cell? ⟨g, c, none⟩ = some (.int .u8 (if Lib.isSp (UInt8.ofNat c) then 1 else 0)) := fun c hc => by
  rw [htab.cell hg c (by rw [Lib.asciiSpaceTab_length]; exact hc), Lib.asciiSpaceTab_at c hc]
 refine ⟨(by rintro ⟨_, _, h, _⟩; cases h), World.block_lt_of_cell? _ _ (hcell 0 (by omega)), hcell⟩
theorem rOp : Reads Tryz.prog 293 7 oOp (fun _ => True) :=
 (Reads.struct (l := [(0, 3), (1, 3), (2, 3), (3, 3), (4, 9), (5, 9), (6, 4)]) Tryz.underlying293 (by kernel_rfl) rfl (.cons rInt (.cons rInt (.cons rInt (.cons rInt (.cons rStr (.cons rStr (.cons rBool .nil)))))))).conv
  (fun (a, b, c, d, e, f, g, _) => ⟨a, b, c, d, e, f, g⟩) (fun t => (t.kind, t.a, t.b, t.c, t.s, t.t, t.must, ())) (fun _ => rfl) (fun _ => rfl) (fun _ _ => trivial)
theorem rOps1 : Reads Tryz.prog 60 1 eOps (fun _ => True) := (Reads.slice Tryz.underlying60 (by kernel_rfl) rOp (by omega)).conv id id (fun _ => rfl) (fun _ => rfl) (fun _ _ => trivial)
theorem rHook : Reads Tryz.prog 101 2 oHook (fun _ => True) :=
 (Reads.struct (l := [(0, 3), (1, 60)]) Tryz.underlying101 (by kernel_rfl) rfl (.cons rInt (.cons rOps1 .nil))).conv
  (fun (a, b, _) => ⟨a, b⟩) (fun t => (t.kind, t.prog, ())) (fun _ => rfl) (fun _ => rfl) (fun _ _ => trivial)
theorem rHooks1 : Reads Tryz.prog 61 1 eHooks (fun _ => True) := (Reads.slice Tryz.underlying61 (by kernel_rfl) rHook (by omega)).conv id id (fun _ => rfl) (fun _ => rfl) (fun _ _ => trivial)
theorem rStrO : Reads Tryz.prog 9 1 oStr (fun s => s.size ≤ maxLen) := rStr.conv id id (fun _ => rfl) (fun _ => rfl) (fun _ h => h)
theorem rStrs1 : Reads Tryz.prog 59 1 eStrs (fun _ => True) := (Reads.slice Tryz.underlying59 (by kernel_rfl) rStrO (by omega)).conv id id (fun _ => rfl) (fun _ => rfl) (fun _ _ => trivial)
theorem rClass : Reads Tryz.prog 63 5 oClass (fun _ => True) :=
 (Reads.struct (l := [(0, 4), (1, 59), (2, 60), (3, 60), (4, 61)]) Tryz.underlying63 (by kernel_rfl) rfl (.cons rBool (.cons rStrs1 (.cons rOps1 (.cons rOps1 (.cons rHooks1 .nil)))))).conv
  (fun (a, b, c, d, e, _) => ⟨a, b, c, d, e⟩) (fun t => (t.form, t.watch, t.peek, t.make, t.hooks, ())) (fun _ => rfl) (fun _ => rfl) (fun _ _ => trivial)
theorem rClasses : Reads Tryz.prog 48 1 eClasses (fun _ => True) := (Reads.slice Tryz.underlying48 (by kernel_rfl) rClass (by omega)).conv id id (fun _ => rfl) (fun _ => rfl) (fun _ _ => trivial)
theorem rState : Reads Tryz.prog 67 4 oState (fun _ => True) :=
 (Reads.struct (l := [(0, 3), (1, 3), (2, 3), (3, 4)]) Tryz.underlying67 (by kernel_rfl) rfl (.cons rInt (.cons rInt (.cons rInt (.cons rBool .nil))))).conv
  (fun (a, b, c, d, _) => ⟨a, b, c, d⟩) (fun t => (t.phase, t.df, t.owner, t.barred, ())) (fun _ => rfl) (fun _ => rfl) (fun _ _ => trivial)
theorem rStates : Reads Tryz.prog 47 1 eStates (fun _ => True) := (Reads.slice Tryz.underlying47 (by kernel_rfl) rState (by omega)).conv id id (fun _ => rfl) (fun _ => rfl) (fun _ _ => trivial)
end Go.Proofs.Heir
