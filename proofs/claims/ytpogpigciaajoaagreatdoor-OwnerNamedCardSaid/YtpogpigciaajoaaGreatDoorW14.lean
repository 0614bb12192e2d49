/- Models, plain laws and contracts of functions of the given program; conditions as stated in each theorem. By an AI agent. -/
import Derived.Test.YtpogpigciaajoaaGreatDoorW12
import Derived.Test.YtpogpigciaajoaaGreatDoorW9
import Derived.Test.YtpogpigciaajoaaGreatDoorW13
import Derived.Test.YtpogpigciaajoaaGreatDoorW4
import Derived.Test.YtpogpigciaajoaaGreatDoorW6
import Derived.Test.YtpogpigciaajoaaGreatDoorW10
import Derived.Test.YtpogpigciaajoaaGreatDoorW1
import Derived.Test.YtpogpigciaajoaaGreatDoorRows
import Derived.ProofKit
import Derived.LaidMore
import Derived.OpenShut
import Derived.Stop.Joined
import Derived.Lib.LaidTab
import Derived.MakeChecks
set_option linter.unusedSimpArgs false
set_option linter.unusedVariables false
namespace Go.Proofs.Heir
open Go Go.Am Go.RowKit Go.Lib
set_option maxRecDepth 100000
set_option maxHeartbeats 8000000
def keepL (l : List NodeM) (ks : List Int) : Nat → List (Int × List (ByteArray × Int))
 | 0 => []
 | j + 1 => match ks[j]? with
   | some a => stepC l (keepL l ks j) a
   | none => keepL l ks j
theorem keepL_ok (l : List NodeM) (ks : List Int) : ∀ k, k ≤ 60 → IdsOK l (keepL l ks k) ∧ (keepL l ks k).length ≤ k
 | 0, _ => ⟨idsOK_nil l, Nat.le_refl _⟩
 | k + 1, h => by
   obtain ⟨h1, h2⟩ := keepL_ok l ks k (by omega)
   unfold keepL
   cases hk : ks[k]? with
   | none => exact ⟨h1, by show (keepL l ks k).length ≤ _; omega⟩
   | some a =>
     have h3 := stepC_len l (keepL l ks k) a
     exact ⟨⟨stepC_is h1.is _, by show (stepC l (keepL l ks k) a).length ≤ _; omega⟩, by show (stepC l (keepL l ks k) a).length ≤ _; omega⟩
def memV (f : ForM) (x : Int) : List Int := if (thereN f.nodes x && rightF f) = true then memF f.nodes x else []
theorem keptI_mem {l : List NodeM} {x : Int} : keptI (fun a => !decide (ownN l a = x)) (ordN l l.length (rootN l x)) = memN l x := by
 unfold keptI memN
 congr 1
 funext a
 simp
theorem frz_kept {m : ML} {fz : Nat → Bool} {tab : List (Nat × Nat)} {n t k : Nat} {ro : Bool} {rows : List AV} {l r : List Int} (h1 : lkM m t = .live 1 rows ro) (h2 : fz t = true) (h3 : rows = (l ++ r).map oInt) (h4 : k = l.length) : FrzK m fz (MF tab fz m n) (eInts l) t 0 k := by
 subst h3; subst h4
 have e : (l.map oInt).length = l.length := List.length_map ..
 exact .cut h1 h2 (by simp) (by rw [List.drop_zero, List.map_append, List.take_left' e]) (noRef_ints l)
theorem ints_outs (l : List Int) : okOuts [rInts l] := ⟨Wide.of_mem fun r hr => by
 obtain ⟨a, _, rfl⟩ := List.mem_map.1 hr
 rfl, noRef_ints l, trivial⟩
theorem f43_ok (f : ForM) (hs : SmallN f.nodes) (n : Int) : FnOK Tryz.prog 43 [] [eFor f, eInt n] [] (eInts (memV f n)) := by
 have h15 := f15_ok f hs
 have h73 := f73_ok f
 have h48 := f48_ok f hs
 have h78 := f78_own f hs
 have h83 := f83_ok f.nodes f.most hs
 have h60 := hs.len
 obtain ⟨l, m⟩ := f
 simp only at h73 h48 h78 h60 h83
 have hlm : (l.map oNode).length = l.length := List.length_map ..
 obtain ⟨o, ho⟩ : ∃ o, memV ⟨l, m⟩ n = o := ⟨_, rfl⟩
 rw [ho]
 unfold memV at ho
 simp only at ho
 refine FnOK.startS (rvs := [.tmp 4]) G G_good Tryz.func43 rfl Tryz.ntmps43 rfl rfl ?_; with_reducible refine wD ?_
 refine LoopK.fit (sl' := [(2, .fptr (eFor ⟨l, m⟩) 0), (3, .fptr (eInt n) 0), (4, nilA)]) (m' := []) ?_ ?_
 ·(refine fK ?_; (with_reducible repeat' (first | exact trivial | (show _ ∧ _; refine aK ?_ ?_))); (all_goals try rfl))
  all_goals first
   | exact ⟨2, [eFor ⟨l, m⟩], false, eFor ⟨l, m⟩, eFor ⟨l, m⟩, rfl, rfl, rfl, rfl, rfl, ⟨rfl, rfl, trivial⟩⟩
   | exact ⟨1, [eInt n], false, eInt n, eInt n, rfl, rfl, rfl, rfl, rfl, rfl⟩
   | exact .inl rfl
 refine LoopK.run G G_good ?_
 with_reducible refine wK ?_
 cases ht : thereN l n with
 | false =>
   have ht' : ¬ (0 ≤ n ∧ n < (l.length : Int)) := fun h => by
    unfold thereN at ht; simp [h.1, h.2] at ht
   rw [ht, Bool.false_and, if_neg (by simp)] at ho
   subst ho
   by_cases e1 : n < 0
   ·(have fct := (eq_true e1); (repeat' (first
  | refine gF ?_ | refine aE ?_ ?_
  | apply trivial)); all_goals clear fct)
    all_goals exact .inr (.inr ⟨1, rfl⟩)
   ·have e2 : (l.length : Int) ≤ n := by omega
    (have fct := And.intro (eq_false e1) (And.intro hlm ((eq_true e2))); (repeat' (first
  | refine gF ?_ | refine aE ?_ ?_
  | apply trivial)); all_goals clear fct)
    all_goals exact .inr (.inr ⟨1, rfl⟩)
 | true =>
   obtain ⟨e1, e2⟩ := there_pos ht
   have e1' : ¬ n < 0 := by omega
   have e2' : ¬ (l.length : Int) ≤ n := by omega
   cases hr : rightF ⟨l, m⟩ with
   | false =>
     rw [hr] at h15
     rw [ht, hr, Bool.true_and, if_neg (by simp)] at ho
     subst ho
     (have fct := And.intro (eq_false e1') (And.intro hlm ((eq_false e2'))); (repeat' (first
  | refine gF ?_ | refine aE ?_ ?_
  | (((with_reducible refine kQ 15 ?_); refine cL h15 c15 ?_) <;> with_reducible refine wK ?_)
  | apply trivial)); all_goals clear fct)
     all_goals exact .inr (.inr ⟨1, rfl⟩)
   | true =>
     rw [hr] at h15
     rw [ht, hr, Bool.true_and, if_pos rfl] at ho
     have T : Tree l := tree_of hr
     have h48 := h48 hr n ht
     have hrt := (root_there T n ht).1
     have h78 := h78 (rootN l n) (by rw [hr, show thereN l (rootN l n) = true from hrt]; rfl)
     have hol := ord_len T l.length hrt
     have hot : ∀ k ∈ ordN l l.length (rootN l n), thereN l k = true := fun k hk => (ord_root T hrt hk).1
     have hkp := keptI_mem (l := l) (x := n)
     obtain ⟨p, hp⟩ : ∃ p : Int → Bool, p = fun a => !decide (ownN l a = n) := ⟨_, rfl⟩
     rw [← hp] at hkp
     generalize ordN l l.length (rootN l n) = ks at h78 hol hot hkp
     have hasks : Asks l m n p ks (keepL l ks) := fun j a ha => by
      have hj := (List.getElem?_eq_some_iff.1 ha).1
      have := h83 hr (keepL l ks j) (keepL_ok l ks j (by omega)).1 n a (hot a (List.mem_of_getElem? ha))
      have e : keepL l ks (j + 1) = stepC l (keepL l ks j) a := by show (match ks[j]? with | some a => stepC l (keepL l ks j) a | none => keepL l ks j) = _; rw [ha]
      rw [e, hp]
      exact this
     have h82 := f82_fin (show ks.length ≤ 100000 by omega) hasks
     rw [hkp] at h82
     have hk0 : keepL l ks 0 = [] := rfl
     rw [hk0] at h82
     unfold memF at ho
     generalize memN l n = mm at h82 ho
     generalize keepL l ks ks.length = c2 at h82
     generalize List.replicate (ks.length - mm.length) (0 : Int) = gar at h82
     generalize rootN l n = r at h48 h78
     obtain ⟨i, x, e, hx, hnx⟩ := there_iff.1 ht
     rw [hnx] at ho
     have h81 := f81_ok x
     obtain ⟨fm, hfm⟩ : ∃ fm, isForm x = fm := ⟨_, rfl⟩
     rw [hfm] at h81 ho
     obtain ⟨a1, a2, a3, a4, a5, a6, a7, a8, a9, a10⟩ := x
     clear hfm
     cases fm with
     | false =>
       rw [if_neg (by simp)] at ho
       subst ho
       (have fct := And.intro (eq_false e1') (And.intro hlm ((eq_false e2'))); (repeat' (first
  | refine gF ?_ | refine aE ?_ ?_
  | ((first
   | ((with_reducible refine kQ 15 ?_); refine cL h15 c15 ?_)
   | (refine IdxK.mk i (eNode _) e (node_get hx) ?_)
   | ((with_reducible refine kQ 81 ?_); refine cL h81 c81 ?_)) <;> with_reducible refine wK ?_)
  | apply trivial)); all_goals clear fct)
       all_goals exact .inr (.inr ⟨1, rfl⟩)
     | true =>
       rw [if_pos rfl] at ho
       subst ho
       (have fct := And.intro (eq_false e1') (And.intro hlm ((eq_false e2'))); (repeat' (first
  | refine gF ?_ | refine aE ?_ ?_
  | ((first
   | ((with_reducible refine kQ 15 ?_); refine cL h15 c15 ?_)
   | (refine IdxK.mk i (eNode _) e (node_get hx) ?_)
   | ((with_reducible refine kQ 81 ?_); refine cL h81 c81 ?_)
   | ((with_reducible refine kQ 73 ?_); refine CallK.new 301 [] h73 c73 ⟨⟨rfl, rfl, trivial⟩, trivial⟩ rfl rfl rfl ⟨.nil _, rfl, trivial⟩ rfl ?_)
   | ((with_reducible refine kQ 48 ?_); refine cL h48 c48 ?_)
   | ((with_reducible refine kQ 78 ?_); refine CallK.new 351 [] h78 c78 ⟨⟨rfl, rfl, trivial⟩, rfl, trivial⟩ rfl rfl rfl (ints_outs ks) rfl ?_)) <;> with_reducible refine wK ?_)
  | apply trivial)); all_goals clear fct)
       refine CallK.lend (news := [mFin l m 301, idsM c2, rInts (mm ++ gar)]) [50, 301, 351] [] h82 c82 ⟨⟨rfl, rfl⟩, ⟨rfl, trivial, ⟨rfl, rfl⟩, ⟨rfl, rfl⟩, trivial⟩, trivial⟩ (ins_fin3 rfl rfl rfl) rfl ⟨⟨rfl, rfl⟩, rfl⟩ rfl news_fin3 rfl rfl ?_
       with_reducible refine wK ?_
       repeat' (first
  | refine gK ?_ | refine aE ?_ ?_
  | apply trivial)
       all_goals first | exact frz_kept rfl rfl rfl rfl
theorem o38a : FnOK Tryz.prog 38 [] [eFor oF, eInt 4] [] (eInt 2) := by
 have h := f38_ok oF oF_small 4
 rwa [show ownF oF 4 = 2 from by kernel_rfl] at h
theorem o38b : FnOK Tryz.prog 38 [] [eFor oF, eInt 5] [] (eInt (-1)) := by
 have h := f38_ok oF oF_small 5
 rwa [show ownF oF 5 = -1 from by kernel_rfl] at h
theorem o38c : FnOK Tryz.prog 38 [] [eFor oG, eInt 5] [] (eInt 2) := by
 have h := f38_ok oG oG_small 5
 rwa [show ownF oG 5 = 2 from by kernel_rfl] at h
theorem o43 : FnOK Tryz.prog 43 [] [eFor oG, eInt 2] [] (eInts [3, 4, 5]) := by
 have h := f43_ok oG oG_small 2
 rwa [show memV oG 2 = [3, 4, 5] from by kernel_rfl] at h
theorem o42 : FnOK Tryz.prog 42 [] [eFor oG] [] (eInts (allF oG)) := f42_ok oG oG_small
theorem o42l : ((allF oG).map oInt).length = 6 := by rw [List.length_map]; kernel_rfl
theorem o45 : FnOK Tryz.prog 45 [] [eInts [3, 4, 5], eInts [3, 4, 5]] [] (eBool true) := by
 have h := f45_ok [3, 4, 5] [3, 4, 5] (by decide)
 rwa [decide_eq_true rfl] at h
theorem f41_ok : FnOK Tryz.prog 41 [] [] [] (eBool true) := by
 refine FnOK.startC (rvs := [.tmp 0]) G G_good Tryz.func41 rfl Tryz.ntmps41 rfl rfl ?_; with_reducible refine wD ?_
 refine cV ofresh_ok c51 ?_; with_reducible refine wK ?_
 repeat' (first
  | refine gK ?_ | refine aE ?_ ?_
  | (((with_reducible refine kQ 80 ?_); refine cV oins_ok c80 ?_) <;> with_reducible refine wK ?_)
  | apply trivial)
 (have fct := o42l; (repeat' (first
  | refine gF ?_ | refine aE ?_ ?_
  | ((first
   | ((with_reducible refine kQ 38 ?_); first | refine cL o38a c38 ?_ | refine cL o38b c38 ?_ | refine cL o38c c38 ?_)
   | ((with_reducible refine kQ 43 ?_); refine cV o43 c43 ?_)
   | ((with_reducible refine kQ 45 ?_); refine CallK.lit [431] o45 c45 ⟨rfl, frz_ints (l := [3, 4, 5]) rfl rfl rfl rfl, trivial⟩ rfl rfl ?_)
   | ((with_reducible refine kQ 42 ?_); refine cV o42 c42 ?_)
   | ((with_reducible show DrawK _ _ _ _); refine dK ?_)) <;> with_reducible refine wK ?_)
  | apply trivial)); all_goals clear fct)
 all_goals first | rfl



theorem there0 {f : ForM} (h : rightF f = true) : thereN f.nodes 0 = true := by
 unfold rightF at h
 rw [Bool.and_eq_true] at h
 have h1 := h.1
 obtain ⟨l, m⟩ := f
 cases l with
 | nil => simp [headOK] at h1
 | cons a r => unfold thereN; simp
theorem node_of {f : ForM} (hr : rightF f = true) (a : Int) : ∃ (k : Nat) (x : NodeM), a % (f.nodes.length : Int) = k ∧ k < f.nodes.length ∧ f.nodes[k]? = some x ∧ thereN f.nodes (k : Int) = true ∧ nd f.nodes (k : Int) = x ∧ 0 < f.nodes.length := by
 have hpos : 0 < f.nodes.length := by have := there_pos (there0 hr); have h0 := there0 hr; obtain ⟨i, y, ei, hy, _⟩ := there_iff.1 h0; have := (List.getElem?_eq_some_iff.1 hy).1; omega
 obtain ⟨k, hk⟩ : ∃ k : Nat, a % (f.nodes.length : Int) = k := ⟨_, (Int.toNat_of_nonneg (Int.emod_nonneg _ (by omega))).symm⟩
 have hkl : k < f.nodes.length := by have := Int.emod_lt_of_pos a (show (0 : Int) < f.nodes.length by omega); omega
 obtain ⟨x, hx⟩ : ∃ x, f.nodes[k]? = some x := ⟨_, List.getElem?_eq_getElem hkl⟩
 have ht : thereN f.nodes (k : Int) = true := there_get hx
 refine ⟨k, x, hk, hkl, hx, ht, ?_, hpos⟩
 obtain ⟨i, y, ei, hy, hny⟩ := there_iff.1 ht
 obtain rfl : k = i := by omega
 rw [hx] at hy; cases hy; exact hny
theorem nd_at {l : List NodeM} {k : Nat} {x : NodeM} (hx : l[k]? = some x) : nd l (k : Int) = x := by
 obtain ⟨i, y, ei, hy, hny⟩ := there_iff.1 (there_get hx)
 obtain rfl : k = i := by omega
 rw [hx] at hy; cases hy; exact hny
theorem over4 {l : List NodeM} {n k : Int} {nm : ByteArray} (h : nm = (nd l k).name) : (overF l n k = false ∧ nm ≠ formW ∧ True) ∨ (overF l n k = false ∧ nm = formW ∧ k = n) ∨ (overF l n k = false ∧ nm = formW ∧ k ≠ n ∧ holdsN l k n = false) ∨ (overF l n k = true ∧ nm = formW ∧ k ≠ n ∧ holdsN l k n = true) := by
 unfold overF
 rw [← h]
 by_cases h1 : nm = formW <;> by_cases h2 : k = n <;> cases h3 : holdsN l k n <;> simp [h1, h2]
theorem f11_ok (f : ForM) (a : Int) (ha : 0 ≤ a ∧ a < 256) : FnOK Tryz.prog 11 [] [eFor f, .lit (.int .u8 a)] [] (eBool true) := by
 have h41 := f41_ok
 have h13 := f13_ok f
 cases b1 : shortF f with
 | false =>
   rw [b1] at h13
   obtain ⟨l, m⟩ := f
   refine FnOK.startC (rvs := [.tmp 4]) G G_good Tryz.func11 rfl Tryz.ntmps11 rfl rfl ?_; with_reducible refine wD ?_
   repeat' (first
  | refine gK ?_ | refine aE ?_ ?_
  | ((first
   | ((with_reducible refine kQ 41 ?_); refine cL h41 c41 ?_)
   | ((with_reducible refine kQ 13 ?_); refine cL h13 c13 ?_)) <;> with_reducible refine wK ?_)
  | apply trivial)
   all_goals rfl
 | true =>
 have hs := shortF_iff.1 b1
 have h15 := f15_ok f hs
 rw [b1] at h13
 cases b2 : rightF f with
 | false =>
   rw [b2] at h15
   obtain ⟨l, m⟩ := f
   refine FnOK.startC (rvs := [.tmp 4]) G G_good Tryz.func11 rfl Tryz.ntmps11 rfl rfl ?_; with_reducible refine wD ?_
   repeat' (first
  | refine gK ?_ | refine aE ?_ ?_
  | ((first
   | ((with_reducible refine kQ 41 ?_); refine cL h41 c41 ?_)
   | ((with_reducible refine kQ 13 ?_); refine cL h13 c13 ?_)
   | ((with_reducible refine kQ 15 ?_); refine cL h15 c15 ?_)) <;> with_reducible refine wK ?_)
  | apply trivial)
   all_goals rfl
 | true =>
 have T := tree_of b2
 rw [b2] at h15
 have h60 := hs.len
 obtain ⟨n, x, hn, hnl, hx, htn, hnx, hpos⟩ := node_of b2 a
 have h21 := f21_ok f hs (n : Int)
 have h38 := f38_ok f hs (n : Int)
 unfold ownF at h38
 rw [htn, b2, if_pos (by rfl)] at h38
 have h47 := f47_ok x.attrs (by have := hs.attrs x (List.mem_of_getElem? hx); omega) formW
 have h50 := fun b c hb hc => f50_ok f hs b2 b c hb hc
 have hlaw := fun h => near_law T htn (n := (n : Int)) h
 have hok : ownN f.nodes (n : Int) ≠ -1 → (nd f.nodes (n : Int)).kind = 1 := fun h => (own_form T htn h).2.2.2
 have hth : ∀ k : Nat, k < f.nodes.length → ∃ y, f.nodes[k]? = some y ∧ thereN f.nodes (k : Int) = true ∧ nd f.nodes (k : Int) = y := fun k hk => by
  obtain ⟨y, hy⟩ : ∃ y, f.nodes[k]? = some y := ⟨_, List.getElem?_eq_getElem hk⟩
  exact ⟨y, hy, there_get hy, nd_at hy⟩
 have hget : ∀ c, thereN f.nodes c = true → ∃ (j : Nat) (y : NodeM), c = (j : Int) ∧ f.nodes[j]? = some y ∧ nd f.nodes c = y := fun c hc => by
  obtain ⟨j, y, e, hy, hny⟩ := there_iff.1 hc
  exact ⟨j, y, e, hy, hny⟩
 have hbn : (nd f.nodes (n : Int)).kind = 1 → ((!decide (0 ≤ findP x.attrs formW)) || !conF f n) = true → byNear f.nodes (n : Int) := fun h1 h2 => by
  obtain ⟨l, m⟩ := f
  refine ⟨h1, ?_⟩
  rw [conF_eq b2 htn] at h2
  unfold attV
  rw [hnx]
  by_cases h3 : 0 ≤ findP x.attrs formW
  ·right; simpa [h3] using h2
  ·left; rw [if_neg h3]
 have hlm : (f.nodes.map oNode).length = f.nodes.length := List.length_map ..
 obtain ⟨l, m⟩ := f
 simp only at hlm hnl hx hpos h60 hnx
 rw [show nd (ForM.mk l m).nodes (n : Int) = x from hnx] at hok hbn
 generalize conF ⟨l, m⟩ n = cn at *
 generalize getS x.attrs formW = v at *
 generalize hhas : decide (0 ≤ findP x.attrs formW) = hv at *
 obtain ⟨a1, a2, a3, a4, a5, a6, a7, a8, a9, a10⟩ := x
 have hwa : IntKind.i64.wrap a = a := wrap_u8 ha
 have hln : (0 : Int) < ((l.map oNode).length : Int) := by rw [hlm]; omega
 have hk' : a % ((l.map oNode).length : Int) = n := by rw [hlm]; exact hn
 refine FnOK.startC (rvs := [.tmp 4]) G G_good Tryz.func11 rfl Tryz.ntmps11 rfl rfl ?_; with_reducible refine wD ?_
 repeat' (first
  | refine gK ?_ | refine aE ?_ ?_
  | ((first
   | ((with_reducible refine kQ 41 ?_); refine cL h41 c41 ?_)
   | ((with_reducible refine kQ 13 ?_); refine cL h13 c13 ?_)
   | ((with_reducible refine kQ 15 ?_); refine cL h15 c15 ?_)) <;> with_reducible refine wK ?_)
  | apply trivial)
 refine ConvK.int (by kernel_rfl) (by kernel_rfl) hwa ?_; with_reducible refine wK ?_
 repeat' (first
  | refine gK ?_ | refine aE ?_ ?_
  | apply trivial)
 refine HandK.rem ha.1 hln rfl rfl rfl rfl ?_; with_reducible refine wK ?_
 rw [hk']
 repeat' (first
  | refine gK ?_ | refine aE ?_ ?_
  | ((first
   | (refine IdxK.mk n (eNode _) rfl (node_get hx) ?_)
   | ((with_reducible refine kQ 47 ?_); refine cL h47 c47 ?_)) <;> with_reducible refine wK ?_)
  | apply trivial)
 by_cases hk1 : a1 = 1
 ·by_cases hbc : hv = true ∧ cn = true
  ·obtain ⟨g1, g2⟩ := hbc
   subst g1 g2
   (have fct := hk1; (repeat' (first
  | refine gF ?_ | refine aE ?_ ?_
  | ((first
   | (refine IdxK.mk n (eNode _) rfl (node_get hx) ?_)
   | ((with_reducible refine kQ 21 ?_); refine cL h21 c21 ?_)) <;> with_reducible refine wK ?_)
  | apply trivial)); all_goals clear fct)
   all_goals first | rfl | (simp [hk1]; done)
  ·have hB := hbn hk1 (by cases hv <;> cases cn <;> simp at hbc ⊢)
   obtain ⟨L1, L2⟩ := hlaw hB
   have h50n := fun (k : Nat) hk => h50 (k : Int) (n : Int) hk htn
   have h50o := fun (k : Nat) hk ho => h50 (k : Int) (ownN (ForM.mk l m).nodes (n : Int)) hk ho
   clear hlaw hbn hok hB
   change ∀ k, thereN l k = true → overF l n k = true → ownN l n ≠ -1 ∧ holdsN l k (ownN l n) = true at L1
   change ownN l n = -1 ∨ (thereN l (ownN l n) = true ∧ (nd l (ownN l n)).name = formW ∧ ownN l n ≠ n ∧ holdsN l (ownN l n) n = true) at L2
   change ∀ (k : Nat), thereN l k = true → FnOK Tryz.prog 50 [] [eFor ⟨l, m⟩, eInt k, eInt n] [] (eBool (holdsN l k n)) at h50n
   change ∀ (k : Nat), thereN l k = true → thereN l (ownN l n) = true → FnOK Tryz.prog 50 [] [eFor ⟨l, m⟩, eInt k, eInt (ownN l n)] [] (eBool (holdsN l k (ownN l n))) at h50o
   change FnOK Tryz.prog 38 [] [eFor ⟨l, m⟩, eInt n] [] (eInt (ownN l n)) at h38
   generalize ownN l n = o at *
   have hthO : o ≠ -1 → thereN l o = true := fun h => (L2.resolve_left h).1
   cases hv <;> cases cn <;> first | exact absurd ⟨rfl, rfl⟩ hbc | skip
   all_goals
    (have fct := hk1; (repeat' (first
  | refine gF ?_ | refine aE ?_ ?_
  | ((first
   | (refine IdxK.mk n (eNode _) rfl (node_get hx) ?_)
   | ((with_reducible refine kQ 21 ?_); refine cL h21 c21 ?_)
   | ((with_reducible refine kQ 38 ?_); refine cL h38 c38 ?_)
   | ((with_reducible show DrawK _ _ _ _); refine dK ?_)) <;> with_reducible refine wK ?_)
  | apply trivial)); all_goals clear fct)
    refine LoopK.use G G_good (fun (k : Nat) => [(2, .ptr 20 0 0), (5, eInt n), (8, eInt o), (9, eInt k)])
     (fun _ => [(20, .live 2 [eFor ⟨l, m⟩] false)])
     (fun k => k ≤ l.length) (fun k => l.length - k) 0 (Nat.zero_le _) ?_ ?_
    ·(refine fK ?_; (with_reducible repeat' (first | exact trivial | (show _ ∧ _; refine aK ?_ ?_))); (all_goals try rfl))
     all_goals first
      | exact ⟨.refl rfl, rfl⟩
    intro k hk
    with_reducible refine wK ?_
    refine IfK.mk (fun h1 => ?_) (fun h1 => ?_) <;> (try simp only [castN] at h1) <;> with_reducible refine wK ?_
    ·have hkl : k < l.length := by simp only [hlm, decide_eq_true_eq, castN] at h1; omega
     obtain ⟨y, hy, hty, hny⟩ := hth k hkl
     change thereN l (k : Int) = true at hty
     change nd l (k : Int) = y at hny
     have h50a := h50n k hty
     have h50b := h50o k hty
     have hL1 := L1 k hty
     obtain ⟨b1', b2', b3, b4, b5, b6, b7, b8, b9, b10⟩ := y
     have ho4 := over4 (l := l) (n := (n : Int)) (k := (k : Int)) (nm := b2') (by rw [hny])
     rcases ho4 with ⟨h0, e1, _⟩ | ⟨h0, e1, e2⟩ | ⟨h0, e1, e2, e3⟩ | ⟨h0, e1, e2, e3⟩
     ·(have fct := (eq_false e1); (repeat' (first
  | refine gF ?_ | refine aE ?_ ?_
  | ((refine IdxK.mk k (eNode ⟨b1', b2', b3, b4, b5, b6, b7, b8, b9, b10⟩) rfl (node_get hy) ?_) <;> with_reducible refine wK ?_)
  | apply trivial)); all_goals clear fct)
      refine NextK.mk (k + 1) (by omega) (by omega) ?_
      (refine fK ?_; (with_reducible repeat' (first | exact trivial | (show _ ∧ _; refine aK ?_ ?_))); (all_goals try rfl))
      all_goals first | exact ⟨.refl rfl, rfl⟩ | (simp; done)
     ·(have fct := And.intro e1 (e2); (repeat' (first
  | refine gF ?_ | refine aE ?_ ?_
  | ((refine IdxK.mk k (eNode ⟨b1', b2', b3, b4, b5, b6, b7, b8, b9, b10⟩) rfl (node_get hy) ?_) <;> with_reducible refine wK ?_)
  | apply trivial)); all_goals clear fct)
      refine NextK.mk (k + 1) (by omega) (by omega) ?_
      (refine fK ?_; (with_reducible repeat' (first | exact trivial | (show _ ∧ _; refine aK ?_ ?_))); (all_goals try rfl))
      all_goals first | exact ⟨.refl rfl, rfl⟩ | (simp; done)
     ·rw [e3] at h50a
      (have fct := And.intro e1 ((eq_false e2)); (repeat' (first
  | refine gF ?_ | refine aE ?_ ?_
  | ((first
   | (refine IdxK.mk k (eNode ⟨b1', b2', b3, b4, b5, b6, b7, b8, b9, b10⟩) rfl (node_get hy) ?_)
   | ((with_reducible refine kQ 50 ?_); refine cL h50a c50 ?_)) <;> with_reducible refine wK ?_)
  | apply trivial)); all_goals clear fct)
      refine NextK.mk (k + 1) (by omega) (by omega) ?_
      (refine fK ?_; (with_reducible repeat' (first | exact trivial | (show _ ∧ _; refine aK ?_ ?_))); (all_goals try rfl))
      all_goals first | exact ⟨.refl rfl, rfl⟩ | (simp; done)
     ·rw [e3] at h50a
      obtain ⟨q1, q2⟩ := hL1 h0
      have h50b := h50b (hthO q1)
      rw [q2] at h50b
      (have fct := And.intro e1 (And.intro (eq_false e2) ((eq_false q1))); (repeat' (first
  | refine gF ?_ | refine aE ?_ ?_
  | ((first
   | (refine IdxK.mk k (eNode ⟨b1', b2', b3, b4, b5, b6, b7, b8, b9, b10⟩) rfl (node_get hy) ?_)
   | ((with_reducible refine kQ 50 ?_); first | refine cL h50a c50 ?_ | refine cL h50b c50 ?_)) <;> with_reducible refine wK ?_)
  | apply trivial)); all_goals clear fct)
      refine NextK.mk (k + 1) (by omega) (by omega) ?_
      (refine fK ?_; (with_reducible repeat' (first | exact trivial | (show _ ∧ _; refine aK ?_ ?_))); (all_goals try rfl))
      all_goals first | exact ⟨.refl rfl, rfl⟩ | (simp; done)
    ·rcases L2 with q1 | ⟨q1, q2, q3, q4⟩
     ·(have fct := q1; (repeat' (first
  | refine gF ?_ | refine aE ?_ ?_
  | (((with_reducible show DrawK _ _ _ _); refine dK ?_) <;> with_reducible refine wK ?_)
  | apply trivial)); all_goals clear fct)
      all_goals first | rfl | (simp [q1]; done)
     ·obtain ⟨j, y, hj, hy, hny⟩ := hget o q1
      subst hj
      have hj0 : ¬ (j : Int) = -1 := by omega
      have h50c := h50n j q1
      rw [q4] at h50c
      obtain ⟨b1', b2', b3, b4, b5, b6, b7, b8, b9, b10⟩ := y
      have e1 : b2' = formW := by rw [← q2]; exact (congrArg NodeM.name hny).symm
      (have fct := And.intro e1 (And.intro (eq_false q3) ((eq_false hj0))); (repeat' (first
  | refine gF ?_ | refine aE ?_ ?_
  | ((first
   | (refine IdxK.mk j (eNode ⟨b1', b2', b3, b4, b5, b6, b7, b8, b9, b10⟩) rfl (node_get hy) ?_)
   | ((with_reducible refine kQ 50 ?_); refine cL h50c c50 ?_)
   | ((with_reducible show DrawK _ _ _ _); refine dK ?_)) <;> with_reducible refine wK ?_)
  | apply trivial)); all_goals clear fct)
      all_goals first | rfl | (simp [e1, q3]; done)
 ·have ho : ownN l (n : Int) = -1 := Classical.byContradiction fun h => hk1 (hok h)
  change FnOK Tryz.prog 38 [] [eFor ⟨l, m⟩, eInt n] [] (eInt (ownN l n)) at h38
  rw [ho] at h38
  (have fct := (eq_false hk1); (repeat' (first
  | refine gF ?_ | refine aE ?_ ?_
  | ((first
   | (refine IdxK.mk n (eNode _) rfl (node_get hx) ?_)
   | ((with_reducible refine kQ 38 ?_); refine cL h38 c38 ?_)) <;> with_reducible refine wK ?_)
  | apply trivial)); all_goals clear fct)
  all_goals first | rfl
theorem posA_at {l : List AttrM} {w : ByteArray} : posA l w = -1 ∨ ∃ (k : Nat) (a : AttrM), posA l w = k ∧ l[k]? = some a := by
 unfold posA
 rcases idxI_cases (hasName w) l with h | ⟨k, a, h, ha, _⟩
 ·exact .inl h
 ·exact .inr ⟨k, a, h, ha⟩
def valR (x : NodeM) (w : ByteArray) : ByteArray := (attR x w).getD ⟨#[]⟩
theorem f84_ok (f : ForM) (hs : SmallN f.nodes) (k : Nat) (x : NodeM) (hx : f.nodes[k]? = some x) (w : ByteArray) : FnOK Tryz.prog 84 [] [eFor f, eInt k, eStr w] [] (.tup [eStr (valR x w), eBool (decide (0 ≤ posA x.attrs w))]) := by
 have h131 := f131_ok x.attrs (by have := hs.attrs x (List.mem_of_getElem? hx); omega) w
 obtain ⟨l, m⟩ := f
 unfold valR attR
 rcases posA_at (l := x.attrs) (w := w) with h | ⟨j, a, h, ha⟩
 ·rw [h] at h131 ⊢
  rw [if_neg (by decide)]
  obtain ⟨a1, a2, a3, a4, a5, a6, a7, a8, a9, a10⟩ := x
  simp only at h131
  refine FnOK.startC (rvs := [.tmp 6, .tmp 7]) G G_good Tryz.func84 rfl Tryz.ntmps84 rfl rfl ?_; with_reducible refine wD ?_
  repeat' (first
  | refine gK ?_ | refine aE ?_ ?_
  | ((first
   | (refine IdxK.mk k (eNode _) rfl (node_get hx) ?_)
   | ((with_reducible refine kQ 131 ?_); refine cL h131 c131 ?_)) <;> with_reducible refine wK ?_)
  | apply trivial)
  all_goals rfl
 ·rw [h] at h131 ⊢
  rw [if_pos (by omega), Int.toNat_natCast, ha, decide_eq_true (by omega)]
  obtain ⟨a1, a2, a3, a4, a5, a6, a7, a8, a9, a10⟩ := x
  obtain ⟨n, v⟩ := a
  simp only at h131 ha
  refine FnOK.startC (rvs := [.tmp 6, .tmp 7]) G G_good Tryz.func84 rfl Tryz.ntmps84 rfl rfl ?_; with_reducible refine wD ?_
  repeat' (first
  | refine gK ?_ | refine aE ?_ ?_
  | ((first
   | (first | refine IdxK.mk k (eNode _) rfl (node_get hx) ?_ | refine IdxK.mk j (eAttr ⟨n, v⟩) rfl (attr_get ha) ?_)
   | ((with_reducible refine kQ 131 ?_); refine cL h131 c131 ?_)) <;> with_reducible refine wK ?_)
  | apply trivial)
  all_goals rfl
theorem attR_some {x : NodeM} {w : ByteArray} : attR x w = if 0 ≤ posA x.attrs w then some (valR x w) else none := by
 unfold valR attR
 split <;> rfl
theorem f87_ok (f : ForM) (T : Tree f.nodes) : ∀ n, thereN f.nodes n = true → FnOK Tryz.prog 87 [] [eFor f, eInt n] [] (eInt (rootN f.nodes n)) := by
 refine up_ind T (fun n hn h => ?_) (fun n hn h hu ih => ?_)
 ·rw [root_top T hn h]
  obtain ⟨i, x, e, hx, hnx⟩ := there_iff.1 hn
  rw [hnx] at h
  obtain ⟨l, m⟩ := f
  obtain ⟨a1, a2, a3, a4, a5, a6, a7, a8, a9, a10⟩ := x
  simp only at h
  refine FnOK.startC (rvs := [.tmp 4]) G G_good Tryz.func87 rfl Tryz.ntmps87 rfl rfl ?_; with_reducible refine wD ?_
  (have fct := (eq_true h); (repeat' (first
  | refine gF ?_ | refine aE ?_ ?_
  | ((refine IdxK.mk i (eNode _) e (node_get hx) ?_) <;> with_reducible refine wK ?_)
  | apply trivial)); all_goals clear fct)
 ·rw [root_step T hn h]
  obtain ⟨i, x, e, hx, hnx⟩ := there_iff.1 hn
  rw [hnx] at h ih ⊢
  obtain ⟨l, m⟩ := f
  obtain ⟨a1, a2, a3, a4, a5, a6, a7, a8, a9, a10⟩ := x
  simp only at h ih ⊢
  refine FnOK.startC (rvs := [.tmp 4]) G G_good Tryz.func87 rfl Tryz.ntmps87 rfl rfl ?_; with_reducible refine wD ?_
  (have fct := (eq_false h); (repeat' (first
  | refine gF ?_ | refine aE ?_ ?_
  | ((first
   | (refine IdxK.mk i (eNode _) e (node_get hx) ?_)
   | ((with_reducible refine kQ 87 ?_); refine cL ih c87 ?_)
   | ((with_reducible show DrawK _ _ _ _); refine dK ?_)) <;> with_reducible refine wK ?_)
  | apply trivial)); all_goals clear fct)
  all_goals rfl
theorem f33_ok (f : ForM) (k : Nat) (x : NodeM) (hx : f.nodes[k]? = some x) : FnOK Tryz.prog 33 [] [eFor f, eInt k] [] (eBool (isForm x)) := by
 obtain ⟨l, m⟩ := f
 obtain ⟨a1, a2, a3, a4, a5, a6, a7, a8, a9, a10⟩ := x
 unfold isForm
 refine FnOK.startC (rvs := [.tmp 4]) G G_good Tryz.func33 rfl Tryz.ntmps33 rfl rfl ?_; with_reducible refine wD ?_
 by_cases e : a1 = 1
 ·(have fct := (eq_true e); (repeat' (first
  | refine gF ?_ | refine aE ?_ ?_
  | ((refine IdxK.mk k (eNode _) rfl (node_get hx) ?_) <;> with_reducible refine wK ?_)
  | apply trivial)); all_goals clear fct)
  all_goals simp [e]
 ·(have fct := (eq_false e); (repeat' (first
  | refine gF ?_ | refine aE ?_ ?_
  | ((refine IdxK.mk k (eNode _) rfl (node_get hx) ?_) <;> with_reducible refine wK ?_)
  | apply trivial)); all_goals clear fct)
  all_goals simp [e]
theorem ord_get {l : List NodeM} (T : Tree l) {r : Int} (hr : thereN l r = true) {m : Int} (hs : SmallN l) : ∃ (k : Nat) (x : NodeM), r = k ∧ l[k]? = some x ∧ FnOK Tryz.prog 86 [] [eFor ⟨l, m⟩, eInt r] [] (eInts (ordN l l.length r)) := by
 obtain ⟨k, x, rfl, hx, _⟩ := there_iff.1 hr
 exact ⟨k, x, rfl, hx, f86_ok ⟨l, m⟩ hs T l.length k x hx (ord_fuel T hr)⟩
theorem near_next {l : List NodeM} (T : Tree l) (q : Int → Bool) (p : Int) (y : NodeM) (hp : thereN l p = true) (hy : nd l p = y) :
  (y.parent = -1 ∧ nearBy l q p = -1) ∨ (thereN l y.parent = true ∧ y.parent ≠ -1 ∧ (nearBy l q p = if q y.parent = true then y.parent else nearBy l q y.parent) ∧ (wayN l y.parent).length < (wayN l p).length) := by
 subst hy
 by_cases e : (nd l p).parent = -1
 ·exact .inl ⟨e, find_top T q hp e⟩
 ·exact .inr ⟨(T.par p hp e).1, e, find_step T q hp e, by rw [way_step T hp e]; simp⟩
theorem find_drop {q : Int → Bool} {ks : List Int} {j : Nat} {k : Int} (hk : ks[j]? = some k) : (ks.drop j).find? q = if q k = true then some k else (ks.drop (j + 1)).find? q := by
 have hj := (List.getElem?_eq_some_iff.1 hk).1
 rw [List.drop_eq_getElem_cons hj, List.find?_cons]
 rw [List.getElem?_eq_getElem hj] at hk
 rw [Option.some.inj hk]
 cases q k <;> rfl
theorem f44_ok (f : ForM) (hs : SmallN f.nodes) (hrt : rightF f = true) (n : Int) (hn : thereN f.nodes n = true) : FnOK Tryz.prog 44 [] [eFor f, eInt n] [] (eInt (ownR f.nodes n)) := by
 have T : Tree f.nodes := tree_of hrt
 have h85 := f85_ok f (U.tree_of hrt) n hn
 have h87 := f87_ok f T n hn
 have hrth := (root_there T n hn).1
 obtain ⟨kr, xr, _, _, h86⟩ := ord_get (m := f.most) T hrth hs
 have hoth := fun k hk => (ord_root T hrth (n := k) hk).1
 have hol := ord_len T f.nodes.length hrth
 have hval := fun k x hx w => f84_ok f hs k x hx w
 have hstp := fun p y => near_next T (fun p => decide ((nd f.nodes p).name = formW)) p y
 have hnR : nearBy f.nodes (fun p => decide ((nd f.nodes p).name = formW)) n = nearR f.nodes n := rfl
 have h60 := hs.len
 obtain ⟨l, m⟩ := f
 simp only at h85 h87 h86 hoth hol hval hstp hnR hn h60 ⊢
 obtain ⟨i, x, e, hx, hnx⟩ := there_iff.1 hn
 have h84 := hval i x hx formW
 rw [← e] at h84
 have hst0 := hstp n x hn hnx
 obtain ⟨o, ho⟩ : ∃ o, ownR l n = o := ⟨_, rfl⟩
 rw [ho]
 unfold ownR byIdR firstR at ho
 rw [hnx, attR_some] at ho
 rw [show decide ((nd l (topN l n)).kind = 0) = conN l n from rfl] at h85
 generalize rootN l n = r at h87 h86 hoth hol ho
 generalize ordN l l.length r = ks at h86 hoth hol ho
 generalize nearR l n = nr at hnR ho
 generalize conN l n = cn at h85 ho
 generalize valR x formW = v at h84 ho
 obtain ⟨ok, hok⟩ : ∃ ok, decide (0 ≤ posA x.attrs formW) = ok := ⟨_, rfl⟩
 rw [hok] at h84
 have hok' : (0 ≤ posA x.attrs formW) = (ok = true) := by rw [← hok]; simp
 simp only [hok'] at ho
 clear hok hok'
 have hkm : (ks.map oInt).length = ks.length := List.length_map ..
 obtain ⟨nb, hnb⟩ : ∃ nb : Int → Int, nb = nearBy l (fun p => decide ((nd l p).name = formW)) := ⟨_, rfl⟩
 rw [← hnb] at hst0 hstp hnR
 obtain ⟨a1, a2, a3, a4, a5, a6, a7, a8, a9, a10⟩ := x
 simp only at h84 hst0 ho
 refine FnOK.startC (rvs := [.tmp 4]) G G_good Tryz.func44 rfl Tryz.ntmps44 rfl rfl ?_; with_reducible refine wD ?_
 refine IdxK.mk i (eNode _) e (node_get hx) ?_; with_reducible refine wK ?_
 by_cases e1 : a1 = 1
 ·rw [if_pos e1] at ho
  refine IfK.no (by rw [e1]; rfl) ?_; with_reducible refine wK ?_
  by_cases hc : ok = true ∧ cn = true
  ·obtain ⟨rfl, rfl⟩ := hc
   simp only [if_true] at ho
   repeat' (first
  | refine gK ?_ | refine aE ?_ ?_
  | ((first
   | ((with_reducible refine kQ 84 ?_); refine cL h84 c84 ?_)
   | ((with_reducible refine kQ 85 ?_); refine cL h85 c85 ?_)
   | ((with_reducible refine kQ 87 ?_); refine cL h87 c87 ?_)
   | ((with_reducible refine kQ 86 ?_); refine cV h86 c86 ?_)
   | ((with_reducible show DrawK _ _ _ _); refine dK ?_)) <;> with_reducible refine wK ?_)
  | apply trivial)
   obtain ⟨q, hq⟩ : ∃ q : Int → Bool, q = fun k => decide (attR (nd l k) idW = some v) := ⟨_, rfl⟩
   rw [← hq] at ho
   refine LoopK.use G G_good (fun (j : Nat) => [(2, .ptr 20 0 0), (5, eStr v), (7, eInts ks), (8, eInt j)]) (fun _ => [(20, .live 2 [eFor ⟨l, m⟩] false)])
    (fun j => j ≤ ks.length ∧ ks.find? q = (ks.drop j).find? q) (fun j => ks.length - j) 0 ⟨Nat.zero_le _, rfl⟩ (by (refine fK ?_; (with_reducible repeat' (first | exact trivial | (show _ ∧ _; refine aK ?_ ?_))); (all_goals try rfl))) ?_
   rintro j ⟨hj, hfind⟩
   with_reducible refine wK ?_
   by_cases ev : v = ⟨#[]⟩
   ·rw [if_pos ev] at ho
    subst ho
    have ev' : v = ⟨⟨[]⟩⟩ := ev
    refine IfK.mk (fun h1 => ?_) (fun h1 => ?_) <;> (try simp only [castN] at h1) <;> with_reducible refine wK ?_
    ·(have fct := ev'; (repeat' (first
  | refine gF ?_ | refine aE ?_ ?_
  | apply trivial)); all_goals clear fct)
     all_goals rfl
    ·repeat' (first
  | refine gK ?_ | refine aE ?_ ?_
  | apply trivial)
     all_goals rfl
   ·rw [if_neg ev] at ho
    have ev' : ¬ v = ⟨⟨[]⟩⟩ := ev
    refine IfK.mk (fun h1 => ?_) (fun h1 => ?_) <;> (try simp only [castN] at h1) <;> with_reducible refine wK ?_
    ·have hj' : j < ks.length := by simp only [hkm, decide_eq_true_eq] at h1; omega
     obtain ⟨k, hk⟩ : ∃ k, ks[j]? = some k := ⟨_, List.getElem?_eq_getElem hj'⟩
     rw [find_drop hk] at hfind
     obtain ⟨i2, y, e2, hy, hny⟩ := there_iff.1 (hoth k (List.mem_of_getElem? hk))
     have h84' := hval i2 y hy idW
     rw [← e2] at h84'
     have hqk : q k = (decide (0 ≤ posA y.attrs idW) && decide (valR y idW = v)) := by
      rw [hq]; simp only [hny, attR_some]
      by_cases e3 : 0 ≤ posA y.attrs idW
      ·rw [if_pos e3]; simp [e3]
      ·rw [if_neg e3]; simp [e3]
     generalize valR y idW = w at h84' hqk
     generalize decide (0 ≤ posA y.attrs idW) = ok2 at h84' hqk
     obtain ⟨b1, b2, b3, b4, b5, b6, b7, b8, b9, b10⟩ := y
     by_cases hm : ok2 = true ∧ w = v
     ·obtain ⟨rfl, rfl⟩ := hm
      rw [show q k = true by rw [hqk]; simp, if_pos rfl] at hfind
      rw [hfind] at ho
      simp only [hny] at ho
      by_cases e4 : b2 = formW
      ·rw [if_pos e4] at ho
       subst ho
       (have fct := And.intro ev' ((eq_true e4)); (repeat' (first
  | refine gF ?_ | refine aE ?_ ?_
  | ((first
   | (first | refine IdxK.mk j (eInt k) rfl (int_get hk) ?_ | refine IdxK.mk i2 (eNode _) e2 (node_get hy) ?_)
   | ((with_reducible refine kQ 84 ?_); refine cL h84' c84 ?_)
   | ((with_reducible show DrawK _ _ _ _); refine dK ?_)) <;> with_reducible refine wK ?_)
  | apply trivial)); all_goals clear fct)
       all_goals rfl
      ·rw [if_neg e4] at ho
       subst ho
       (have fct := And.intro ev' ((eq_false e4)); (repeat' (first
  | refine gF ?_ | refine aE ?_ ?_
  | ((first
   | (first | refine IdxK.mk j (eInt k) rfl (int_get hk) ?_ | refine IdxK.mk i2 (eNode _) e2 (node_get hy) ?_)
   | ((with_reducible refine kQ 84 ?_); refine cL h84' c84 ?_)
   | ((with_reducible show DrawK _ _ _ _); refine dK ?_)) <;> with_reducible refine wK ?_)
  | apply trivial)); all_goals clear fct)
       all_goals rfl
     ·have hqf : q k = false := by
       rw [hqk]
       cases ok2 with
       | false => rfl
       | true =>
         have : ¬ w = v := fun h => hm ⟨rfl, h⟩
         simp [this]
      rw [hqf, if_neg (by simp)] at hfind
      cases ok2 with
      | false =>
        (have fct := ev'; (repeat' (first
  | refine gF ?_ | refine aE ?_ ?_
  | ((first
   | (refine IdxK.mk j (eInt k) rfl (int_get hk) ?_)
   | ((with_reducible refine kQ 84 ?_); refine cL h84' c84 ?_)
   | ((with_reducible show DrawK _ _ _ _); refine dK ?_)) <;> with_reducible refine wK ?_)
  | apply trivial)); all_goals clear fct)
        exact NextK.mk (j + 1) ⟨by omega, hfind⟩ (by omega) (by (refine fK ?_; (with_reducible repeat' (first | exact trivial | (show _ ∧ _; refine aK ?_ ?_))); (all_goals try rfl)))
      | true =>
        have hwv : ¬ w = v := fun h => hm ⟨rfl, h⟩
        (have fct := And.intro ev' (hwv); (repeat' (first
  | refine gF ?_ | refine aE ?_ ?_
  | ((first
   | (refine IdxK.mk j (eInt k) rfl (int_get hk) ?_)
   | ((with_reducible refine kQ 84 ?_); refine cL h84' c84 ?_)
   | ((with_reducible show DrawK _ _ _ _); refine dK ?_)) <;> with_reducible refine wK ?_)
  | apply trivial)); all_goals clear fct)
        exact NextK.mk (j + 1) ⟨by omega, hfind⟩ (by omega) (by (refine fK ?_; (with_reducible repeat' (first | exact trivial | (show _ ∧ _; refine aK ?_ ?_))); (all_goals try rfl)))
    ·have hjl : j = ks.length := by simp only [hkm, decide_eq_false_iff_not] at h1; omega
     subst hjl
     rw [List.drop_length] at hfind
     rw [hfind] at ho
     simp only [List.find?_nil] at ho
     subst ho
     repeat' (first
  | refine gK ?_ | refine aE ?_ ?_
  | apply trivial)
     all_goals rfl
  ·have goal : nr = o := by
    rw [← ho]
    cases ok with
    | false => rfl
    | true =>
      cases cn with
      | false => rfl
      | true => exact absurd ⟨rfl, rfl⟩ hc
   rw [← goal, ← hnR]
   clear ho goal
   cases ok with
   | false =>
     repeat' (first
  | refine gK ?_ | refine aE ?_ ?_
  | ((first
   | ((with_reducible refine kQ 84 ?_); refine cL h84 c84 ?_)
   | (refine IdxK.mk i (eNode _) e (node_get hx) ?_)) <;> with_reducible refine wK ?_)
  | apply trivial)
     refine LoopK.use G G_good (fun (p : Int) => [(2, .ptr 20 0 0), (11, eInt p)]) (fun _ => [(20, .live 2 [eFor ⟨l, m⟩] false)])
      (fun p => (p = -1 ∧ nb n = -1) ∨ (thereN l p = true ∧ p ≠ -1 ∧ nb n = if decide ((nd l p).name = formW) = true then p else nb p)) (fun p => if p = -1 then 0 else (wayN l p).length) a6
      (by rcases hst0 with h | ⟨h1, h2, h3, _⟩; exact .inl h; exact .inr ⟨h1, h2, h3⟩) (by (refine fK ?_; (with_reducible repeat' (first | exact trivial | (show _ ∧ _; refine aK ?_ ?_))); (all_goals try rfl))) ?_
     intro p hp
     with_reducible refine wK ?_
     rcases hp with ⟨rfl, h1⟩ | ⟨h1, h2, h3⟩
     ·rw [h1]
      repeat' (first
  | refine gK ?_ | refine aE ?_ ?_
  | apply trivial)
      all_goals rfl
     ·obtain ⟨j, z, e', hz, hnz⟩ := there_iff.1 h1
      have hst := hstp p z h1 hnz
      rw [hnz] at h3
      obtain ⟨b1, b2, b3, b4, b5, b6, b7, b8, b9, b10⟩ := z
      simp only at hst h3
      by_cases hf : b2 = formW
      ·rw [h3, if_pos (decide_eq_true hf)]
       (have fct := And.intro (eq_false h2) ((eq_true hf)); (repeat' (first
  | refine gF ?_ | refine aE ?_ ?_
  | ((refine IdxK.mk j (eNode ⟨b1, b2, b3, b4, b5, b6, b7, b8, b9, b10⟩) e' (node_get hz) ?_) <;> with_reducible refine wK ?_)
  | apply trivial)); all_goals clear fct)
       all_goals rfl
      ·rw [if_neg (by simp [hf])] at h3
       (have fct := And.intro (eq_false h2) ((eq_false hf)); (repeat' (first
  | refine gF ?_ | refine aE ?_ ?_
  | ((refine IdxK.mk j (eNode ⟨b1, b2, b3, b4, b5, b6, b7, b8, b9, b10⟩) e' (node_get hz) ?_) <;> with_reducible refine wK ?_)
  | apply trivial)); all_goals clear fct)
       refine NextK.mk b6 ?_ ?_ ?_
       ·rw [h3]
        rcases hst with h | ⟨g1, g2, g3, _⟩
        ·exact .inl h
        ·exact .inr ⟨g1, g2, g3⟩
       ·rw [if_neg h2]
        rcases hst with ⟨h, _⟩ | ⟨_, g2, _, g4⟩
        ·rw [if_pos h]
         obtain ⟨r, hr⟩ := way_head T h1
         rw [hr]; simp
        ·rw [if_neg g2]; exact g4
       ·(refine fK ?_; (with_reducible repeat' (first | exact trivial | (show _ ∧ _; refine aK ?_ ?_))); (all_goals try rfl))
   | true =>
     cases cn with
     | true => exact absurd ⟨rfl, rfl⟩ hc
     | false =>
       repeat' (first
  | refine gK ?_ | refine aE ?_ ?_
  | ((first
   | ((with_reducible refine kQ 84 ?_); refine cL h84 c84 ?_)
   | ((with_reducible refine kQ 85 ?_); refine cL h85 c85 ?_)
   | (refine IdxK.mk i (eNode _) e (node_get hx) ?_)) <;> with_reducible refine wK ?_)
  | apply trivial)
       refine LoopK.use G G_good (fun (p : Int) => [(2, .ptr 20 0 0), (11, eInt p)]) (fun _ => [(20, .live 2 [eFor ⟨l, m⟩] false)])
        (fun p => (p = -1 ∧ nb n = -1) ∨ (thereN l p = true ∧ p ≠ -1 ∧ nb n = if decide ((nd l p).name = formW) = true then p else nb p)) (fun p => if p = -1 then 0 else (wayN l p).length) a6
        (by rcases hst0 with h | ⟨h1, h2, h3, _⟩; exact .inl h; exact .inr ⟨h1, h2, h3⟩) (by (refine fK ?_; (with_reducible repeat' (first | exact trivial | (show _ ∧ _; refine aK ?_ ?_))); (all_goals try rfl))) ?_
       intro p hp
       with_reducible refine wK ?_
       rcases hp with ⟨rfl, h1⟩ | ⟨h1, h2, h3⟩
       ·rw [h1]
        repeat' (first
  | refine gK ?_ | refine aE ?_ ?_
  | apply trivial)
        all_goals rfl
       ·obtain ⟨j, z, e', hz, hnz⟩ := there_iff.1 h1
        have hst := hstp p z h1 hnz
        rw [hnz] at h3
        obtain ⟨b1, b2, b3, b4, b5, b6, b7, b8, b9, b10⟩ := z
        simp only at hst h3
        by_cases hf : b2 = formW
        ·rw [h3, if_pos (decide_eq_true hf)]
         (have fct := And.intro (eq_false h2) ((eq_true hf)); (repeat' (first
  | refine gF ?_ | refine aE ?_ ?_
  | ((refine IdxK.mk j (eNode ⟨b1, b2, b3, b4, b5, b6, b7, b8, b9, b10⟩) e' (node_get hz) ?_) <;> with_reducible refine wK ?_)
  | apply trivial)); all_goals clear fct)
         all_goals rfl
        ·rw [if_neg (by simp [hf])] at h3
         (have fct := And.intro (eq_false h2) ((eq_false hf)); (repeat' (first
  | refine gF ?_ | refine aE ?_ ?_
  | ((refine IdxK.mk j (eNode ⟨b1, b2, b3, b4, b5, b6, b7, b8, b9, b10⟩) e' (node_get hz) ?_) <;> with_reducible refine wK ?_)
  | apply trivial)); all_goals clear fct)
         refine NextK.mk b6 ?_ ?_ ?_
         ·rw [h3]
          rcases hst with h | ⟨g1, g2, g3, _⟩
          ·exact .inl h
          ·exact .inr ⟨g1, g2, g3⟩
         ·rw [if_neg h2]
          rcases hst with ⟨h, _⟩ | ⟨_, g2, _, g4⟩
          ·rw [if_pos h]
           obtain ⟨r, hr⟩ := way_head T h1
           rw [hr]; simp
          ·rw [if_neg g2]; exact g4
         ·(refine fK ?_; (with_reducible repeat' (first | exact trivial | (show _ ∧ _; refine aK ?_ ?_))); (all_goals try rfl))
 ·rw [if_neg e1] at ho
  subst ho
  (have fct := (eq_false e1); (repeat' (first
  | refine gF ?_ | refine aE ?_ ?_
  | apply trivial)); all_goals clear fct)
  all_goals rfl
def mrTo (l : List NodeM) (x : Int) (ks : List Int) (k : Nat) : List Int := (ks.take k).filter fun a => decide (ownR l a = x)
theorem mrTo_step {l : List NodeM} {x : Int} {ks : List Int} {k : Nat} {c : Int} (h : ks[k]? = some c) : mrTo l x ks (k + 1) = mrTo l x ks k ++ if ownR l c = x then [c] else [] := by
 unfold mrTo
 rw [List.take_add_one, h, List.filter_append]
 congr 1
 show List.filter _ [c] = _
 rw [List.filter_cons]
 by_cases e : ownR l c = x
 ·rw [if_pos e, decide_eq_true e]; rfl
 ·rw [if_neg e, decide_eq_false e]; rfl
theorem mrTo_len (l : List NodeM) (x : Int) (ks : List Int) (k : Nat) : (mrTo l x ks k).length ≤ k := by
 unfold mrTo
 exact Nat.le_trans (List.length_filter_le _ _) (by rw [List.length_take]; omega)
theorem f46_ok (f : ForM) (hs : SmallN f.nodes) (hr : rightF f = true) (n : Int) (ht : thereN f.nodes n = true) : FnOK Tryz.prog 46 [] [eFor f, eInt n] [] (eInts (memR f.nodes n)) := by
 have T : Tree f.nodes := tree_of hr
 have h87 := f87_ok f T n ht
 have hrt := (root_there T n ht).1
 obtain ⟨_, _, _, _, h86⟩ := ord_get (m := f.most) T hrt hs
 have hot : ∀ k ∈ ordN f.nodes f.nodes.length (rootN f.nodes n), thereN f.nodes k = true := fun k hk => (ord_root T hrt hk).1
 have hol := ord_len T f.nodes.length hrt
 have h44 := fun c h => f44_ok f hs hr c h
 have h60 := hs.len
 have hm : memR f.nodes n = mrTo f.nodes n (ordN f.nodes f.nodes.length (rootN f.nodes n)) (ordN f.nodes f.nodes.length (rootN f.nodes n)).length := by
  unfold memR mrTo; rw [List.take_length]
 rw [hm]
 obtain ⟨l, m⟩ := f
 simp only at h86 hot hol h44 h60 h87 ⊢
 generalize ordN l l.length (rootN l n) = ks at h86 hot hol ⊢
 generalize rootN l n = r at h86 h87
 have hstep := fun k c (h : ks[k]? = some c) => mrTo_step (l := l) (x := n) h
 have hml := mrTo_len l n ks
 have h0 : mrTo l n ks 0 = [] := rfl
 generalize mrTo l n ks = mr at hstep hml h0 ⊢
 have hkm : (ks.map oInt).length = ks.length := List.length_map ..
 refine FnOK.startC (rvs := [.tmp 4]) G G_good Tryz.func46 rfl Tryz.ntmps46 rfl rfl ?_; with_reducible refine wD ?_
 repeat' (first
  | refine gK ?_ | refine aE ?_ ?_
  | ((first
   | ((with_reducible refine kQ 87 ?_); refine cL h87 c87 ?_)
   | ((with_reducible refine kQ 86 ?_); refine cV h86 c86 ?_)
   | ((with_reducible show DrawK _ _ _ _); refine dK ?_)) <;> with_reducible refine wK ?_)
  | apply trivial)
 refine LoopK.ghost 5 51 1 rfl rfl ?_
 refine LoopK.use G G_good (fun (k : Nat) => [(1, eInt n), (2, .ptr 20 0 0), (5, .own 51 0 (mr k).length), (6, eInts ks), (7, eInt k)])
  (fun k => [(20, .live 2 [eFor ⟨l, m⟩] false), (51, rInts (mr k))])
  (fun k => k ≤ ks.length) (fun k => ks.length - k) 0 (Nat.zero_le _) ?_ ?_
 ·rw [h0]
  (refine fK ?_; (with_reducible repeat' (first | exact trivial | (show _ ∧ _; refine aK ?_ ?_))); (all_goals try rfl))
  all_goals first
   | exact ⟨.refl rfl, rfl⟩
 intro k hk
 have hdl := hml k
 have hmm : ((mr k).map oInt).length = (mr k).length := List.length_map ..
 with_reducible refine wK ?_
 refine IfK.mk (fun h1 => ?_) (fun h1 => ?_) <;> (try simp only [castN] at h1) <;> with_reducible refine wK ?_
 ·have hk' : k < ks.length := by simp only [decide_eq_true_eq, castN] at h1; omega
  obtain ⟨c, hc⟩ : ∃ c, ks[k]? = some c := ⟨_, List.getElem?_eq_getElem hk'⟩
  have h44 := h44 c (hot c (List.mem_of_getElem? hc))
  have hst := hstep k c hc
  generalize ownR l c = o at h44 hst
  generalize mr k = X at *
  by_cases e : o = n
  ·rw [if_pos e] at hst
   (have fct := (eq_true e); (repeat' (first
  | refine gF ?_ | refine aE ?_ ?_
  | ((first
   | (refine IdxK.mk k (eInt c) rfl (int_get hc) ?_)
   | ((with_reducible refine kQ 44 ?_); refine cL h44 c44 ?_)
   | ((with_reducible show AppK _ _ _ _ _ _ _ _ _ _); refine AppK.mk (X.map oInt) [eInt c] ⟨rfl, hmm.symm, rfl⟩ ⟨rfl, rfl, rfl⟩ rfl (by simp; omega) (by simp; omega) ?_)
   | ((with_reducible show DrawK _ _ _ _); refine dK ?_)) <;> with_reducible refine wK ?_)
  | apply trivial)); all_goals clear fct)
   refine NextK.mk (k + 1) (by omega) (by omega) ?_
   rw [hst]
   (refine fK ?_; (with_reducible repeat' (first | exact trivial | (show _ ∧ _; refine aK ?_ ?_))); (all_goals try rfl))
   all_goals first
    | (simp; done)
    | exact ⟨.refl rfl, rfl⟩
    | (refine ⟨?_, noRef_ints _⟩; rw [List.map_append]; exact .refl (by rw [← List.map_append]; exact noRef_ints _))
  ·rw [if_neg e, List.append_nil] at hst
   (have fct := (eq_false e); (repeat' (first
  | refine gF ?_ | refine aE ?_ ?_
  | ((first
   | (refine IdxK.mk k (eInt c) rfl (int_get hc) ?_)
   | ((with_reducible refine kQ 44 ?_); refine cL h44 c44 ?_)
   | ((with_reducible show DrawK _ _ _ _); refine dK ?_)) <;> with_reducible refine wK ?_)
  | apply trivial)); all_goals clear fct)
   refine NextK.mk (k + 1) (by omega) (by omega) ?_
   rw [hst]
   (refine fK ?_; (with_reducible repeat' (first | exact trivial | (show _ ∧ _; refine aK ?_ ?_))); (all_goals try rfl))
   all_goals first
    | (simp; done)
    | exact ⟨.refl rfl, rfl⟩
    | exact ⟨.refl (noRef_ints _), noRef_ints _⟩
 ·have hjl : k = ks.length := by simp only [decide_eq_false_iff_not, castN] at h1; omega
  subst hjl
  repeat' (first
  | refine gK ?_ | refine aE ?_ ?_
  | apply trivial)
  all_goals exact frz_ints rfl rfl rfl rfl
def aheadF (f : ForM) (a b : Int) : Bool := (rightF f && (thereN f.nodes a && thereN f.nodes b)) && aheadN f.nodes a b
theorem f40_ok (f : ForM) (hs : SmallN f.nodes) (a b : Int) : FnOK Tryz.prog 40 [] [eFor f, eInt a, eInt b] [] (eBool (aheadF f a b)) := by
 have h76 := f76_ok f hs [a, b] (by simp)
 rw [asked_two] at h76
 unfold aheadF
 cases e0 : (rightF f && (thereN f.nodes a && thereN f.nodes b)) with
 | false =>
   rw [e0] at h76
   obtain ⟨l, m⟩ := f
   refine FnOK.startC (rvs := [.tmp 6]) G G_good Tryz.func40 rfl Tryz.ntmps40 rfl rfl ?_; with_reducible refine wD ?_
   refine CallK.lit [111] h76 c76 ⟨⟨rfl, rfl, trivial⟩, frz_ints (l := [a, b]) rfl rfl rfl rfl, trivial⟩ rfl rfl ?_; with_reducible refine wK ?_
   repeat' (first
  | refine gK ?_ | refine aE ?_ ?_
  | apply trivial)
   all_goals rfl
 | true =>
   rw [e0] at h76
   obtain ⟨hr, ha, hb⟩ : rightF f = true ∧ thereN f.nodes a = true ∧ thereN f.nodes b = true := by simpa using e0
   have T := tree_of hr
   have hra := root_there T a ha
   have h77a := f77_ok f T a ha
   have h77b := f77_ok f T b hb
   have h78 := f78_ok f hs (rootN f.nodes a)
   have e8 : ordF f (rootN f.nodes a) = ordN f.nodes f.nodes.length (rootN f.nodes a) := by unfold ordF; rw [hr, hra.1]; rfl
   rw [e8] at h78
   have hol := ord_len T f.nodes.length hra.1
   have hl := hs.len
   have h79 := fun n => f79_ok (ordN f.nodes f.nodes.length (rootN f.nodes a)) (by omega) n
   have hdef : aheadN f.nodes a b = (decide (rootN f.nodes a = rootN f.nodes b) && decide (ixN (ordN f.nodes f.nodes.length (rootN f.nodes a)) a < ixN (ordN f.nodes f.nodes.length (rootN f.nodes a)) b)) := rfl
   have hix : ∀ n, idxI (fun x => decide (x = n)) (ordN f.nodes f.nodes.length (rootN f.nodes a)) = ixN (ordN f.nodes f.nodes.length (rootN f.nodes a)) n := fun n => rfl
   simp only [hix] at h79
   rw [hdef, Bool.true_and]
   clear hdef hix hra e8 hol
   generalize ordN f.nodes f.nodes.length (rootN f.nodes a) = ks at *
   generalize rootN f.nodes a = ra at *
   generalize rootN f.nodes b = rb at *
   have hA := h79 a
   have hB := h79 b
   clear h79
   generalize ixN ks a = ia at *
   generalize ixN ks b = ib at *
   obtain ⟨l, m⟩ := f
   refine FnOK.startC (rvs := [.tmp 6]) G G_good Tryz.func40 rfl Tryz.ntmps40 rfl rfl ?_; with_reducible refine wD ?_
   refine CallK.lit [111] h76 c76 ⟨⟨rfl, rfl, trivial⟩, frz_ints (l := [a, b]) rfl rfl rfl rfl, trivial⟩ rfl rfl ?_; with_reducible refine wK ?_
   by_cases e : ra = rb
   ·(have fct := (eq_true e); (repeat' (first
  | refine gF ?_ | refine aE ?_ ?_
  | ((first
   | ((with_reducible refine kQ 77 ?_); first | refine cL h77a c77 ?_ | refine cL h77b c77 ?_)
   | ((with_reducible refine kQ 78 ?_); refine cV h78 c78 ?_)
   | ((with_reducible refine kQ 79 ?_); first | refine cL hA c79 ?_ | refine cL hB c79 ?_)) <;> with_reducible refine wK ?_)
  | apply trivial)); all_goals clear fct)
    all_goals first | (rw [decide_eq_true e]; rfl)
   ·(have fct := (eq_false e); (repeat' (first
  | refine gF ?_ | refine aE ?_ ?_
  | (((with_reducible refine kQ 77 ?_); first | refine cL h77a c77 ?_ | refine cL h77b c77 ?_) <;> with_reducible refine wK ?_)
  | apply trivial)); all_goals clear fct)
    all_goals first | (rw [decide_eq_false e]; rfl)
theorem f8_ok (f : ForM) (n : Int) : FnOK Tryz.prog 8 [] [eFor f, eInt n] [] (eBool true) := by
 have h41 := f41_ok
 have h13 := f13_ok f
 cases b1 : shortF f with
 | false =>
   rw [b1] at h13
   obtain ⟨l, m⟩ := f
   refine FnOK.startC (rvs := [.tmp 4]) G G_good Tryz.func8 rfl Tryz.ntmps8 rfl rfl ?_; with_reducible refine wD ?_
   repeat' (first
  | refine gK ?_ | refine aE ?_ ?_
  | ((first
   | ((with_reducible refine kQ 41 ?_); refine cL h41 c41 ?_)
   | ((with_reducible refine kQ 13 ?_); refine cL h13 c13 ?_)) <;> with_reducible refine wK ?_)
  | apply trivial)
   all_goals rfl
 | true =>
 have hs := shortF_iff.1 b1
 have h28 := f28_ok f hs
 rw [right_eq f] at h28
 rw [b1] at h13
 have h60 := hs.len
 have h42 := f42_ok f hs
 have h38 := f38_ok f hs n
 have h43 := f43_ok f hs n
 cases b2 : rightF f with
 | false =>
   rw [b2] at h28
   have e1 : allF f = [] := by unfold allF; rw [b2]; rfl
   have e2 : ownF f n = -1 := by unfold ownF; rw [b2]; simp
   have e3 : memV f n = [] := by unfold memV; rw [b2]; simp
   rw [e1] at h42
   rw [e2] at h38
   rw [e3] at h43
   obtain ⟨l, m⟩ := f
   refine FnOK.startC (rvs := [.tmp 4]) G G_good Tryz.func8 rfl Tryz.ntmps8 rfl rfl ?_; with_reducible refine wD ?_
   (have fct := h60; (repeat' (first
  | refine gF ?_ | refine aE ?_ ?_
  | ((first
   | ((with_reducible refine kQ 41 ?_); refine cL h41 c41 ?_)
   | ((with_reducible refine kQ 13 ?_); refine cL h13 c13 ?_)
   | ((with_reducible refine kQ 28 ?_); refine cL h28 c28 ?_)
   | ((with_reducible refine kQ 42 ?_); refine cV h42 c42 ?_)
   | ((with_reducible refine kQ 38 ?_); refine cL h38 c38 ?_)
   | ((with_reducible refine kQ 43 ?_); refine cV h43 c43 ?_)) <;> with_reducible refine wK ?_)
  | apply trivial)); all_goals clear fct)
   all_goals first | rfl
 | true =>
 rw [b2] at h28
 have T := tree_of b2
 have e1 : allF f = ownTo f.nodes f.nodes.length := by unfold allF; rw [b2]; rfl
 rw [e1] at h42
 have hol := ownTo_len f.nodes f.nodes.length
 have hog : ∀ k, k < f.nodes.length → (ownTo f.nodes f.nodes.length)[k]? = some (ownN f.nodes (k : Int)) := fun k hk => by
  unfold ownTo; rw [List.getElem?_map, List.getElem?_range hk]; rfl
 have h44 : ∀ k : Nat, k < f.nodes.length → FnOK Tryz.prog 44 [] [eFor f, eInt k] [] (eInt (ownN f.nodes (k : Int))) := fun k hk => by
  have ht := there_get (List.getElem?_eq_getElem hk)
  have := f44_ok f hs b2 (k : Int) ht
  rwa [← own_eq T ht] at this
 have hlm : (f.nodes.map oNode).length = f.nodes.length := List.length_map ..
 by_cases hn : thereN f.nodes n = true
 ·have e2 : ownF f n = ownN f.nodes n := by unfold ownF; rw [b2, hn]; rfl
  have e3 : memV f n = memF f.nodes n := by unfold memV; rw [b2, hn]; rfl
  rw [e2] at h38
  rw [e3] at h43
  obtain ⟨j, x, hj, hx, hnx⟩ := there_iff.1 hn
  subst hj
  have hjl := (List.getElem?_eq_some_iff.1 hx).1
  have h33 := f33_ok f j x hx
  have h46 := f46_ok f hs b2 (j : Int) hn
  rw [← mem_eq' T hn] at h46
  have hogj := hog j hjl
  have hmf : memF f.nodes (j : Int) = if isForm x = true then memN f.nodes (j : Int) else [] := by unfold memF; rw [hnx]
  have hml := mem_len T hn
  have h45 := f45_ok (memF f.nodes (j : Int)) (memN f.nodes (j : Int)) (by omega)
  rw [hmf] at h43 h45 hml
  generalize memN f.nodes (j : Int) = mn at *
  generalize ownTo f.nodes f.nodes.length = ol at *
  generalize ho : ownN f.nodes (j : Int) = o at *
  clear hnx e1 e2 e3 hmf
  have hom : (ol.map oInt).length = ol.length := List.length_map ..
  obtain ⟨l, m⟩ := f
  simp only at hol hlm hx hjl hog h44 h60
  have hj0 : ¬ (j : Int) < 0 := by omega
  have hj1 : ¬ (l.length : Int) ≤ (j : Int) := by omega
  refine FnOK.startC (rvs := [.tmp 4]) G G_good Tryz.func8 rfl Tryz.ntmps8 rfl rfl ?_; with_reducible refine wD ?_
  (have fct := And.intro hom (And.intro hol (hlm)); (repeat' (first
  | refine gF ?_ | refine aE ?_ ?_
  | ((first
   | ((with_reducible refine kQ 41 ?_); refine cL h41 c41 ?_)
   | ((with_reducible refine kQ 13 ?_); refine cL h13 c13 ?_)
   | ((with_reducible refine kQ 28 ?_); refine cL h28 c28 ?_)
   | ((with_reducible refine kQ 42 ?_); refine cV h42 c42 ?_)
   | ((with_reducible refine kQ 38 ?_); refine cL h38 c38 ?_)
   | ((with_reducible refine kQ 43 ?_); refine cV h43 c43 ?_)) <;> with_reducible refine wK ?_)
  | apply trivial)); all_goals clear fct)
  refine LoopK.use G G_good (fun (k : Nat) => [(1, eInt j), (2, .ptr 20 0 0), (5, eInts ol), (6, eInt k)])
   (fun _ => [(20, .live 2 [eFor ⟨l, m⟩] false)])
   (fun k => k ≤ l.length) (fun k => l.length - k) 0 (Nat.zero_le _) ?_ ?_
  ·(refine fK ?_; (with_reducible repeat' (first | exact trivial | (show _ ∧ _; refine aK ?_ ?_))); (all_goals try rfl))
   all_goals first | exact ⟨.refl rfl, rfl⟩
  intro k hk
  with_reducible refine wK ?_
  refine IfK.mk (fun h1 => ?_) (fun h1 => ?_) <;> (try simp only [castN] at h1) <;> with_reducible refine wK ?_
  ·have hkl : k < l.length := by simp only [hom, hol, decide_eq_true_eq, castN] at h1; omega
   have h44k := h44 k hkl
   have hgk := hog k hkl
   generalize ownN l (k : Int) = q at *
   repeat' (first
  | refine gK ?_ | refine aE ?_ ?_
  | ((first
   | (refine IdxK.mk k (eInt q) rfl (int_get hgk) ?_)
   | ((with_reducible refine kQ 44 ?_); refine cL h44k c44 ?_)) <;> with_reducible refine wK ?_)
  | apply trivial)
   refine NextK.mk (k + 1) (by omega) (by omega) ?_
   (refine fK ?_; (with_reducible repeat' (first | exact trivial | (show _ ∧ _; refine aK ?_ ?_))); (all_goals try rfl))
   all_goals first | exact ⟨.refl rfl, rfl⟩ | (simp; done)
  ·cases hf : isForm x with
   | false =>
     rw [hf] at h33 h43
     rw [if_neg (by simp)] at h43
     (have fct := And.intro hlm (And.intro (eq_false hj0) ((eq_false hj1))); (repeat' (first
  | refine gF ?_ | refine aE ?_ ?_
  | ((first
   | (refine IdxK.mk j (eInt o) rfl (int_get hogj) ?_)
   | ((with_reducible refine kQ 33 ?_); refine cL h33 c33 ?_)
   | ((with_reducible refine kQ 38 ?_); refine cL h38 c38 ?_)
   | ((with_reducible refine kQ 43 ?_); refine cV h43 c43 ?_)
   | ((with_reducible show DrawK _ _ _ _); refine dK ?_)) <;> with_reducible refine wK ?_)
  | apply trivial)); all_goals clear fct)
     all_goals first | rfl
   | true =>
     rw [hf] at h33 h43 h45
     rw [if_pos rfl] at h43 h45
     rw [decide_eq_true rfl] at h45
     (have fct := And.intro hlm (And.intro (eq_false hj0) ((eq_false hj1))); (repeat' (first
  | refine gF ?_ | refine aE ?_ ?_
  | ((first
   | (refine IdxK.mk j (eInt o) rfl (int_get hogj) ?_)
   | ((with_reducible refine kQ 33 ?_); refine cL h33 c33 ?_)
   | ((with_reducible refine kQ 38 ?_); refine cL h38 c38 ?_)
   | ((with_reducible refine kQ 43 ?_); refine cV h43 c43 ?_)
   | ((with_reducible refine kQ 46 ?_); refine cV h46 c46 ?_)
   | ((with_reducible refine kQ 45 ?_); refine cL h45 c45 ?_)
   | ((with_reducible show DrawK _ _ _ _); refine dK ?_)) <;> with_reducible refine wK ?_)
  | apply trivial)); all_goals clear fct)
     all_goals first | rfl
 ·have e2 : ownF f n = -1 := by unfold ownF; rw [Bool.eq_false_iff.2 hn]; rfl
  have e3 : memV f n = [] := by unfold memV; rw [Bool.eq_false_iff.2 hn]; rfl
  rw [e2] at h38
  rw [e3] at h43
  have hout : n < 0 ∨ (¬ n < 0 ∧ (f.nodes.length : Int) ≤ n) := by
   by_cases h0 : n < 0
   ·exact .inl h0
   ·refine .inr ⟨h0, Int.not_lt.1 fun h => hn ?_⟩
    obtain ⟨j, rfl⟩ : ∃ j : Nat, n = j := ⟨n.toNat, by omega⟩
    exact there_get (List.getElem?_eq_getElem (by omega))
  generalize ownTo f.nodes f.nodes.length = ol at *
  clear e1 e2 e3 hn
  have hom : (ol.map oInt).length = ol.length := List.length_map ..
  obtain ⟨l, m⟩ := f
  simp only at hol hlm hog h44 hout h60
  refine FnOK.startC (rvs := [.tmp 4]) G G_good Tryz.func8 rfl Tryz.ntmps8 rfl rfl ?_; with_reducible refine wD ?_
  (have fct := And.intro hom (And.intro hol (hlm)); (repeat' (first
  | refine gF ?_ | refine aE ?_ ?_
  | ((first
   | ((with_reducible refine kQ 41 ?_); refine cL h41 c41 ?_)
   | ((with_reducible refine kQ 13 ?_); refine cL h13 c13 ?_)
   | ((with_reducible refine kQ 28 ?_); refine cL h28 c28 ?_)
   | ((with_reducible refine kQ 42 ?_); refine cV h42 c42 ?_)
   | ((with_reducible refine kQ 38 ?_); refine cL h38 c38 ?_)
   | ((with_reducible refine kQ 43 ?_); refine cV h43 c43 ?_)) <;> with_reducible refine wK ?_)
  | apply trivial)); all_goals clear fct)
  refine LoopK.use G G_good (fun (k : Nat) => [(1, eInt n), (2, .ptr 20 0 0), (5, eInts ol), (6, eInt k)])
   (fun _ => [(20, .live 2 [eFor ⟨l, m⟩] false)])
   (fun k => k ≤ l.length) (fun k => l.length - k) 0 (Nat.zero_le _) ?_ ?_
  ·(refine fK ?_; (with_reducible repeat' (first | exact trivial | (show _ ∧ _; refine aK ?_ ?_))); (all_goals try rfl))
   all_goals first | exact ⟨.refl rfl, rfl⟩
  intro k hk
  with_reducible refine wK ?_
  refine IfK.mk (fun h1 => ?_) (fun h1 => ?_) <;> (try simp only [castN] at h1) <;> with_reducible refine wK ?_
  ·have hkl : k < l.length := by simp only [hom, hol, decide_eq_true_eq, castN] at h1; omega
   have h44k := h44 k hkl
   have hgk := hog k hkl
   generalize ownN l (k : Int) = q at *
   repeat' (first
  | refine gK ?_ | refine aE ?_ ?_
  | ((first
   | (refine IdxK.mk k (eInt q) rfl (int_get hgk) ?_)
   | ((with_reducible refine kQ 44 ?_); refine cL h44k c44 ?_)) <;> with_reducible refine wK ?_)
  | apply trivial)
   refine NextK.mk (k + 1) (by omega) (by omega) ?_
   (refine fK ?_; (with_reducible repeat' (first | exact trivial | (show _ ∧ _; refine aK ?_ ?_))); (all_goals try rfl))
   all_goals first | exact ⟨.refl rfl, rfl⟩ | (simp; done)
  ·rcases hout with h0 | ⟨h0, h0'⟩
   ·(have fct := And.intro hlm ((eq_true h0)); (repeat' (first
  | refine gF ?_ | refine aE ?_ ?_
  | ((first
   | ((with_reducible refine kQ 38 ?_); refine cL h38 c38 ?_)
   | ((with_reducible refine kQ 43 ?_); refine cV h43 c43 ?_)
   | ((with_reducible show DrawK _ _ _ _); refine dK ?_)) <;> with_reducible refine wK ?_)
  | apply trivial)); all_goals clear fct)
    all_goals first | rfl
   ·(have fct := And.intro hlm (And.intro (eq_false h0) ((eq_true h0'))); (repeat' (first
  | refine gF ?_ | refine aE ?_ ?_
  | ((first
   | ((with_reducible refine kQ 38 ?_); refine cL h38 c38 ?_)
   | ((with_reducible refine kQ 43 ?_); refine cV h43 c43 ?_)
   | ((with_reducible show DrawK _ _ _ _); refine dK ?_)) <;> with_reducible refine wK ?_)
  | apply trivial)); all_goals clear fct)
    all_goals first | rfl
section
variable {l : List NodeM}
def mN (l : List NodeM) (x : Nat) : List Int := (List.range x).flatMap fun k : Nat => memF l (k : Int)
theorem mN_step (x : Nat) : mN l (x + 1) = mN l x ++ memF l (x : Int) := by
 unfold mN; rw [List.range_succ, List.flatMap_append]; simp
theorem mN_count (T : Tree l) {n : Int} (hn : thereN l n = true) : ∀ x, x ≤ l.length → (mN l x).count n = if 0 ≤ ownN l n ∧ ownN l n < (x : Int) then 1 else 0
 | 0, _ => by
   rw [if_neg (by omega)]; rfl
 | x + 1, h => by
   have hx : thereN l (x : Int) = true := there_get (List.getElem?_eq_getElem (by omega))
   rw [mN_step, List.count_append, mN_count T hn x (by omega), count_has T hx hn]
   by_cases h2 : ownN l n = (x : Int)
   ·rw [if_neg (by omega), if_pos h2, if_pos (by omega)]
   ·rw [if_neg (c := ownN l n = (x : Int)) h2]
    by_cases h3 : 0 ≤ ownN l n ∧ ownN l n < (x : Int)
    ·rw [if_pos h3, if_pos (by omega)]
    ·rw [if_neg h3, if_neg (fun e => h3 (by omega))]
theorem mN_all (T : Tree l) {n : Int} (hn : thereN l n = true) : ((mN l l.length).count n : Int) = if ownN l n = -1 then 0 else 1 := by
 rw [mN_count T hn _ (Nat.le_refl _)]
 by_cases h : ownN l n = -1
 ·rw [if_pos h, if_neg (by omega)]; rfl
 ·rw [if_neg h]
  obtain ⟨g1, _⟩ := own_form T hn h
  obtain ⟨j, y, hj, hy, _⟩ := there_iff.1 g1
  have := (List.getElem?_eq_some_iff.1 hy).1
  rw [if_pos (by omega)]; rfl
theorem mN_len (T : Tree l) (h60 : l.length ≤ 60) : ∀ x, x ≤ l.length → (mN l x).length ≤ 60 * x
 | 0, _ => Nat.le_refl _
 | x + 1, h => by
   have h1 := mN_len T h60 x (by omega)
   have h2 := mem_len T (x := (x : Int)) (there_get (List.getElem?_eq_getElem (by omega)))
   rw [mN_step, List.length_append]
   omega
def uL (L : List Int) : List Int := (List.range 60).map fun n : Nat => (L.count (n : Int) : Int)
theorem uL_zero : uL [] = List.replicate 60 0 := by decide +kernel
theorem uL_len (L : List Int) : (uL L).length = 60 := by unfold uL; simp
theorem uL_get (L : List Int) {n : Nat} (h : n < 60) : (uL L)[n]? = some (L.count (n : Int) : Int) := by
 unfold uL; rw [List.getElem?_map, List.getElem?_range h]; rfl
theorem uL_snoc (L : List Int) {k : Nat} (h : k < 60) : uL (L ++ [(k : Int)]) = (uL L).set k ((L.count (k : Int) : Int) + 1) := by
 apply List.ext_getElem?
 intro n
 rw [List.getElem?_set]
 by_cases hn : n < 60
 ·rw [uL_get _ hn, uL_get _ hn, uL_len, List.count_append]
  by_cases e : k = n
  ·subst e; rw [if_pos rfl, if_pos h]; simp
  ·have : ¬ (k : Int) = (n : Int) := by omega
   rw [if_neg e]; simp [List.count_cons, this]
 ·rw [List.getElem?_eq_none (by rw [uL_len]; omega), if_neg (by omega), List.getElem?_eq_none (by rw [uL_len]; omega)]
theorem uset_ints (l : List Int) (k : Nat) (v : Int) : (l.map oInt).set k (eInt v) = (l.set k v).map oInt := by rw [List.map_set]; rfl
end
theorem f10_ok (f : ForM) : FnOK Tryz.prog 10 [] [eFor f] [] (eBool true) := by
 have h41 := f41_ok
 have h13 := f13_ok f
 cases b1 : shortF f with
 | false =>
   rw [b1] at h13
   obtain ⟨l, m⟩ := f
   refine FnOK.startC (rvs := [.tmp 2]) G G_good Tryz.func10 rfl Tryz.ntmps10 rfl rfl ?_; with_reducible refine wD ?_
   repeat' (first
  | refine gK ?_ | refine aE ?_ ?_
  | ((first
   | ((with_reducible refine kQ 41 ?_); refine cL h41 c41 ?_)
   | ((with_reducible refine kQ 13 ?_); refine cL h13 c13 ?_)) <;> with_reducible refine wK ?_)
  | apply trivial)
   all_goals rfl
 | true =>
 have hs := shortF_iff.1 b1
 have h15 := f15_ok f hs
 rw [b1] at h13
 cases b2 : rightF f with
 | false =>
   rw [b2] at h15
   obtain ⟨l, m⟩ := f
   refine FnOK.startC (rvs := [.tmp 2]) G G_good Tryz.func10 rfl Tryz.ntmps10 rfl rfl ?_; with_reducible refine wD ?_
   repeat' (first
  | refine gK ?_ | refine aE ?_ ?_
  | ((first
   | ((with_reducible refine kQ 41 ?_); refine cL h41 c41 ?_)
   | ((with_reducible refine kQ 13 ?_); refine cL h13 c13 ?_)
   | ((with_reducible refine kQ 15 ?_); refine cL h15 c15 ?_)) <;> with_reducible refine wK ?_)
  | apply trivial)
   all_goals rfl
 | true =>
 have T := tree_of b2
 rw [b2] at h15
 have h60 := hs.len
 have htn : ∀ k : Nat, k < f.nodes.length → thereN f.nodes (k : Int) = true := fun k hk => there_get (List.getElem?_eq_getElem hk)
 have h43 : ∀ x : Nat, x < f.nodes.length → FnOK Tryz.prog 43 [] [eFor f, eInt x] [] (eInts (memF f.nodes (x : Int))) := fun x hx => by
  have := f43_ok f hs (x : Int)
  unfold memV at this
  rwa [htn x hx, b2, if_pos (by rfl)] at this
 have h38 : ∀ n : Nat, n < f.nodes.length → FnOK Tryz.prog 38 [] [eFor f, eInt n] [] (eInt (ownN f.nodes (n : Int))) := fun n hn => by
  have := f38_ok f hs (n : Int)
  unfold ownF at this
  rwa [htn n hn, b2, if_pos (by rfl)] at this
 have h48 : ∀ n : Nat, n < f.nodes.length → FnOK Tryz.prog 48 [] [eFor f, eInt n] [] (eInt (rootN f.nodes (n : Int))) := fun n hn => f48_ok f hs b2 (n : Int) (htn n hn)
 have hfac : ∀ x : Nat, x < f.nodes.length → ∀ i c, (memF f.nodes (x : Int))[i]? = some c → ∃ k : Nat, c = (k : Int) ∧ k < f.nodes.length ∧ ownN f.nodes (k : Int) = (x : Int) ∧ rootN f.nodes (k : Int) = rootN f.nodes (x : Int) := fun x hx i c h => by
  obtain ⟨a1, a2, a3, _⟩ := mem_facts T (htn x hx) (List.mem_of_getElem? h)
  obtain ⟨k, y, hk, hy, _⟩ := there_iff.1 a1
  subst hk
  exact ⟨k, rfl, (List.getElem?_eq_some_iff.1 hy).1, a2, a3⟩
 have hnam : ∀ x : Nat, x < f.nodes.length → 0 < (memF f.nodes (x : Int)).length → (nd f.nodes (x : Int)).name = formW := fun x hx h => by
  obtain ⟨c, hc⟩ : ∃ c, (memF f.nodes (x : Int))[0]? = some c := ⟨_, List.getElem?_eq_getElem h⟩
  exact (mem_facts T (htn x hx) (List.mem_of_getElem? hc)).2.2.2
 have h40 : ∀ x : Nat, x < f.nodes.length → ∀ i a b, (memF f.nodes (x : Int))[i]? = some a → (memF f.nodes (x : Int))[i + 1]? = some b → FnOK Tryz.prog 40 [] [eFor f, eInt a, eInt b] [] (eBool true) := fun x hx i a b ha hb => by
  have := f40_ok f hs a b
  have e : aheadF f a b = true := by
   unfold aheadF
   rw [b2, (mem_facts T (htn x hx) (List.mem_of_getElem? ha)).1, (mem_facts T (htn x hx) (List.mem_of_getElem? hb)).1, mem_ahead T (htn x hx) ha hb]; rfl
  rwa [e] at this
 have hrl : ∀ x : Nat, x < f.nodes.length → (memF f.nodes (x : Int)).length ≤ f.nodes.length := fun x hx => mem_len T (htn x hx)
 have hst := fun x => mN_step (l := f.nodes) x
 have hAl := fun x hx => mN_len T h60 x hx
 have hall : ∀ n : Nat, n < f.nodes.length → ((mN f.nodes f.nodes.length).count (n : Int) : Int) = if ownN f.nodes (n : Int) = -1 then 0 else 1 := fun n hn => mN_all T (htn n hn)
 have h20 : ∀ n : Nat, n < f.nodes.length → ∀ j : Nat, j < f.nodes.length → ownN f.nodes (n : Int) = (j : Int) → FnOK Tryz.prog 20 [] [eInts (memF f.nodes (j : Int)), eInt n] [] (eInt 1) := fun n hn j hj e => by
  have := f20_ok (memF f.nodes (j : Int)) (by have := hrl j hj; omega) (n : Int)
  rwa [count_has T (htn j hj) (htn n hn), if_pos e] at this
 have hoj : ∀ n : Nat, n < f.nodes.length → ownN f.nodes (n : Int) ≠ -1 → ∃ j : Nat, ownN f.nodes (n : Int) = (j : Int) ∧ j < f.nodes.length := fun n hn h => by
  obtain ⟨g1, _⟩ := own_form T (htn n hn) h
  obtain ⟨j, y, hj, hy, _⟩ := there_iff.1 g1
  exact ⟨j, hj, (List.getElem?_eq_some_iff.1 hy).1⟩
 have ha0 : mN f.nodes 0 = [] := rfl
 have hgx : ∀ x : Nat, x < f.nodes.length → ∃ y, f.nodes[x]? = some y ∧ nd f.nodes (x : Int) = y := fun x hx => by
  obtain ⟨y, hy⟩ : ∃ y, f.nodes[x]? = some y := ⟨_, List.getElem?_eq_getElem hx⟩
  obtain ⟨i, z, ei, hz, hnz⟩ := there_iff.1 (htn x hx)
  obtain rfl : x = i := by omega
  rw [hy] at hz; cases hz
  exact ⟨y, hy, hnz⟩
 generalize mN f.nodes = A at *
 obtain ⟨rs, hrs⟩ : ∃ rs : Nat → List Int, rs = fun x : Nat => memF f.nodes (x : Int) := ⟨_, rfl⟩
 have hrs' : ∀ x : Nat, memF f.nodes (x : Int) = rs x := fun x => by rw [hrs]
 simp only [hrs'] at h43 hfac hnam h40 hrl hst h20
 clear hrs hrs' T b1 b2 hs
 obtain ⟨l, m⟩ := f
 simp only at h60
 have hnm : (l.map oNode).length = l.length := List.length_map ..
 refine FnOK.startC (rvs := [.tmp 2]) G G_good Tryz.func10 rfl Tryz.ntmps10 rfl rfl ?_; with_reducible refine wD ?_
 (have fct := hnm; (repeat' (first
  | refine gF ?_ | refine aE ?_ ?_
  | ((first
   | ((with_reducible refine kQ 41 ?_); refine cL h41 c41 ?_)
   | ((with_reducible refine kQ 13 ?_); refine cL h13 c13 ?_)
   | ((with_reducible refine kQ 15 ?_); refine cL h15 c15 ?_)) <;> with_reducible refine wK ?_)
  | apply trivial)); all_goals clear fct)
 refine LoopK.use G G_good (fun (x : Nat) => [(1, .ptr 10 0 0), (3, .ptr 31 0 0), (4, eInt x)])
  (fun x => [(10, .live 2 [eFor ⟨l, m⟩] false), (31, rInts (uL (A x)))])
  (fun x => x ≤ l.length) (fun x => l.length - x) 0 (Nat.zero_le _) ?_ ?_
 ·rw [ha0, uL_zero]
  (refine fK ?_; (with_reducible repeat' (first | exact trivial | (show _ ∧ _; refine aK ?_ ?_))); (all_goals try rfl))
  all_goals first
   | exact ⟨.refl rfl, rfl⟩
 intro x hx
 with_reducible refine wK ?_
 refine IfK.mk (fun h1 => ?_) (fun h1 => ?_) <;> (try simp only [castN] at h1) <;> with_reducible refine wK ?_
 ·have hx' : x < l.length := by simp only [hnm, decide_eq_true_eq, castN] at h1; omega
  have h43 := h43 x hx'
  have hfac := hfac x hx'
  have hnam := hnam x hx'
  have h40 := h40 x hx'
  have hrl := hrl x hx'
  have hst := hst x
  have hAl := hAl x (by omega)
  have h48x := h48 x hx'
  obtain ⟨y, hy, hny⟩ := hgx x hx'
  rw [hny] at hnam
  clear hall h20 hoj hgx
  generalize rs x = r at *
  generalize A x = L at *
  have hrm : (r.map oInt).length = r.length := List.length_map ..
  obtain ⟨y1, y2, y3, y4, y5, y6, y7, y8, y9, y10⟩ := y
  simp only at hnam
  have hcase : (r.length = 0 ∧ True) ∨ ((0 : Int) < (r.length : Int) ∧ y2 = formW) := by
   rcases Nat.eq_zero_or_pos r.length with h | h
   ·exact .inl ⟨h, trivial⟩
   ·exact .inr ⟨by omega, hnam h⟩
  rcases hcase with hc0 | hc0
  all_goals
   (have fct := And.intro hrm (hc0); (repeat' (first
  | refine gF ?_ | refine aE ?_ ?_
  | ((first
   | (refine IdxK.mk x (eNode ⟨y1, y2, y3, y4, y5, y6, y7, y8, y9, y10⟩) rfl (node_get hy) ?_)
   | ((with_reducible refine kQ 43 ?_); refine cV h43 c43 ?_)) <;> with_reducible refine wK ?_)
  | apply trivial)); all_goals clear fct)
   refine LoopK.use G G_good (fun (i : Nat) => [(1, .ptr 10 0 0), (3, .ptr 31 0 0), (4, eInt x), (5, eInts r), (6, eInt i)])
    (fun i => [(10, .live 2 [eFor ⟨l, m⟩] false), (31, rInts (uL (L ++ r.take i)))])
    (fun i => i ≤ r.length) (fun i => r.length - i) 0 (Nat.zero_le _) ?_ ?_
   ·rw [List.take_zero, List.append_nil]
    (refine fK ?_; (with_reducible repeat' (first | exact trivial | (show _ ∧ _; refine aK ?_ ?_))); (all_goals try rfl))
    all_goals first
     | exact ⟨.refl rfl, rfl⟩
     | exact ⟨.refl (noRef_ints _), noRef_ints _⟩
   intro i hi
   with_reducible refine wK ?_
   refine IfK.mk (fun h2 => ?_) (fun h2 => ?_) <;> (try simp only [castN] at h2) <;> with_reducible refine wK ?_
   ·have hi' : i < r.length := by simp only [hrm, decide_eq_true_eq, castN] at h2; omega
    obtain ⟨c, hc⟩ : ∃ c, r[i]? = some c := ⟨_, List.getElem?_eq_getElem hi'⟩
    obtain ⟨k, hck, hkl, hko, hkr⟩ := hfac i c hc
    subst hck
    have hkl2 : k < l.length := hkl
    have hk60 : k < 60 := by omega
    have h38k := h38 k hkl
    rw [show ownN (ForM.mk l m).nodes (k : Int) = (x : Int) from hko] at h38k
    have h48k := h48 k hkl
    rw [show rootN (ForM.mk l m).nodes (k : Int) = rootN (ForM.mk l m).nodes (x : Int) from hkr] at h48k
    have h48z := h48x
    generalize rootN (ForM.mk l m).nodes (x : Int) = rt at h48k h48z
    have hti : r.take (i + 1) = r.take i ++ [(k : Int)] := by rw [List.take_add_one, hc]; rfl
    have htg := uL_get (L ++ r.take i) hk60
    have hts := uL_snoc (L ++ r.take i) hk60
    rw [List.append_assoc, ← hti] at hts
    have hcl : ((L ++ r.take i).count (k : Int) : Int) ≤ 4000 := by
     have h1 : (L ++ r.take i).count (k : Int) ≤ (L ++ r.take i).length := List.count_le_length
     rw [List.length_append, List.length_take] at h1
     have hrl' : r.length ≤ l.length := hrl
     have hAl' : L.length ≤ 60 * x := hAl
     omega
    have hcn : (0 : Int) ≤ ((L ++ r.take i).count (k : Int) : Int) := by omega
    generalize ((L ++ r.take i).count (k : Int) : Int) = v at *
    have hrl2 : r.length ≤ l.length := hrl
    have hk0 : (0 : Int) ≤ (k : Int) := by omega
    have hkl' : (k : Int) < (l.length : Int) := by omega
    have h40j : ∀ j p, i = j + 1 → r[j]? = some p → FnOK Tryz.prog 40 [] [eFor ⟨l, m⟩, eInt p, eInt k] [] (eBool true) := fun j p e hp => h40 j p k hp (by rw [← e]; exact hc)
    rcases Nat.eq_zero_or_pos i with hi0 | hi0
    ·subst hi0
     (have fct := And.intro hnm (And.intro hk0 (hkl')); (repeat' (first
  | refine gF ?_ | refine aE ?_ ?_
  | ((first
   | (refine IdxK.mk 0 (eInt k) rfl (int_get hc) ?_)
   | ((with_reducible show LtK _ _ _ _ _); refine LtK.mk k rfl hk60 ?_)
   | ((with_reducible show ElemK _ _ _ _ _); first | refine ElemK.mk (eInt v) (by first | exact int_get htg | (rw [Nat.zero_add]; exact int_get htg)) ?_ | refine ElemK.mk _ rfl ?_)
   | ((with_reducible refine kQ 38 ?_); refine cL h38k c38 ?_)
   | ((with_reducible refine kQ 48 ?_); first | refine cL h48k c48 ?_ | refine cL h48z c48 ?_)) <;> with_reducible refine wK ?_)
  | apply trivial)); all_goals clear fct)
     refine NextK.mk (0 + 1) (by omega) (by omega) ?_
     rw [hts]
     (refine fK ?_; (with_reducible repeat' (first | exact trivial | (show _ ∧ _; refine aK ?_ ?_))); (all_goals try rfl))
     all_goals first
      | exact ⟨.refl rfl, rfl⟩
      | (rw [uset_ints]; exact ⟨.refl (noRef_ints _), noRef_ints _⟩)
      | (simp; done)
    ·obtain ⟨j, rfl⟩ : ∃ j, i = j + 1 := ⟨i - 1, by omega⟩
     obtain ⟨p, hp⟩ : ∃ p, r[j]? = some p := ⟨_, List.getElem?_eq_getElem (by omega)⟩
     have h40p := h40j j p rfl hp
     have hj0 : (0 : Int) < ((j + 1 : Nat) : Int) := by omega
     (have fct := And.intro hnm (And.intro hk0 (And.intro hkl' (hj0))); (repeat' (first
  | refine gF ?_ | refine aE ?_ ?_
  | ((first
   | (first | refine IdxK.mk (j + 1) (eInt k) rfl (int_get hc) ?_ | refine IdxK.mk j (eInt p) (by (try simp only [castN]); omega) (int_get hp) ?_)
   | ((with_reducible show LtK _ _ _ _ _); refine LtK.mk k rfl hk60 ?_)
   | ((with_reducible show ElemK _ _ _ _ _); first | refine ElemK.mk (eInt v) (by first | exact int_get htg | (rw [Nat.zero_add]; exact int_get htg)) ?_ | refine ElemK.mk _ rfl ?_)
   | ((with_reducible refine kQ 38 ?_); refine cL h38k c38 ?_)
   | ((with_reducible refine kQ 48 ?_); first | refine cL h48k c48 ?_ | refine cL h48z c48 ?_)
   | ((with_reducible refine kQ 40 ?_); refine cL h40p c40 ?_)) <;> with_reducible refine wK ?_)
  | apply trivial)); all_goals clear fct)
     refine NextK.mk (j + 1 + 1) (by omega) (by omega) ?_
     rw [hts]
     (refine fK ?_; (with_reducible repeat' (first | exact trivial | (show _ ∧ _; refine aK ?_ ?_))); (all_goals try rfl))
     all_goals first
      | exact ⟨.refl rfl, rfl⟩
      | (rw [uset_ints]; exact ⟨.refl (noRef_ints _), noRef_ints _⟩)
      | (simp; done)
   ·have hjl : i = r.length := by simp only [hrm, decide_eq_false_iff_not, castN] at h2; omega
    subst hjl
    rw [List.take_length, ← hst]
    repeat' (first
  | refine gK ?_ | refine aE ?_ ?_
  | (((with_reducible show DrawK _ _ _ _); refine dK ?_) <;> with_reducible refine wK ?_)
  | apply trivial)
    refine NextK.mk (x + 1) (by omega) (by omega) ?_
    (refine fK ?_; (with_reducible repeat' (first | exact trivial | (show _ ∧ _; refine aK ?_ ?_))); (all_goals try rfl))
    all_goals first
     | exact ⟨.refl rfl, rfl⟩
     | exact ⟨.refl (noRef_ints _), noRef_ints _⟩
     | (simp; done)
 ·have hjl : x = l.length := by simp only [hnm, decide_eq_false_iff_not, castN] at h1; omega
  subst hjl
  clear hfac h40 hrl hst hAl hnam h48 hgx
  generalize A l.length = L at *
  repeat' (first
  | refine gK ?_ | refine aE ?_ ?_
  | (((with_reducible show DrawK _ _ _ _); refine dK ?_) <;> with_reducible refine wK ?_)
  | apply trivial)
  refine LoopK.use G G_good (fun (n : Nat) => [(1, .ptr 10 0 0), (3, .ptr 31 0 0), (7, eInt n)])
   (fun _ => [(10, .live 2 [eFor ⟨l, m⟩] false), (31, rInts (uL L))])
   (fun n => n ≤ l.length) (fun n => l.length - n) 0 (Nat.zero_le _) ?_ ?_
  ·(refine fK ?_; (with_reducible repeat' (first | exact trivial | (show _ ∧ _; refine aK ?_ ?_))); (all_goals try rfl))
   all_goals first
    | exact ⟨.refl rfl, rfl⟩
    | exact ⟨.refl (noRef_ints _), noRef_ints _⟩
  intro n hn
  with_reducible refine wK ?_
  refine IfK.mk (fun h3 => ?_) (fun h3 => ?_) <;> (try simp only [castN] at h3) <;> with_reducible refine wK ?_
  ·have hn' : n < l.length := by simp only [hnm, decide_eq_true_eq, castN] at h3; omega
   have hk60 : n < 60 := by omega
   have h38n := h38 n hn'
   have hcn := hall n hn'
   have htg := uL_get L hk60
   rw [hcn] at htg
   have h20n := h20 n hn'
   have hojn := hoj n hn'
   clear hall h38 hcn h20 hoj
   change (uL L)[n]? = some (if ownN l (n : Int) = -1 then 0 else 1) at htg
   change FnOK Tryz.prog 38 [] [eFor ⟨l, m⟩, eInt n] [] (eInt (ownN l (n : Int))) at h38n
   change ∀ j : Nat, j < l.length → ownN l (n : Int) = (j : Int) → _ at h20n
   change ownN l (n : Int) ≠ -1 → ∃ j : Nat, ownN l (n : Int) = (j : Int) ∧ j < l.length at hojn
   generalize ownN l (n : Int) = o at *
   by_cases ho : o = -1
   ·rw [if_pos ho] at htg
    (have fct := ho; (repeat' (first
  | refine gF ?_ | refine aE ?_ ?_
  | ((first
   | ((with_reducible show LtK _ _ _ _ _); refine LtK.mk n rfl hk60 ?_)
   | ((with_reducible show ElemK _ _ _ _ _); refine ElemK.mk (eInt 0) (by first | exact int_get htg | (rw [Nat.zero_add]; exact int_get htg)) ?_)
   | ((with_reducible refine kQ 38 ?_); refine cL h38n c38 ?_)
   | ((with_reducible show DrawK _ _ _ _); refine dK ?_)) <;> with_reducible refine wK ?_)
  | apply trivial)); all_goals clear fct)
    refine NextK.mk (n + 1) (by omega) (by omega) ?_
    (refine fK ?_; (with_reducible repeat' (first | exact trivial | (show _ ∧ _; refine aK ?_ ?_))); (all_goals try rfl))
    all_goals first
     | exact ⟨.refl rfl, rfl⟩
     | exact ⟨.refl (noRef_ints _), noRef_ints _⟩
     | (simp; done)
   ·rw [if_neg ho] at htg
    obtain ⟨j, rfl, hjl⟩ := hojn ho
    have h20j := h20n j hjl rfl
    have h43j := h43 j hjl
    (have fct := (eq_false ho); (repeat' (first
  | refine gF ?_ | refine aE ?_ ?_
  | ((first
   | ((with_reducible show LtK _ _ _ _ _); refine LtK.mk n rfl hk60 ?_)
   | ((with_reducible show ElemK _ _ _ _ _); refine ElemK.mk (eInt 1) (by first | exact int_get htg | (rw [Nat.zero_add]; exact int_get htg)) ?_)
   | ((with_reducible refine kQ 38 ?_); refine cL h38n c38 ?_)
   | ((with_reducible refine kQ 43 ?_); refine cV h43j c43 ?_)
   | ((with_reducible refine kQ 20 ?_); refine cL h20j c20 ?_)
   | ((with_reducible show DrawK _ _ _ _); refine dK ?_)) <;> with_reducible refine wK ?_)
  | apply trivial)); all_goals clear fct)
    refine NextK.mk (n + 1) (by omega) (by omega) ?_
    (refine fK ?_; (with_reducible repeat' (first | exact trivial | (show _ ∧ _; refine aK ?_ ?_))); (all_goals try rfl))
    all_goals first
     | exact ⟨.refl rfl, rfl⟩
     | exact ⟨.refl (noRef_ints _), noRef_ints _⟩
     | (simp; done)
  ·have hjl : n = l.length := by simp only [hnm, decide_eq_false_iff_not, castN] at h3; omega
   subst hjl
   repeat' (first
  | refine gK ?_ | refine aE ?_ ?_
  | (((with_reducible show DrawK _ _ _ _); refine dK ?_) <;> with_reducible refine wK ?_)
  | apply trivial)
   all_goals first | rfl
theorem att3 (x : NodeM) (w v : ByteArray) : (decide (0 ≤ findP x.attrs w) = false ∧ True ∧ attV x w ≠ some v) ∨ (decide (0 ≤ findP x.attrs w) = true ∧ getS x.attrs w = v ∧ attV x w = some v) ∨ (decide (0 ≤ findP x.attrs w) = true ∧ getS x.attrs w ≠ v ∧ attV x w ≠ some v) := by
 unfold attV
 by_cases h : 0 ≤ findP x.attrs w
 ·rw [if_pos h]
  by_cases e : getS x.attrs w = v
  ·exact .inr (.inl ⟨decide_eq_true h, e, by rw [e]⟩)
  ·exact .inr (.inr ⟨decide_eq_true h, e, fun h' => e (Option.some.inj h')⟩)
 ·rw [if_neg h]
  exact .inl ⟨decide_eq_false h, trivial, fun h' => by cases h'⟩
theorem f49_ok (f : ForM) (hs : SmallN f.nodes) (hr : rightF f = true) (c : Int) (hc : thereN f.nodes c = true) (v : ByteArray) : FnOK Tryz.prog 49 [] [eFor f, eInt c, eStr v] [] (eBool (foremost f.nodes c v)) := by
 have h60 := hs.len
 have h47 : ∀ (k : Nat) (y : NodeM), f.nodes[k]? = some y → _ := fun k y hy => f47_ok y.attrs (by have := hs.attrs y (List.mem_of_getElem? hy); omega) idW
 have h40 : ∀ k : Nat, k < f.nodes.length → FnOK Tryz.prog 40 [] [eFor f, eInt k, eInt c] [] (eBool (aheadN f.nodes (k : Int) c)) := fun k hk => by
  have := f40_ok f hs (k : Int) c
  unfold aheadF at this
  rwa [hr, hc, there_get (List.getElem?_eq_getElem hk)] at this
 have hall : (∀ j : Nat, j < f.nodes.length → (decide (attV (nd f.nodes (j : Int)) idW = some v) && aheadN f.nodes (j : Int) c) = false) → foremost f.nodes c v = true := fun h => by
  unfold foremost
  exact List.all_eq_true.2 fun j hj => by rw [h j (List.mem_range.1 hj)]; rfl
 have hbad : ∀ j : Nat, j < f.nodes.length → (decide (attV (nd f.nodes (j : Int)) idW = some v) && aheadN f.nodes (j : Int) c) = true → foremost f.nodes c v = false := fun j hj h => by
  unfold foremost
  rw [Bool.eq_false_iff]
  intro h'
  have := List.all_eq_true.1 h' j (List.mem_range.2 hj)
  rw [h] at this; cases this
 have hlm : (f.nodes.map oNode).length = f.nodes.length := List.length_map ..
 obtain ⟨l, m⟩ := f
 simp only at h60 hlm h47 hall hbad
 change ∀ k : Nat, k < l.length → FnOK Tryz.prog 40 [] [eFor ⟨l, m⟩, eInt k, eInt c] [] (eBool (aheadN l (k : Int) c)) at h40
 change FnOK Tryz.prog 49 [] [eFor ⟨l, m⟩, eInt c, eStr v] [] (eBool (foremost l c v))
 generalize foremost l c v = fm at *
 refine FnOK.startC (rvs := [.tmp 6]) G G_good Tryz.func49 rfl Tryz.ntmps49 rfl rfl ?_; with_reducible refine wD ?_
 repeat' (first
  | refine gK ?_ | refine aE ?_ ?_
  | (((with_reducible show DrawK _ _ _ _); refine dK ?_) <;> with_reducible refine wK ?_)
  | apply trivial)
 refine LoopK.use G G_good (fun (k : Nat) => [(1, eInt c), (2, eStr v), (3, .ptr 30 0 0), (7, eInt k)])
  (fun _ => [(30, .live 2 [eFor ⟨l, m⟩] false)])
  (fun k => k ≤ l.length ∧ ∀ j : Nat, j < k → (decide (attV (nd l (j : Int)) idW = some v) && aheadN l (j : Int) c) = false) (fun k => l.length - k) 0 ⟨Nat.zero_le _, fun j hj => by omega⟩ ?_ ?_
 ·(refine fK ?_; (with_reducible repeat' (first | exact trivial | (show _ ∧ _; refine aK ?_ ?_))); (all_goals try rfl))
  all_goals first | exact ⟨.refl rfl, rfl⟩
 rintro k ⟨hk, hno⟩
 with_reducible refine wK ?_
 refine IfK.mk (fun h1 => ?_) (fun h1 => ?_) <;> (try simp only [castN] at h1) <;> with_reducible refine wK ?_
 ·have hkl : k < l.length := by simp only [hlm, decide_eq_true_eq, castN] at h1; omega
  obtain ⟨y, hy⟩ : ∃ y, l[k]? = some y := ⟨_, List.getElem?_eq_getElem hkl⟩
  have hny := nd_at hy
  have h47k := h47 k y hy
  have h40k := h40 k hkl
  have hbk := hbad k hkl
  have hnext : (decide (attV (nd l (k : Int)) idW = some v) && aheadN l (k : Int) c) = false → ∀ j : Nat, j < k + 1 → (decide (attV (nd l (j : Int)) idW = some v) && aheadN l (j : Int) c) = false := fun h j hj => by
   by_cases e : j = k
   ·rw [e]; exact h
   ·exact hno j (by omega)
  rw [hny] at hbk hnext
  have h3 := att3 y idW v
  obtain ⟨y1, y2, y3, y4, y5, y6, y7, y8, y9, y10⟩ := y
  simp only at h47k h3
  generalize attV ⟨y1, y2, y3, y4, y5, y6, y7, y8, y9, y10⟩ idW = at' at *
  generalize getS y5 idW = g at *
  generalize decide (0 ≤ findP y5 idW) = bk at *
  generalize aheadN l (k : Int) c = q at *
  rcases h3 with ⟨e1, _, e3⟩ | ⟨e1, e2, e3⟩ | ⟨e1, e2, e3⟩
  ·subst e1
   have hx := hnext (by rw [decide_eq_false e3]; rfl)
   repeat' (first
  | refine gK ?_ | refine aE ?_ ?_
  | ((first
   | (refine IdxK.mk k (eNode ⟨y1, y2, y3, y4, y5, y6, y7, y8, y9, y10⟩) rfl (node_get hy) ?_)
   | ((with_reducible refine kQ 47 ?_); refine cL h47k c47 ?_)) <;> with_reducible refine wK ?_)
  | apply trivial)
   refine NextK.mk (k + 1) ⟨by omega, hx⟩ (by omega) ?_
   (refine fK ?_; (with_reducible repeat' (first | exact trivial | (show _ ∧ _; refine aK ?_ ?_))); (all_goals try rfl))
   all_goals first | exact ⟨.refl rfl, rfl⟩ | (simp; done)
  ·subst e1
   cases q with
   | false =>
     have hx := hnext (by rw [Bool.and_false])
     (have fct := e2; (repeat' (first
  | refine gF ?_ | refine aE ?_ ?_
  | ((first
   | (refine IdxK.mk k (eNode ⟨y1, y2, y3, y4, y5, y6, y7, y8, y9, y10⟩) rfl (node_get hy) ?_)
   | ((with_reducible refine kQ 47 ?_); refine cL h47k c47 ?_)
   | ((with_reducible refine kQ 40 ?_); refine cL h40k c40 ?_)) <;> with_reducible refine wK ?_)
  | apply trivial)); all_goals clear fct)
     refine NextK.mk (k + 1) ⟨by omega, hx⟩ (by omega) ?_
     (refine fK ?_; (with_reducible repeat' (first | exact trivial | (show _ ∧ _; refine aK ?_ ?_))); (all_goals try rfl))
     all_goals first | exact ⟨.refl rfl, rfl⟩ | (simp; done)
   | true =>
     have hx := hbk (by rw [decide_eq_true e3]; rfl)
     subst hx
     (have fct := e2; (repeat' (first
  | refine gF ?_ | refine aE ?_ ?_
  | ((first
   | (refine IdxK.mk k (eNode ⟨y1, y2, y3, y4, y5, y6, y7, y8, y9, y10⟩) rfl (node_get hy) ?_)
   | ((with_reducible refine kQ 47 ?_); refine cL h47k c47 ?_)
   | ((with_reducible refine kQ 40 ?_); refine cL h40k c40 ?_)) <;> with_reducible refine wK ?_)
  | apply trivial)); all_goals clear fct)
     all_goals first | rfl
  ·subst e1
   have hx := hnext (by rw [decide_eq_false e3]; rfl)
   (have fct := (eq_false e2); (repeat' (first
  | refine gF ?_ | refine aE ?_ ?_
  | ((first
   | (refine IdxK.mk k (eNode ⟨y1, y2, y3, y4, y5, y6, y7, y8, y9, y10⟩) rfl (node_get hy) ?_)
   | ((with_reducible refine kQ 47 ?_); refine cL h47k c47 ?_)) <;> with_reducible refine wK ?_)
  | apply trivial)); all_goals clear fct)
   refine NextK.mk (k + 1) ⟨by omega, hx⟩ (by omega) ?_
   (refine fK ?_; (with_reducible repeat' (first | exact trivial | (show _ ∧ _; refine aK ?_ ?_))); (all_goals try rfl))
   all_goals first | exact ⟨.refl rfl, rfl⟩ | (simp; done)
 ·have hjl : k = l.length := by simp only [hlm, decide_eq_false_iff_not, castN] at h1; omega
  subst hjl
  have hx := hall hno
  subst hx
  repeat' (first
  | refine gK ?_ | refine aE ?_ ?_
  | (((with_reducible show DrawK _ _ _ _); refine dK ?_) <;> with_reducible refine wK ?_)
  | apply trivial)
  all_goals first | rfl
@[reducible] def nilW : ByteArray := ⟨⟨[]⟩⟩
theorem f9_ok (f : ForM) (a : Int) (ha : 0 ≤ a ∧ a < 256) : FnOK Tryz.prog 9 [] [eFor f, .lit (.int .u8 a)] [] (eBool true) := by
 have h41 := f41_ok
 have h13 := f13_ok f
 cases b1 : shortF f with
 | false =>
   rw [b1] at h13
   obtain ⟨l, m⟩ := f
   refine FnOK.startC (rvs := [.tmp 4]) G G_good Tryz.func9 rfl Tryz.ntmps9 rfl rfl ?_; with_reducible refine wD ?_
   repeat' (first
  | refine gK ?_ | refine aE ?_ ?_
  | ((first
   | ((with_reducible refine kQ 41 ?_); refine cL h41 c41 ?_)
   | ((with_reducible refine kQ 13 ?_); refine cL h13 c13 ?_)) <;> with_reducible refine wK ?_)
  | apply trivial)
   all_goals rfl
 | true =>
 have hs := shortF_iff.1 b1
 have h15 := f15_ok f hs
 rw [b1] at h13
 cases b2 : rightF f with
 | false =>
   rw [b2] at h15
   obtain ⟨l, m⟩ := f
   refine FnOK.startC (rvs := [.tmp 4]) G G_good Tryz.func9 rfl Tryz.ntmps9 rfl rfl ?_; with_reducible refine wD ?_
   repeat' (first
  | refine gK ?_ | refine aE ?_ ?_
  | ((first
   | ((with_reducible refine kQ 41 ?_); refine cL h41 c41 ?_)
   | ((with_reducible refine kQ 13 ?_); refine cL h13 c13 ?_)
   | ((with_reducible refine kQ 15 ?_); refine cL h15 c15 ?_)) <;> with_reducible refine wK ?_)
  | apply trivial)
   all_goals rfl
 | true =>
 have T := tree_of b2
 rw [b2] at h15
 have h60 := hs.len
 obtain ⟨n, x, hn, hnl, hx, htn, hnx, hpos⟩ := node_of b2 a
 have h21 := f21_ok f hs (n : Int)
 have h38 := f38_ok f hs (n : Int)
 unfold ownF at h38
 rw [htn, b2, if_pos (by rfl)] at h38
 have h47n := f47_ok x.attrs (by have := hs.attrs x (List.mem_of_getElem? hx); omega) formW
 have h47 : ∀ (k : Nat) (y : NodeM), f.nodes[k]? = some y → _ := fun k y hy => f47_ok y.attrs (by have := hs.attrs y (List.mem_of_getElem? hy); omega) idW
 have h48 : ∀ k : Nat, k < f.nodes.length → FnOK Tryz.prog 48 [] [eFor f, eInt k] [] (eInt (rootN f.nodes (k : Int))) := fun k hk => f48_ok f hs b2 (k : Int) (there_get (List.getElem?_eq_getElem hk))
 have h48n := f48_ok f hs b2 (n : Int) htn
 have h49 : ∀ k : Nat, k < f.nodes.length → FnOK Tryz.prog 49 [] [eFor f, eInt k, eStr (getS x.attrs formW)] [] (eBool (foremost f.nodes (k : Int) (getS x.attrs formW))) := fun k hk => f49_ok f hs b2 (k : Int) (there_get (List.getElem?_eq_getElem hk)) _
 have h40 : ∀ k : Nat, k < f.nodes.length → FnOK Tryz.prog 40 [] [eFor f, eInt k, eInt (ownN f.nodes (n : Int))] [] (eBool (thereN f.nodes (ownN f.nodes (n : Int)) && aheadN f.nodes (k : Int) (ownN f.nodes (n : Int)))) := fun k hk => by
  have := f40_ok f hs (k : Int) (ownN f.nodes (n : Int))
  unfold aheadF at this
  rwa [b2, there_get (List.getElem?_eq_getElem hk), Bool.true_and, Bool.true_and] at this
 have hlaw : decide (0 ≤ findP x.attrs formW) = true → conF f n = true → _ := fun q1 q2 => named_law T htn (n := (n : Int)) (v := getS x.attrs formW) (by
  rw [hnx]; unfold attV; rw [if_pos (of_decide_eq_true q1)]) (by obtain ⟨l, m⟩ := f; rwa [conF_eq b2 htn] at q2)
 have hget : ∀ c, thereN f.nodes c = true → ∃ (j : Nat) (y : NodeM), c = (j : Int) ∧ f.nodes[j]? = some y ∧ nd f.nodes c = y := fun c hc => by
  obtain ⟨j, y, e, hy, hny⟩ := there_iff.1 hc
  exact ⟨j, y, e, hy, hny⟩
 have hlm : (f.nodes.map oNode).length = f.nodes.length := List.length_map ..
 obtain ⟨l, m⟩ := f
 simp only at hlm hnl hx hpos h60 hnx h47
 generalize conF ⟨l, m⟩ n = cn at *
 generalize getS x.attrs formW = v at *
 generalize decide (0 ≤ findP x.attrs formW) = hv at *
 obtain ⟨a1, a2, a3, a4, a5, a6, a7, a8, a9, a10⟩ := x
 have hwa : IntKind.i64.wrap a = a := wrap_u8 ha
 have hln : (0 : Int) < ((l.map oNode).length : Int) := by rw [hlm]; omega
 have hk' : a % ((l.map oNode).length : Int) = n := by rw [hlm]; exact hn
 refine FnOK.startC (rvs := [.tmp 4]) G G_good Tryz.func9 rfl Tryz.ntmps9 rfl rfl ?_; with_reducible refine wD ?_
 repeat' (first
  | refine gK ?_ | refine aE ?_ ?_
  | ((first
   | ((with_reducible refine kQ 41 ?_); refine cL h41 c41 ?_)
   | ((with_reducible refine kQ 13 ?_); refine cL h13 c13 ?_)
   | ((with_reducible refine kQ 15 ?_); refine cL h15 c15 ?_)) <;> with_reducible refine wK ?_)
  | apply trivial)
 refine ConvK.int (by kernel_rfl) (by kernel_rfl) hwa ?_; with_reducible refine wK ?_
 repeat' (first
  | refine gK ?_ | refine aE ?_ ?_
  | apply trivial)
 refine HandK.rem ha.1 hln rfl rfl rfl rfl ?_; with_reducible refine wK ?_
 rw [hk']
 repeat' (first
  | refine gK ?_ | refine aE ?_ ?_
  | ((first
   | (refine IdxK.mk n (eNode _) rfl (node_get hx) ?_)
   | ((with_reducible refine kQ 47 ?_); refine cL h47n c47 ?_)) <;> with_reducible refine wK ?_)
  | apply trivial)
 cases hv with
 | false =>
   repeat' (first
  | refine gK ?_ | refine aE ?_ ?_
  | (((with_reducible show DrawK _ _ _ _); refine dK ?_) <;> with_reducible refine wK ?_)
  | apply trivial)
   all_goals first | rfl
 | true =>
 cases cn with
 | false =>
   repeat' (first
  | refine gK ?_ | refine aE ?_ ?_
  | (((with_reducible refine kQ 21 ?_); refine cL h21 c21 ?_) <;> with_reducible refine wK ?_)
  | apply trivial)
   all_goals first | rfl
 | true =>
 obtain ⟨L1, L2⟩ := hlaw rfl rfl
 change ownN l n ≠ -1 → thereN l (ownN l n) = true ∧ attV (nd l (ownN l n)) idW = some v ∧ v ≠ nilW ∧ (nd l (ownN l n)).name = formW ∧ rootN l (ownN l n) = rootN l n at L1
 change ∀ k, thereN l k = true → attV (nd l k) idW = some v → v ≠ nilW → rootN l k = rootN l n → (ownN l n ≠ -1 → aheadN l k (ownN l n) = false) ∧ (ownN l n = -1 → (nd l k).name = formW → foremost l k v = false) at L2
 change FnOK Tryz.prog 38 [] [eFor ⟨l, m⟩, eInt n] [] (eInt (ownN l n)) at h38
 change FnOK Tryz.prog 48 [] [eFor ⟨l, m⟩, eInt n] [] (eInt (rootN l n)) at h48n
 change ∀ k : Nat, k < l.length → FnOK Tryz.prog 48 [] [eFor ⟨l, m⟩, eInt k] [] (eInt (rootN l (k : Int))) at h48
 change ∀ k : Nat, k < l.length → FnOK Tryz.prog 49 [] [eFor ⟨l, m⟩, eInt k, eStr v] [] (eBool (foremost l (k : Int) v)) at h49
 change ∀ k : Nat, k < l.length → FnOK Tryz.prog 40 [] [eFor ⟨l, m⟩, eInt k, eInt (ownN l n)] [] (eBool (thereN l (ownN l n) && aheadN l (k : Int) (ownN l n))) at h40
 generalize ownN l n = o at *
 generalize hrn : rootN l n = rn at *
 by_cases ho : o = -1
 ·subst ho
  clear L1
  repeat' (first
  | refine gK ?_ | refine aE ?_ ?_
  | ((first
   | ((with_reducible refine kQ 21 ?_); refine cL h21 c21 ?_)
   | ((with_reducible refine kQ 38 ?_); refine cL h38 c38 ?_)
   | ((with_reducible show DrawK _ _ _ _); refine dK ?_)) <;> with_reducible refine wK ?_)
  | apply trivial)
  refine LoopK.use G G_good (fun (k : Nat) => [(2, .ptr 20 0 0), (5, eInt n), (6, eStr v), (8, eInt (-1)), (11, eInt k)])
   (fun _ => [(20, .live 2 [eFor ⟨l, m⟩] false)])
   (fun k => k ≤ l.length) (fun k => l.length - k) 0 (Nat.zero_le _) ?_ ?_
  ·(refine fK ?_; (with_reducible repeat' (first | exact trivial | (show _ ∧ _; refine aK ?_ ?_))); (all_goals try rfl))
   all_goals first | exact ⟨.refl rfl, rfl⟩
  intro k hk
  with_reducible refine wK ?_
  refine IfK.mk (fun h1 => ?_) (fun h1 => ?_) <;> (try simp only [castN] at h1) <;> with_reducible refine wK ?_
  ·have hkl : k < l.length := by simp only [hlm, decide_eq_true_eq, castN] at h1; omega
   obtain ⟨y, hy⟩ : ∃ y, l[k]? = some y := ⟨_, List.getElem?_eq_getElem hkl⟩
   have hny := nd_at hy
   have hty := there_get hy
   have h47k := h47 k y hy
   have h48k := h48 k hkl
   have h49k := h49 k hkl
   have h40k := h40 k hkl
   have hL := L2 (k : Int) hty
   rw [hny] at hL
   have h3 := att3 y idW v
   obtain ⟨y1, y2, y3, y4, y5, y6, y7, y8, y9, y10⟩ := y
   simp only at h47k h3 hL
   generalize attV ⟨y1, y2, y3, y4, y5, y6, y7, y8, y9, y10⟩ idW = at' at *
   generalize getS y5 idW = g at *
   generalize decide (0 ≤ findP y5 idW) = bk at *
   generalize foremost l (k : Int) v = fk at *
   generalize rootN l (k : Int) = rk at *
   have hD : (bk = false ∧ True) ∨ (bk = true ∧ (g = v) = False) ∨ (bk = true ∧ g = v ∧ v = nilW) ∨ (bk = true ∧ g = v ∧ (v = nilW) = False ∧ (rk = rn) = False) ∨ (bk = true ∧ g = v ∧ (v = nilW) = False ∧ rk = rn ∧ True) := by
    rcases h3 with ⟨e1, _, _⟩ | ⟨e1, e2, _⟩ | ⟨e1, e2, _⟩
    ·exact .inl ⟨e1, trivial⟩
    ·by_cases q1 : v = nilW
     ·exact .inr (.inr (.inl ⟨e1, e2, q1⟩))
     ·by_cases q2 : rk = rn
      ·exact .inr (.inr (.inr (.inr ⟨e1, e2, eq_false q1, q2, trivial⟩)))
      ·exact .inr (.inr (.inr (.inl ⟨e1, e2, eq_false q1, eq_false q2⟩)))
    ·exact .inr (.inl ⟨e1, eq_false e2⟩)
   rcases hD with hD | hD | hD | hD | hD
   ·
    (have fct := hD; (repeat' (first
  | refine gF ?_ | refine aE ?_ ?_
  | ((first
   | (refine IdxK.mk k (eNode ⟨y1, y2, y3, y4, y5, y6, y7, y8, y9, y10⟩) rfl (node_get hy) ?_)
   | ((with_reducible refine kQ 47 ?_); refine cL h47k c47 ?_)
   | ((with_reducible refine kQ 48 ?_); first | refine cL h48k c48 ?_ | refine cL h48n c48 ?_)
   | ((with_reducible refine kQ 40 ?_); refine cL h40k c40 ?_)
   | ((with_reducible refine kQ 49 ?_); refine cL h49k c49 ?_)
   | ((with_reducible show DrawK _ _ _ _); refine dK ?_)) <;> with_reducible refine wK ?_)
  | apply trivial)); all_goals clear fct)
    refine NextK.mk (k + 1) (by omega) (by omega) ?_
    (refine fK ?_; (with_reducible repeat' (first | exact trivial | (show _ ∧ _; refine aK ?_ ?_))); (all_goals try rfl))
    all_goals first | exact ⟨.refl rfl, rfl⟩ | (simp; done)
   ·
    (have fct := hD; (repeat' (first
  | refine gF ?_ | refine aE ?_ ?_
  | ((first
   | (refine IdxK.mk k (eNode ⟨y1, y2, y3, y4, y5, y6, y7, y8, y9, y10⟩) rfl (node_get hy) ?_)
   | ((with_reducible refine kQ 47 ?_); refine cL h47k c47 ?_)
   | ((with_reducible refine kQ 48 ?_); first | refine cL h48k c48 ?_ | refine cL h48n c48 ?_)
   | ((with_reducible refine kQ 40 ?_); refine cL h40k c40 ?_)
   | ((with_reducible refine kQ 49 ?_); refine cL h49k c49 ?_)
   | ((with_reducible show DrawK _ _ _ _); refine dK ?_)) <;> with_reducible refine wK ?_)
  | apply trivial)); all_goals clear fct)
    refine NextK.mk (k + 1) (by omega) (by omega) ?_
    (refine fK ?_; (with_reducible repeat' (first | exact trivial | (show _ ∧ _; refine aK ?_ ?_))); (all_goals try rfl))
    all_goals first | exact ⟨.refl rfl, rfl⟩ | (simp; done)
   ·
    (have fct := hD; (repeat' (first
  | refine gF ?_ | refine aE ?_ ?_
  | ((first
   | (refine IdxK.mk k (eNode ⟨y1, y2, y3, y4, y5, y6, y7, y8, y9, y10⟩) rfl (node_get hy) ?_)
   | ((with_reducible refine kQ 47 ?_); refine cL h47k c47 ?_)
   | ((with_reducible refine kQ 48 ?_); first | refine cL h48k c48 ?_ | refine cL h48n c48 ?_)
   | ((with_reducible refine kQ 40 ?_); refine cL h40k c40 ?_)
   | ((with_reducible refine kQ 49 ?_); refine cL h49k c49 ?_)
   | ((with_reducible show DrawK _ _ _ _); refine dK ?_)) <;> with_reducible refine wK ?_)
  | apply trivial)); all_goals clear fct)
    refine NextK.mk (k + 1) (by omega) (by omega) ?_
    (refine fK ?_; (with_reducible repeat' (first | exact trivial | (show _ ∧ _; refine aK ?_ ?_))); (all_goals try rfl))
    all_goals first | exact ⟨.refl rfl, rfl⟩ | (simp; done)
   ·
    (have fct := hD; (repeat' (first
  | refine gF ?_ | refine aE ?_ ?_
  | ((first
   | (refine IdxK.mk k (eNode ⟨y1, y2, y3, y4, y5, y6, y7, y8, y9, y10⟩) rfl (node_get hy) ?_)
   | ((with_reducible refine kQ 47 ?_); refine cL h47k c47 ?_)
   | ((with_reducible refine kQ 48 ?_); first | refine cL h48k c48 ?_ | refine cL h48n c48 ?_)
   | ((with_reducible refine kQ 40 ?_); refine cL h40k c40 ?_)
   | ((with_reducible refine kQ 49 ?_); refine cL h49k c49 ?_)
   | ((with_reducible show DrawK _ _ _ _); refine dK ?_)) <;> with_reducible refine wK ?_)
  | apply trivial)); all_goals clear fct)
    refine NextK.mk (k + 1) (by omega) (by omega) ?_
    (refine fK ?_; (with_reducible repeat' (first | exact trivial | (show _ ∧ _; refine aK ?_ ?_))); (all_goals try rfl))
    all_goals first | exact ⟨.refl rfl, rfl⟩ | (simp; done)
   ·obtain ⟨q1, q2, q3, q4, _⟩ := hD
    by_cases q5 : y2 = formW
    ·have q6 : fk = false := by
      rcases h3 with ⟨e1, _, _⟩ | ⟨_, _, e3⟩ | ⟨_, e2, _⟩
      ·rw [q1] at e1; cases e1
      ·have w2 := (hL e3 (fun e => by rw [e] at q3; simp at q3) q4).2
       first | exact w2 rfl q5 | exact w2 q5 | (simp only [q5] at w2; exact w2) | (simpa [q5] using w2)
      ·exact absurd q2 e2
     subst q6
     (have fct := And.intro q1 (And.intro q2 (And.intro q3 (And.intro q4 (q5)))); (repeat' (first
  | refine gF ?_ | refine aE ?_ ?_
  | ((first
   | (refine IdxK.mk k (eNode ⟨y1, y2, y3, y4, y5, y6, y7, y8, y9, y10⟩) rfl (node_get hy) ?_)
   | ((with_reducible refine kQ 47 ?_); refine cL h47k c47 ?_)
   | ((with_reducible refine kQ 48 ?_); first | refine cL h48k c48 ?_ | refine cL h48n c48 ?_)
   | ((with_reducible refine kQ 40 ?_); refine cL h40k c40 ?_)
   | ((with_reducible refine kQ 49 ?_); refine cL h49k c49 ?_)
   | ((with_reducible show DrawK _ _ _ _); refine dK ?_)) <;> with_reducible refine wK ?_)
  | apply trivial)); all_goals clear fct)
     refine NextK.mk (k + 1) (by omega) (by omega) ?_
     (refine fK ?_; (with_reducible repeat' (first | exact trivial | (show _ ∧ _; refine aK ?_ ?_))); (all_goals try rfl))
     all_goals first | exact ⟨.refl rfl, rfl⟩ | (simp; done)
    ·
     (have fct := And.intro q1 (And.intro q2 (And.intro q3 (And.intro q4 ((eq_false q5))))); (repeat' (first
  | refine gF ?_ | refine aE ?_ ?_
  | ((first
   | (refine IdxK.mk k (eNode ⟨y1, y2, y3, y4, y5, y6, y7, y8, y9, y10⟩) rfl (node_get hy) ?_)
   | ((with_reducible refine kQ 47 ?_); refine cL h47k c47 ?_)
   | ((with_reducible refine kQ 48 ?_); first | refine cL h48k c48 ?_ | refine cL h48n c48 ?_)
   | ((with_reducible refine kQ 40 ?_); refine cL h40k c40 ?_)
   | ((with_reducible refine kQ 49 ?_); refine cL h49k c49 ?_)
   | ((with_reducible show DrawK _ _ _ _); refine dK ?_)) <;> with_reducible refine wK ?_)
  | apply trivial)); all_goals clear fct)
     refine NextK.mk (k + 1) (by omega) (by omega) ?_
     (refine fK ?_; (with_reducible repeat' (first | exact trivial | (show _ ∧ _; refine aK ?_ ?_))); (all_goals try rfl))
     all_goals first | exact ⟨.refl rfl, rfl⟩ | (simp; done)
  ·have hjl : k = l.length := by simp only [hlm, decide_eq_false_iff_not, castN] at h1; omega
   subst hjl
   repeat' (first
  | refine gK ?_ | refine aE ?_ ?_
  | (((with_reducible show DrawK _ _ _ _); refine dK ?_) <;> with_reducible refine wK ?_)
  | apply trivial)
   all_goals first | rfl
 ·obtain ⟨p1, p2, p3, p4, p5⟩ := L1 ho
  obtain ⟨j, z, hj, hz, hnz⟩ := hget o p1
  change nd l o = z at hnz
  subst hj
  have hjl := (List.getElem?_eq_some_iff.1 hz).1
  have h47z := h47 j z hz
  have h48z := h48 j hjl
  rw [p5] at h48z
  rw [hnz] at p2 p4
  have h3z := att3 z idW v
  obtain ⟨z1, z2, z3, z4, z5, z6, z7, z8, z9, z10⟩ := z
  simp only at h47z h3z p4
  have hq : decide (0 ≤ findP z5 idW) = true ∧ getS z5 idW = v := by
   rcases h3z with ⟨_, _, e3⟩ | ⟨e1, e2, _⟩ | ⟨_, _, e3⟩
   ·exact absurd p2 e3
   ·exact ⟨e1, e2⟩
   ·exact absurd p2 e3
  rw [hq.1, hq.2] at h47z
  clear h3z hq
  have hj0 : ¬ (j : Int) = -1 := by omega
  have p3' := eq_false p3
  (have fct := And.intro (eq_false ho) (And.intro p3' (p4)); (repeat' (first
  | refine gF ?_ | refine aE ?_ ?_
  | ((first
   | (refine IdxK.mk j (eNode ⟨z1, z2, z3, z4, z5, z6, z7, z8, z9, z10⟩) rfl (node_get hz) ?_)
   | ((with_reducible refine kQ 21 ?_); refine cL h21 c21 ?_)
   | ((with_reducible refine kQ 38 ?_); refine cL h38 c38 ?_)
   | ((with_reducible refine kQ 47 ?_); refine cL h47z c47 ?_)
   | ((with_reducible refine kQ 48 ?_); first | refine cL h48z c48 ?_ | refine cL h48n c48 ?_)
   | ((with_reducible show DrawK _ _ _ _); refine dK ?_)) <;> with_reducible refine wK ?_)
  | apply trivial)); all_goals clear fct)
  refine LoopK.use G G_good (fun (k : Nat) => [(2, .ptr 20 0 0), (5, eInt n), (6, eStr v), (8, eInt j), (11, eInt k)])
   (fun _ => [(20, .live 2 [eFor ⟨l, m⟩] false)])
   (fun k => k ≤ l.length) (fun k => l.length - k) 0 (Nat.zero_le _) ?_ ?_
  ·(refine fK ?_; (with_reducible repeat' (first | exact trivial | (show _ ∧ _; refine aK ?_ ?_))); (all_goals try rfl))
   all_goals first | exact ⟨.refl rfl, rfl⟩
  intro k hk
  with_reducible refine wK ?_
  refine IfK.mk (fun h1 => ?_) (fun h1 => ?_) <;> (try simp only [castN] at h1) <;> with_reducible refine wK ?_
  ·have hkl : k < l.length := by simp only [hlm, decide_eq_true_eq, castN] at h1; omega
   obtain ⟨y, hy⟩ : ∃ y, l[k]? = some y := ⟨_, List.getElem?_eq_getElem hkl⟩
   have hny := nd_at hy
   have hty := there_get hy
   have h47k := h47 k y hy
   have h48k := h48 k hkl
   have h49k := h49 k hkl
   have h40k := h40 k hkl
   have hL := L2 (k : Int) hty
   rw [hny] at hL
   have h3 := att3 y idW v
   obtain ⟨y1, y2, y3, y4, y5, y6, y7, y8, y9, y10⟩ := y
   simp only at h47k h3 hL
   generalize attV ⟨y1, y2, y3, y4, y5, y6, y7, y8, y9, y10⟩ idW = at' at *
   generalize getS y5 idW = g at *
   generalize decide (0 ≤ findP y5 idW) = bk at *
   generalize foremost l (k : Int) v = fk at *
   generalize rootN l (k : Int) = rk at *
   have hD : (bk = false ∧ True) ∨ (bk = true ∧ (g = v) = False) ∨ (bk = true ∧ g = v ∧ v = nilW) ∨ (bk = true ∧ g = v ∧ (v = nilW) = False ∧ (rk = rn) = False) ∨ (bk = true ∧ g = v ∧ (v = nilW) = False ∧ rk = rn ∧ True) := by
    rcases h3 with ⟨e1, _, _⟩ | ⟨e1, e2, _⟩ | ⟨e1, e2, _⟩
    ·exact .inl ⟨e1, trivial⟩
    ·by_cases q1 : v = nilW
     ·exact .inr (.inr (.inl ⟨e1, e2, q1⟩))
     ·by_cases q2 : rk = rn
      ·exact .inr (.inr (.inr (.inr ⟨e1, e2, eq_false q1, q2, trivial⟩)))
      ·exact .inr (.inr (.inr (.inl ⟨e1, e2, eq_false q1, eq_false q2⟩)))
    ·exact .inr (.inl ⟨e1, eq_false e2⟩)
   rw [p1, Bool.true_and] at h40k
   generalize aheadN l (k : Int) (j : Int) = ak at *
   rcases hD with hD | hD | hD | hD | hD
   ·
    (have fct := hD; (repeat' (first
  | refine gF ?_ | refine aE ?_ ?_
  | ((first
   | (refine IdxK.mk k (eNode ⟨y1, y2, y3, y4, y5, y6, y7, y8, y9, y10⟩) rfl (node_get hy) ?_)
   | ((with_reducible refine kQ 47 ?_); refine cL h47k c47 ?_)
   | ((with_reducible refine kQ 48 ?_); first | refine cL h48k c48 ?_ | refine cL h48n c48 ?_)
   | ((with_reducible refine kQ 40 ?_); refine cL h40k c40 ?_)
   | ((with_reducible refine kQ 49 ?_); refine cL h49k c49 ?_)
   | ((with_reducible show DrawK _ _ _ _); refine dK ?_)) <;> with_reducible refine wK ?_)
  | apply trivial)); all_goals clear fct)
    refine NextK.mk (k + 1) (by omega) (by omega) ?_
    (refine fK ?_; (with_reducible repeat' (first | exact trivial | (show _ ∧ _; refine aK ?_ ?_))); (all_goals try rfl))
    all_goals first | exact ⟨.refl rfl, rfl⟩ | (simp; done)
   ·
    (have fct := hD; (repeat' (first
  | refine gF ?_ | refine aE ?_ ?_
  | ((first
   | (refine IdxK.mk k (eNode ⟨y1, y2, y3, y4, y5, y6, y7, y8, y9, y10⟩) rfl (node_get hy) ?_)
   | ((with_reducible refine kQ 47 ?_); refine cL h47k c47 ?_)
   | ((with_reducible refine kQ 48 ?_); first | refine cL h48k c48 ?_ | refine cL h48n c48 ?_)
   | ((with_reducible refine kQ 40 ?_); refine cL h40k c40 ?_)
   | ((with_reducible refine kQ 49 ?_); refine cL h49k c49 ?_)
   | ((with_reducible show DrawK _ _ _ _); refine dK ?_)) <;> with_reducible refine wK ?_)
  | apply trivial)); all_goals clear fct)
    refine NextK.mk (k + 1) (by omega) (by omega) ?_
    (refine fK ?_; (with_reducible repeat' (first | exact trivial | (show _ ∧ _; refine aK ?_ ?_))); (all_goals try rfl))
    all_goals first | exact ⟨.refl rfl, rfl⟩ | (simp; done)
   ·
    (have fct := hD; (repeat' (first
  | refine gF ?_ | refine aE ?_ ?_
  | ((first
   | (refine IdxK.mk k (eNode ⟨y1, y2, y3, y4, y5, y6, y7, y8, y9, y10⟩) rfl (node_get hy) ?_)
   | ((with_reducible refine kQ 47 ?_); refine cL h47k c47 ?_)
   | ((with_reducible refine kQ 48 ?_); first | refine cL h48k c48 ?_ | refine cL h48n c48 ?_)
   | ((with_reducible refine kQ 40 ?_); refine cL h40k c40 ?_)
   | ((with_reducible refine kQ 49 ?_); refine cL h49k c49 ?_)
   | ((with_reducible show DrawK _ _ _ _); refine dK ?_)) <;> with_reducible refine wK ?_)
  | apply trivial)); all_goals clear fct)
    refine NextK.mk (k + 1) (by omega) (by omega) ?_
    (refine fK ?_; (with_reducible repeat' (first | exact trivial | (show _ ∧ _; refine aK ?_ ?_))); (all_goals try rfl))
    all_goals first | exact ⟨.refl rfl, rfl⟩ | (simp; done)
   ·
    (have fct := hD; (repeat' (first
  | refine gF ?_ | refine aE ?_ ?_
  | ((first
   | (refine IdxK.mk k (eNode ⟨y1, y2, y3, y4, y5, y6, y7, y8, y9, y10⟩) rfl (node_get hy) ?_)
   | ((with_reducible refine kQ 47 ?_); refine cL h47k c47 ?_)
   | ((with_reducible refine kQ 48 ?_); first | refine cL h48k c48 ?_ | refine cL h48n c48 ?_)
   | ((with_reducible refine kQ 40 ?_); refine cL h40k c40 ?_)
   | ((with_reducible refine kQ 49 ?_); refine cL h49k c49 ?_)
   | ((with_reducible show DrawK _ _ _ _); refine dK ?_)) <;> with_reducible refine wK ?_)
  | apply trivial)); all_goals clear fct)
    refine NextK.mk (k + 1) (by omega) (by omega) ?_
    (refine fK ?_; (with_reducible repeat' (first | exact trivial | (show _ ∧ _; refine aK ?_ ?_))); (all_goals try rfl))
    all_goals first | exact ⟨.refl rfl, rfl⟩ | (simp; done)
   ·obtain ⟨q1, q2, q3, q4, _⟩ := hD
    have q6 : ak = false := by
     rcases h3 with ⟨e1, _, _⟩ | ⟨_, _, e3⟩ | ⟨_, e2, _⟩
     ·rw [q1] at e1; cases e1
     ·exact (hL e3 (fun e => by rw [e] at q3; simp at q3) q4).1 ho
     ·exact absurd q2 e2
    subst q6
    (have fct := And.intro q1 (And.intro q2 (And.intro q3 (And.intro q4 ((eq_false ho))))); (repeat' (first
  | refine gF ?_ | refine aE ?_ ?_
  | ((first
   | (refine IdxK.mk k (eNode ⟨y1, y2, y3, y4, y5, y6, y7, y8, y9, y10⟩) rfl (node_get hy) ?_)
   | ((with_reducible refine kQ 47 ?_); refine cL h47k c47 ?_)
   | ((with_reducible refine kQ 48 ?_); first | refine cL h48k c48 ?_ | refine cL h48n c48 ?_)
   | ((with_reducible refine kQ 40 ?_); refine cL h40k c40 ?_)
   | ((with_reducible refine kQ 49 ?_); refine cL h49k c49 ?_)
   | ((with_reducible show DrawK _ _ _ _); refine dK ?_)) <;> with_reducible refine wK ?_)
  | apply trivial)); all_goals clear fct)
    refine NextK.mk (k + 1) (by omega) (by omega) ?_
    (refine fK ?_; (with_reducible repeat' (first | exact trivial | (show _ ∧ _; refine aK ?_ ?_))); (all_goals try rfl))
    all_goals first | exact ⟨.refl rfl, rfl⟩ | (simp; done)
  ·have hjl : k = l.length := by simp only [hlm, decide_eq_false_iff_not, castN] at h1; omega
   subst hjl
   repeat' (first
  | refine gK ?_ | refine aE ?_ ?_
  | (((with_reducible show DrawK _ _ _ _); refine dK ?_) <;> with_reducible refine wK ?_)
  | apply trivial)
   all_goals first | rfl
theorem rStr : Reads Tryz.prog 9 1 eStr (fun s => s.size ≤ maxLen) := Reads.str Tryz.underlying9 (by kernel_rfl)
theorem rInt : Reads Tryz.prog 3 1 oInt (fun _ => True) := (Reads.int Tryz.underlying3 (by kernel_rfl)).conv id id (fun _ => rfl) (fun _ => rfl) (fun _ _ => trivial)
theorem rAttr : Reads Tryz.prog 130 2 oAttr (fun _ => True) :=
 (Reads.struct (l := [(0, 9), (1, 9)]) Tryz.underlying130 (by kernel_rfl) rfl (.cons rStr (.cons rStr .nil))).conv
  (fun (a, b, _) => ⟨a, b⟩) (fun t => (t.name, t.value, ())) (fun _ => rfl) (fun _ => rfl) (fun _ _ => trivial)
theorem rAttrs1 : Reads Tryz.prog 40 1 eAttrs (fun _ => True) := (Reads.slice Tryz.underlying40 (by kernel_rfl) rAttr (by omega)).conv id id (fun _ => rfl) (fun _ => rfl) (fun _ _ => trivial)
theorem rInts1 : Reads Tryz.prog 32 1 eInts (fun _ => True) := (Reads.slice Tryz.underlying32 (by kernel_rfl) rInt (by omega)).conv id id (fun _ => rfl) (fun _ => rfl) (fun _ _ => trivial)
theorem rNode : Reads Tryz.prog 42 10 oNode (fun _ => True) :=
 (Reads.struct (l := [(0, 3), (1, 9), (2, 9), (3, 9), (4, 40), (5, 3), (6, 32), (7, 3), (8, 3), (9, 3)]) Tryz.underlying42 (by kernel_rfl) rfl
  (.cons rInt (.cons rStr (.cons rStr (.cons rStr (.cons rAttrs1 (.cons rInt (.cons rInts1 (.cons rInt (.cons rInt (.cons rInt .nil))))))))))).conv
  (fun (a, b, c, d, e, f, g, h, i, j, _) => ⟨a, b, c, d, e, f, g, h, i, j⟩)
  (fun t => (t.kind, t.name, t.is, t.data, t.attrs, t.parent, t.kids, t.host, t.under, t.doc, ())) (fun _ => rfl) (fun _ => rfl) (fun _ _ => trivial)
theorem rNodes1 : Reads Tryz.prog 22 1 eNodes (fun _ => True) := (Reads.slice Tryz.underlying22 (by kernel_rfl) rNode (by omega)).conv id id (fun _ => rfl) (fun _ => rfl) (fun _ _ => trivial)
theorem rFor : Reads Tryz.prog 24 2 eFor (fun _ => True) :=
 (Reads.struct (l := [(0, 22), (1, 3)]) Tryz.underlying24 (by kernel_rfl) rfl (.cons rNodes1 (.cons rInt .nil))).conv
  (fun (a, b, _) => ⟨a, b⟩) (fun t => (t.nodes, t.most, ())) (fun _ => rfl) (fun _ => rfl) (fun _ _ => trivial)
theorem laid : Go.laidOutB Tryz.prog = true := by kernel_rfl
abbrev laidRows : List (String × DataW Unit) := [("errors.errorType", Go.Proofs.YtpogpigciaajoaaGreatDoor.Rows.laid_errors_errorType)]
theorem door_met (os : Os) (args : Array Value) : laidMetH Tryz.prog laidRows ((World.doorLaid Tryz.prog 33 os).forCall (fun _ _ => 0) ⟨#[], args, []⟩).memory :=
 laidMetH_of_parts3 (fuel := 8) (laidMet_of_run' 8 (by kernel_rfl) (by kernel_rfl)) (by kernel_rfl) (by kernel_rfl)
theorem tabs_of_laid {W : World} (_ : laidMetH Tryz.prog laidRows W) : Tabs Tryz.prog W fun _ => none := Tabs.absent (by kernel_rfl)
end Go.Proofs.Heir
