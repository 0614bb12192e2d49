/- Models, plain laws and contracts of functions of the given program; conditions as stated in each theorem. By an AI agent. -/
import Derived.Test.YtkhjcnjicjgfiaaGreatDoorW15
import Derived.Test.YtkhjcnjicjgfiaaGreatDoorW13
import Derived.Test.YtkhjcnjicjgfiaaGreatDoorW16
import Derived.Test.YtkhjcnjicjgfiaaGreatDoorW7
import Derived.Test.YtkhjcnjicjgfiaaGreatDoorW5
import Derived.Test.YtkhjcnjicjgfiaaGreatDoorW9
import Derived.Test.YtkhjcnjicjgfiaaGreatDoorW2
import Derived.Test.YtkhjcnjicjgfiaaGreatDoorRows
import Derived.ProofKit
import Derived.LaidMore
import Derived.OpenShut
import Derived.Stop.Joined
import Derived.Lib.LaidTab
import Derived.MakeChecks
set_option linter.unusedSimpArgs false
set_option linter.unusedVariables false
namespace Go.Proofs.Heir
open Go Go.Am Go.RowKit Go.Lib
set_option maxRecDepth 100000
set_option maxHeartbeats 8000000
def keepL (l : List NodeM) (ks : List Int) : Nat → List (Int × List (ByteArray × Int))
  | 0 => []
  | j + 1 => match ks[j]? with
    | some a => stepC l (keepL l ks j) a
    | none => keepL l ks j
theorem keepL_ok (l : List NodeM) (ks : List Int) : ∀ k, k ≤ 64 → IdsOK l (keepL l ks k) ∧ (keepL l ks k).length ≤ k
  | 0, _ => ⟨idsOK_nil l, Nat.le_refl _⟩
  | k + 1, h => by
    obtain ⟨h1, h2⟩ := keepL_ok l ks k (by omega)
    unfold keepL
    cases hk : ks[k]? with
    | none => exact ⟨h1, by show (keepL l ks k).length ≤ _; omega⟩
    | some a =>
      have h3 := stepC_len l (keepL l ks k) a
      exact ⟨⟨stepC_is h1.is _, by show (stepC l (keepL l ks k) a).length ≤ _; omega⟩, by show (stepC l (keepL l ks k) a).length ≤ _; omega⟩
def memV (f : ForM) (x : Int) : List Int := if (thereN f.nodes x && rightF f) = true then memF f.nodes x else []
theorem keptI_mem {l : List NodeM} {x : Int} : keptI (fun a => !decide (ownN l a = x)) (ordN l l.length (rootN l x)) = memN l x := by
  unfold keptI memN
  congr 1
  funext a
  simp
theorem frz_kept {m : ML} {fz : Nat → Bool} {tab : List (Nat × Nat)} {n t k : Nat} {ro : Bool} {rows : List AV} {l r : List Int} (h1 : lkM m t = .live 1 rows ro) (h2 : fz t = true) (h3 : rows = (l ++ r).map oInt) (h4 : k = l.length) : FrzK m fz (MF tab fz m n) (eInts l) t 0 k := by
  subst h3; subst h4
  have e : (l.map oInt).length = l.length := List.length_map ..
  exact .cut h1 h2 (by simp) (by rw [List.drop_zero, List.map_append, List.take_left' e]) (noRef_ints l)
theorem ints_outs (l : List Int) : okOuts [rInts l] := ⟨Wide.of_mem fun r hr => by
  obtain ⟨a, _, rfl⟩ := List.mem_map.1 hr
  rfl, noRef_ints l, trivial⟩
theorem f103_ok (f : ForM) (hs : SmallN f.nodes) (n : Int) : FnOK Tryz.prog 103 [] [eFor f, eInt n] [] (eInts (memV f n)) := by
  have h15 := f17_ok f hs
  have h73 := f104_ok f
  have h48 := f165_ok f hs
  have h78 := f164_own f hs
  have h83 := f166_ok f.nodes f.most hs
  have h60 := hs.len
  obtain ⟨l, m⟩ := f
  simp only at h73 h48 h78 h60 h83
  have hlm : (l.map oNode).length = l.length := List.length_map ..
  obtain ⟨o, ho⟩ : ∃ o, memV ⟨l, m⟩ n = o := ⟨_, rfl⟩
  rw [ho]
  unfold memV at ho
  simp only at ho
  refine FnOK.startS (rvs := [.tmp 4]) G G_good Tryz.func103 rfl Tryz.ntmps103 rfl rfl ?_; with_reducible refine wD ?_
  refine LoopK.fit (sl' := [(2, .fptr (eFor ⟨l, m⟩) 0), (3, .fptr (eInt n) 0), (4, nilA)]) (m' := []) ?_ ?_
  · (refine fK ?_; (with_reducible repeat' (first | exact trivial | (show _ ∧ _; refine aK ?_ ?_))); (all_goals try rfl))
    all_goals first
      | exact ⟨2, [eFor ⟨l, m⟩], false, eFor ⟨l, m⟩, eFor ⟨l, m⟩, rfl, rfl, rfl, rfl, rfl, ⟨rfl, rfl, trivial⟩⟩
      | exact ⟨1, [eInt n], false, eInt n, eInt n, rfl, rfl, rfl, rfl, rfl, rfl⟩
      | exact .inl rfl
      | trace_state
  refine LoopK.run G G_good ?_
  with_reducible refine wK ?_
  cases ht : thereN l n with
  | false =>
    have ht' : ¬ (0 ≤ n ∧ n < (l.length : Int)) := fun h => by
      unfold thereN at ht; simp [h.1, h.2] at ht
    rw [ht, Bool.false_and, if_neg (by simp)] at ho
    subst ho
    by_cases e1 : n < 0
    · (have fct := (eq_true e1); (repeat' (first
    | refine gF ?_
    | ((with_reducible show (_ ∧ _) ∧ _ ∧ _); (refine eK ?_ ?_ <;> with_reducible repeat' (first | exact trivial | (show _ ∧ _; refine aK ?_ ?_)))))); all_goals clear fct)
      all_goals exact .inr (.inr ⟨1, rfl⟩)
    · have e2 : (l.length : Int) ≤ n := by omega
      (have fct := And.intro (eq_false e1) (And.intro hlm ((eq_true e2))); (repeat' (first
    | refine gF ?_
    | ((with_reducible show (_ ∧ _) ∧ _ ∧ _); (refine eK ?_ ?_ <;> with_reducible repeat' (first | exact trivial | (show _ ∧ _; refine aK ?_ ?_)))))); all_goals clear fct)
      all_goals exact .inr (.inr ⟨1, rfl⟩)
  | true =>
    obtain ⟨e1, e2⟩ := there_pos ht
    have e1' : ¬ n < 0 := by omega
    have e2' : ¬ (l.length : Int) ≤ n := by omega
    cases hr : rightF ⟨l, m⟩ with
    | false =>
      rw [hr] at h15
      rw [ht, hr, Bool.true_and, if_neg (by simp)] at ho
      subst ho
      (have fct := And.intro (eq_false e1') (And.intro hlm ((eq_false e2'))); (repeat' (first
    | refine gF ?_
    | (((with_reducible show CallK _ _ 17 _ _ _ _); refine CallK.lit [] h15 c17 ⟨⟨rfl, rfl, trivial⟩, trivial⟩ rfl rfl ?_) <;> with_reducible refine wK ?_)
    | ((with_reducible show (_ ∧ _) ∧ _ ∧ _); (refine eK ?_ ?_ <;> with_reducible repeat' (first | exact trivial | (show _ ∧ _; refine aK ?_ ?_)))))); all_goals clear fct)
      all_goals exact .inr (.inr ⟨1, rfl⟩)
    | true =>
      rw [hr] at h15
      rw [ht, hr, Bool.true_and, if_pos rfl] at ho
      have T : Tree l := tree_of hr
      have h48 := h48 hr n ht
      have hrt := (root_there T n ht).1
      have h78 := h78 (rootN l n) (by rw [hr, show thereN l (rootN l n) = true from hrt]; rfl)
      have hol := ord_len T l.length hrt
      have hot : ∀ k ∈ ordN l l.length (rootN l n), thereN l k = true := fun k hk => (ord_root T hrt hk).1
      have hkp := keptI_mem (l := l) (x := n)
      obtain ⟨p, hp⟩ : ∃ p : Int → Bool, p = fun a => !decide (ownN l a = n) := ⟨_, rfl⟩
      rw [← hp] at hkp
      generalize ordN l l.length (rootN l n) = ks at h78 hol hot hkp
      have hasks : Asks l m n p ks (keepL l ks) := fun j a ha => by
        have hj := (List.getElem?_eq_some_iff.1 ha).1
        have := h83 hr (keepL l ks j) (keepL_ok l ks j (by omega)).1 n a (hot a (List.mem_of_getElem? ha))
        have e : keepL l ks (j + 1) = stepC l (keepL l ks j) a := by show (match ks[j]? with | some a => stepC l (keepL l ks j) a | none => keepL l ks j) = _; rw [ha]
        rw [e, hp]
        exact this
      have h82 := f81_fin (show ks.length ≤ 100000 by omega) hasks
      rw [hkp] at h82
      have hk0 : keepL l ks 0 = [] := rfl
      rw [hk0] at h82
      unfold memF at ho
      generalize memN l n = mm at h82 ho
      generalize keepL l ks ks.length = c2 at h82
      generalize List.replicate (ks.length - mm.length) (0 : Int) = gar at h82
      generalize rootN l n = r at h48 h78
      obtain ⟨i, x, e, hx, hnx⟩ := there_iff.1 ht
      rw [hnx] at ho
      have h81 := f163_ok x
      obtain ⟨fm, hfm⟩ : ∃ fm, isForm x = fm := ⟨_, rfl⟩
      rw [hfm] at h81 ho
      obtain ⟨a1, a2, a3, a4, a5, a6, a7, a8, a9, a10⟩ := x
      clear hfm
      cases fm with
      | false =>
        rw [if_neg (by simp)] at ho
        subst ho
        (have fct := And.intro (eq_false e1') (And.intro hlm ((eq_false e2'))); (repeat' (first
    | refine gF ?_
    | ((first
      | ((with_reducible show CallK _ _ 17 _ _ _ _); refine CallK.lit [] h15 c17 ⟨⟨rfl, rfl, trivial⟩, trivial⟩ rfl rfl ?_)
      | (refine IdxK.mk i (eNode ⟨a1, a2, a3, a4, a5, a6, a7, a8, a9, a10⟩) e (node_get hx) ?_)
      | ((with_reducible show CallK _ _ 163 _ _ _ _); refine CallK.lit [] h81 c163 ⟨⟨rfl, rfl, rfl, rfl, rfl, rfl, rfl, rfl, rfl, rfl, trivial⟩, trivial⟩ rfl rfl ?_)) <;> with_reducible refine wK ?_)
    | ((with_reducible show (_ ∧ _) ∧ _ ∧ _); (refine eK ?_ ?_ <;> with_reducible repeat' (first | exact trivial | (show _ ∧ _; refine aK ?_ ?_)))))); all_goals clear fct)
        all_goals exact .inr (.inr ⟨1, rfl⟩)
      | true =>
        rw [if_pos rfl] at ho
        subst ho
        (have fct := And.intro (eq_false e1') (And.intro hlm ((eq_false e2'))); (repeat' (first
    | refine gF ?_
    | ((first
      | ((with_reducible show CallK _ _ 17 _ _ _ _); refine CallK.lit [] h15 c17 ⟨⟨rfl, rfl, trivial⟩, trivial⟩ rfl rfl ?_)
      | (refine IdxK.mk i (eNode ⟨a1, a2, a3, a4, a5, a6, a7, a8, a9, a10⟩) e (node_get hx) ?_)
      | ((with_reducible show CallK _ _ 163 _ _ _ _); refine CallK.lit [] h81 c163 ⟨⟨rfl, rfl, rfl, rfl, rfl, rfl, rfl, rfl, rfl, rfl, trivial⟩, trivial⟩ rfl rfl ?_)
      | ((with_reducible show CallK _ _ 104 _ _ _ _); refine CallK.new 301 [] h73 c104 ⟨⟨rfl, rfl, trivial⟩, trivial⟩ rfl rfl rfl ⟨.nil _, rfl, trivial⟩ rfl ?_)
      | ((with_reducible show CallK _ _ 165 _ _ _ _); refine CallK.lit [] h48 c165 ⟨⟨rfl, rfl, trivial⟩, rfl, trivial⟩ rfl rfl ?_)
      | ((with_reducible show CallK _ _ 164 _ _ _ _); refine CallK.new 351 [] h78 c164 ⟨⟨rfl, rfl, trivial⟩, rfl, trivial⟩ rfl rfl rfl (ints_outs ks) rfl ?_)) <;> with_reducible refine wK ?_)
    | ((with_reducible show (_ ∧ _) ∧ _ ∧ _); (refine eK ?_ ?_ <;> with_reducible repeat' (first | exact trivial | (show _ ∧ _; refine aK ?_ ?_)))))); all_goals clear fct)
        refine CallK.lend (news := [mFin l m 301, idsM c2, rInts (mm ++ gar)]) [50, 301, 351] [] h82 c81 ⟨⟨rfl, rfl⟩, ⟨rfl, trivial, ⟨rfl, rfl⟩, ⟨rfl, rfl⟩, trivial⟩, trivial⟩ (ins_fin3 rfl rfl rfl) rfl ⟨⟨rfl, rfl⟩, rfl⟩ rfl news_fin3 rfl rfl ?_
        with_reducible refine wK ?_
        repeat' (first
    | refine gK ?_
    | ((with_reducible show (_ ∧ _) ∧ _ ∧ _); (refine eK ?_ ?_ <;> with_reducible repeat' (first | exact trivial | (show _ ∧ _; refine aK ?_ ?_)))))
        all_goals first | exact frz_kept rfl rfl rfl rfl | trace_state
theorem o38a : FnOK Tryz.prog 49 [] [eFor oF, eInt 4] [] (eInt 2) := by
  have h := f49_ok oF oF_small 4
  rwa [show ownF oF 4 = 2 from by kernel_rfl] at h
theorem o38b : FnOK Tryz.prog 49 [] [eFor oF, eInt 5] [] (eInt (-1)) := by
  have h := f49_ok oF oF_small 5
  rwa [show ownF oF 5 = -1 from by kernel_rfl] at h
theorem o38c : FnOK Tryz.prog 49 [] [eFor oG, eInt 5] [] (eInt 2) := by
  have h := f49_ok oG oG_small 5
  rwa [show ownF oG 5 = 2 from by kernel_rfl] at h
theorem o43 : FnOK Tryz.prog 103 [] [eFor oG, eInt 2] [] (eInts [3, 4, 5]) := by
  have h := f103_ok oG oG_small 2
  rwa [show memV oG 2 = [3, 4, 5] from by kernel_rfl] at h
theorem o42 : FnOK Tryz.prog 50 [] [eFor oG] [] (eInts (allF oG)) := f50_ok oG oG_small
theorem o42l : ((allF oG).map oInt).length = 6 := by rw [List.length_map]; kernel_rfl
theorem o45 : FnOK Tryz.prog 25 [] [eInts [3, 4, 5], eInts [3, 4, 5]] [] (eBool true) := by
  have h := f25_ok [3, 4, 5] [3, 4, 5] (by decide)
  rwa [decide_eq_true rfl] at h
theorem f48_ok : FnOK Tryz.prog 48 [] [] [] (eBool true) := by
  refine FnOK.startC (rvs := [.tmp 0]) G G_good Tryz.func48 rfl Tryz.ntmps48 rfl rfl ?_; with_reducible refine wD ?_
  refine CallK.val [] ofresh_ok c54 ⟨rfl, rfl, trivial⟩ rfl rfl rfl ?_; with_reducible refine wK ?_
  repeat' (first
    | refine gK ?_
    | (((with_reducible show CallK _ _ 29 _ _ _ _); refine CallK.val [] oins_ok c29 ⟨⟨rfl, rfl, trivial⟩, rfl, rfl, rfl, trivial⟩ rfl rfl rfl ?_) <;> with_reducible refine wK ?_)
    | ((with_reducible show (_ ∧ _) ∧ _ ∧ _); (refine eK ?_ ?_ <;> with_reducible repeat' (first | exact trivial | (show _ ∧ _; refine aK ?_ ?_)))))
  (have fct := o42l; (repeat' (first
    | refine gF ?_
    | ((first
      | ((with_reducible show CallK _ _ 49 _ _ _ _); first | refine CallK.lit [] o38a c49 ⟨⟨rfl, rfl, trivial⟩, rfl, trivial⟩ rfl rfl ?_ | refine CallK.lit [] o38b c49 ⟨⟨rfl, rfl, trivial⟩, rfl, trivial⟩ rfl rfl ?_ | refine CallK.lit [] o38c c49 ⟨⟨rfl, rfl, trivial⟩, rfl, trivial⟩ rfl rfl ?_)
      | ((with_reducible show CallK _ _ 103 _ _ _ _); refine CallK.val [] o43 c103 ⟨⟨rfl, rfl, trivial⟩, rfl, trivial⟩ rfl rfl rfl ?_)
      | ((with_reducible show CallK _ _ 25 _ _ _ _); refine CallK.lit [431] o45 c25 ⟨rfl, frz_ints (l := [3, 4, 5]) rfl rfl rfl rfl, trivial⟩ rfl rfl ?_)
      | ((with_reducible show CallK _ _ 50 _ _ _ _); refine CallK.val [] o42 c50 ⟨⟨rfl, rfl, trivial⟩, trivial⟩ rfl rfl rfl ?_)
      | ((with_reducible show DrawK _ _ _ _); refine dK ?_)) <;> with_reducible refine wK ?_)
    | ((with_reducible show (_ ∧ _) ∧ _ ∧ _); (refine eK ?_ ?_ <;> with_reducible repeat' (first | exact trivial | (show _ ∧ _; refine aK ?_ ?_)))))); all_goals clear fct)
  all_goals first | rfl | trace_state
end Go.Proofs.Heir
section
namespace Go.Proofs.Heir
open Go Go.Am Go.RowKit Go.Lib
set_option maxRecDepth 100000
theorem f20_ok (f : ForM) (hs : SmallN f.nodes) (hr : rightF f = true) (a b : Int) (ha : thereN f.nodes a = true) (hb : thereN f.nodes b = true) : FnOK Tryz.prog 20 [] [eFor f, eInt a, eInt b] [] (eBool (holdsN f.nodes a b)) := by
  have T := tree_of hr
  have h25 := f63_ok f hs [a, b] (by simp)
  have h0 : idxI (fun n => !thereN f.nodes n) [a, b] = -1 := idxI_none fun j x hx => by
    have : x ∈ [a, b] := List.mem_of_getElem? hx
    simp only [List.mem_cons, List.not_mem_nil, or_false] at this
    rcases this with rfl | rfl
    · rw [ha]; rfl
    · rw [hb]; rfl
  rw [h0, hr, show (true && !decide ((0 : Int) ≤ -1)) = true from rfl] at h25
  unfold holdsN
  have hstep := fun n h1 h2 => way_step T (n := n) h1 h2
  have hself := fun n h1 => way_self T (n := n) h1
  have htop := fun n h1 h2 => way_top T (n := n) h1 h2
  have hpar : ∀ n, thereN f.nodes n = true → (nd f.nodes n).parent = -1 ∨ thereN f.nodes (nd f.nodes n).parent = true := fun n hn => by
    by_cases h : (nd f.nodes n).parent = -1
    · exact .inl h
    · exact .inr (T.par n hn h).1
  obtain ⟨l, m⟩ := f
  simp only at h25 hb hstep htop hself hpar ha ⊢
  refine FnOK.startC (rvs := [.tmp 6]) G G_good Tryz.func20 rfl Tryz.ntmps20 rfl rfl ?_; with_reducible refine wD ?_
  refine CallK.lit [101] h25 c63 ⟨⟨rfl, rfl, trivial⟩, ⟨_, _, _, _, rfl, rfl, rfl, Nat.le_refl _, rfl, .refl rfl⟩, trivial⟩ rfl rfl ?_; with_reducible refine wK ?_
  refine IfK.no rfl ?_; with_reducible refine wK ?_
  refine LoopK.use G G_good (fun (c : Int) => [(1, eInt a), (2, eInt c), (3, .ptr 30 0 0)]) (fun _ => [(30, .live 2 [eFor ⟨l, m⟩] false)])
    (fun c => (c = -1 ∨ thereN l c = true) ∧ (a ∈ wayN l b ↔ (c ≠ -1 ∧ a ∈ wayN l c))) (fun c => if c = -1 then 0 else (wayN l c).length) b ⟨.inr hb, ⟨fun h => ⟨by have := there_pos hb; omega, h⟩, fun h => h.2⟩⟩
    ⟨⟨rfl, rfl⟩, ⟨rfl, rfl, ⟨rfl, rfl⟩, trivial⟩, ⟨⟨rfl, rfl, trivial⟩, trivial⟩, trivial⟩ ?_
  rintro c ⟨hc, hiff⟩
  with_reducible refine wK ?_
  have ha0 := there_pos ha
  by_cases ec : c = -1
  · subst ec
    have hno : decide (a ∈ wayN l b) = false := decide_eq_false fun h => (hiff.1 h).1 rfl
    rw [hno]
    have hna : ¬ -1 = a := by omega
    (have fct := (eq_false hna); (repeat' (first
    | refine gF ?_
    | ((with_reducible show (_ ∧ _) ∧ _ ∧ _); (refine eK ?_ ?_ <;> with_reducible repeat' (first | exact trivial | (show _ ∧ _; refine aK ?_ ?_)))))); all_goals clear fct)
    all_goals simp [hna]
  · have hct := hc.resolve_left ec
    by_cases ea : c = a
    · subst ea
      have hyes : decide (c ∈ wayN l b) = true := decide_eq_true (hiff.2 ⟨ec, hself c hct⟩)
      rw [hyes]
      (have fct := (eq_false ec); (repeat' (first
    | refine gF ?_
    | ((with_reducible show (_ ∧ _) ∧ _ ∧ _); (refine eK ?_ ?_ <;> with_reducible repeat' (first | exact trivial | (show _ ∧ _; refine aK ?_ ?_)))))); all_goals clear fct)
      all_goals simp
    · obtain ⟨i, y, e, hy, hny⟩ := there_iff.1 hct
      have hpc := hpar c hct
      have hst := hstep c hct
      have htp := htop c hct
      rw [hny] at hpc hst htp
      obtain ⟨b1, b2, b3, b4, b5, b6, b7, b8, b9, b10⟩ := y
      simp only at hpc hst htp
      have hni : (a ∈ wayN l b ↔ (b6 ≠ -1 ∧ a ∈ wayN l b6)) ∧ (if b6 = -1 then 0 else (wayN l b6).length) < (if c = -1 then 0 else (wayN l c).length) := by
        rw [if_neg ec]
        by_cases e6 : b6 = -1
        · rw [htp e6, if_pos e6]
          refine ⟨?_, by simp⟩
          rw [hiff, htp e6]
          constructor
          · rintro ⟨_, h⟩; rw [List.mem_singleton] at h; exact absurd h.symm ea
          · rintro ⟨h, _⟩; exact absurd e6 h
        · rw [hst e6, if_neg e6]
          refine ⟨?_, by simp⟩
          rw [hiff, hst e6, List.mem_cons]
          constructor
          · rintro ⟨_, h | h⟩
            · exact absurd h.symm ea
            · exact ⟨e6, h⟩
          · rintro ⟨_, h⟩; exact ⟨ec, .inr h⟩
      (have fct := And.intro (eq_false ec) ((eq_false ea)); (repeat' (first
    | refine gF ?_
    | ((first
      | (refine IdxK.mk i (eNode ⟨b1, b2, b3, b4, b5, b6, b7, b8, b9, b10⟩) e (node_get hy) ?_)
      | ((with_reducible show NextK _ _); refine NextK.mk b6 ⟨hpc, hni.1⟩ hni.2 ⟨⟨rfl, rfl⟩, ⟨rfl, rfl, ⟨rfl, rfl⟩, trivial⟩, ⟨⟨rfl, rfl, trivial⟩, trivial⟩, trivial⟩)) <;> with_reducible refine wK ?_)
    | ((with_reducible show (_ ∧ _) ∧ _ ∧ _); (refine eK ?_ ?_ <;> with_reducible repeat' (first | exact trivial | (show _ ∧ _; refine aK ?_ ?_)))))); all_goals clear fct)
set_option maxHeartbeats 8000000
end Go.Proofs.Heir
end
namespace Go.Proofs.Heir
open Go Go.Am Go.RowKit Go.Lib
set_option maxRecDepth 100000
set_option maxHeartbeats 8000000
set_option maxHeartbeats 2000000
def valV (l : List AttrM) (s : ByteArray) : ByteArray × Bool := match l.find? (hasName s) with
  | some a => (a.value, true)
  | none => (noS, false)
def chainS (n : Int) (s : ByteArray) (t : ByteArray × Bool) (x : NoteM) : Option (ByteArray × Bool) :=
  if x.node = n ∧ x.kind = 4 ∧ x.name = s then (if x.old ≠ t.1 ∨ x.had ≠ t.2 ∨ (x.had = false ∧ x.has = false) ∨ (x.has = false ∧ x.new ≠ noS) then none else some (x.new, x.has)) else some t
def chainN (n : Int) (s : ByteArray) : ByteArray × Bool → List NoteM → Option (ByteArray × Bool)
  | t, [] => some t
  | t, x :: r => match chainS n s t x with
    | none => none
    | some u => chainN n s u r
theorem chain_none {n : Int} {s : ByteArray} {t : ByteArray × Bool} : ∀ {ns : List NoteM}, (∀ x ∈ ns, x.kind ≠ 4) → chainN n s t ns = some t
  | [], _ => rfl
  | x :: r, h => by
    have e : chainS n s t x = some t := by
      unfold chainS
      rw [if_neg fun q => h x List.mem_cons_self q.2.1]
    show (match chainS n s t x with | none => none | some u => chainN n s u r) = _
    rw [e]
    exact chain_none fun y hy => h y (List.mem_cons_of_mem _ hy)
theorem val_hit {l : List AttrM} (hr : rightA l = true) {a : AttrM} (h : a ∈ l) : valV l a.name = (a.value, true) := by
  unfold valV
  cases e : l.find? (hasName a.name) with
  | none => exact absurd (List.find?_eq_none.1 e a h) (by unfold hasName; simp)
  | some b =>
    have h1 := List.mem_of_find?_eq_some e
    have h2 : b.name = a.name := by
      have := List.find?_some e
      unfold hasName at this
      exact of_decide_eq_true this
    rw [mem_inj (rightA_nodup hr) h1 h h2]
theorem val_miss {l : List AttrM} {s : ByteArray} (h : ∀ a ∈ l, a.name ≠ s) : valV l s = (noS, false) := by
  unfold valV
  have : l.find? (hasName s) = none := List.find?_eq_none.2 fun a ha => by
    unfold hasName
    simpa using h a ha
  rw [this]
theorem val_ext {l m : List AttrM} {s : ByteArray} (hl : rightA l = true) (hm : rightA m = true) (h : ∀ a : AttrM, a.name = s → (a ∈ l ↔ a ∈ m)) : valV l s = valV m s := by
  by_cases c : ∃ a ∈ l, a.name = s
  · obtain ⟨a, ha, e⟩ := c
    subst e
    rw [val_hit hl ha, val_hit hm ((h a rfl).1 ha)]
  · rw [val_miss (fun a ha e => c ⟨a, ha, e⟩), val_miss fun a ha e => c ⟨a, (h a e).2 ha, e⟩]
theorem get_val {l : List AttrM} {s : ByteArray} (hl : rightA l = true) (hs : rightS s = true) : getS l s = (valV l (lowS s)).1 ∧ decide (0 ≤ findP l s) = (valV l (lowS s)).2 := by
  by_cases c : ∃ a ∈ l, a.name = lowS s
  · obtain ⟨a, ha, e⟩ := c
    have h1 := get_hit (l := l) (n := s) (v := a.value) hl hs (by rw [← e]; exact ha)
    have h2 := val_hit hl ha
    rw [e] at h2
    rw [h2, h1.1, decide_eq_true h1.2]; exact ⟨rfl, rfl⟩
  · have h1 := get_miss (l := l) (n := s) fun _ _ a ha e => c ⟨a, ha, e⟩
    rw [val_miss (fun a ha e => c ⟨a, ha, e⟩), h1.1, decide_eq_false h1.2]; exact ⟨rfl, rfl⟩
section
variable {l l' : List NodeM} {m : Int}
end
structure OpOK (f : ForM) (r : ForM × List NoteM × Int) : Prop where
  right : rightF r.1 = true
  len : r.1.nodes.length = f.nodes.length
  fail : r.2.2 ≠ 0 → r.1 = f ∧ r.2.1 = []
  told : Told f.nodes r.1.nodes r.2.1
  kind : ∀ x, thereN f.nodes x = true → (nd r.1.nodes x).kind = (nd f.nodes x).kind
  chain : ∀ n, thereN f.nodes n = true → ∀ t, rightS t = true → lowS t = t → chainN n t (valV (nd f.nodes n).attrs t) r.2.1 = some (valV (nd r.1.nodes n).attrs t)
theorem OpOK.nil {f : ForM} (h : rightF f = true) (e : Int) : OpOK f (f, [], e) := ⟨h, rfl, fun _ => ⟨rfl, rfl⟩, .nil _, fun _ _ => rfl, fun _ _ _ _ _ => rfl⟩
section
variable {l : List NodeM} {m : Int}
theorem OpOK.move (R : RF l m) {l' : List NodeM} {ns : List NoteM} (R' : RF l' m) (hl : l'.length = l.length) (hs : ∀ x, thereN l x = true → LikeN (nd l' x) (nd l x)) (ht : Told l l' ns) (hn : NoAtt ns) : OpOK ⟨l, m⟩ (⟨l', m⟩, ns, 0) :=
  ⟨rf_iff.2 R', hl, fun h => absurd rfl h, ht, fun x hx => (hs x hx).kind, fun n hn2 t _ _ => by
    rw [chain_none hn]
    show some _ = some (valV (nd l' n).attrs t)
    rw [(hs n hn2).attrs]⟩
end
section
variable {l l' : List NodeM} {m : Int}
theorem find_cg {q p : Int → Bool} : ∀ {cs : List Int}, (∀ c ∈ cs, q c = p c) → cs.find? q = cs.find? p
  | [], _ => rfl
  | a :: r, h => by rw [List.find?_cons, List.find?_cons, h a List.mem_cons_self, find_cg fun c hc => h c (List.mem_cons_of_mem _ hc)]
end
section
variable {l l' : List NodeM} {m : Int}
theorem flat_cg {f g : Int → List Int} : ∀ {cs : List Int}, (∀ c ∈ cs, f c = g c) → cs.flatMap f = cs.flatMap g
  | [], _ => rfl
  | a :: r, h => by rw [List.flatMap_cons, List.flatMap_cons, h a List.mem_cons_self, flat_cg fun c hc => h c (List.mem_cons_of_mem _ hc)]
theorem ord_same (R : RF l m) (hk : ∀ x, thereN l x = true → (nd l' x).kids = (nd l x).kids) : ∀ (j : Nat) (n : Int), thereN l n = true → ordN l' j n = ordN l j n
  | 0, _, _ => rfl
  | j + 1, n, hn => by
    unfold ordN
    rw [hk n hn, flat_cg fun c hc => ord_same R hk j c (R.kid n hn c hc).1]
theorem near_same (R : RF l m) (hl : l'.length = l.length) (hs : ∀ x, thereN l x = true → SameN (nd l' x) (nd l x) ∧ (nd l' x).name = (nd l x).name) {k : Int} (hk : thereN l k = true) : nearN l' k = nearN l k := by
  unfold nearN nearBy
  rw [wayP_same hl R (fun x hx => (hs x hx).1.parent) hk, find_cg fun c hc => ?_]
  have hct := way_there R.ptree k hk c (List.mem_of_mem_tail hc)
  unfold isForm
  rw [(hs c hct).1.kind, (hs c hct).2]
theorem own_same (R : RF l m) (hl : l'.length = l.length) (hs : ∀ x, thereN l x = true → SameN (nd l' x) (nd l x) ∧ (nd l' x).name = (nd l x).name) (hf : ∀ x, thereN l x = true → attV (nd l' x) formW = attV (nd l x) formW) (hi : ∀ x, thereN l x = true → attV (nd l' x) idW = attV (nd l x) idW) {k : Int} (hk : thereN l k = true) : ownN l' k = ownN l k := by
  have T := R.ptree
  have hcon : conN l' k = conN l k := con_same R hl (fun x hx => (hs x hx).1) hk
  have hroot : rootN l' k = rootN l k := by
    unfold rootN
    rw [wayP_same hl R (fun x hx => (hs x hx).1.parent) hk]
  have hrt := (root_there T k hk).1
  have hfi : ∀ v, firstId l' (rootN l k) v = firstId l (rootN l k) v := fun v => by
    unfold firstId
    rw [hl, ord_same R (fun x hx => (hs x hx).1.kids) _ _ hrt]
    exact find_cg fun c hc => by
      rw [hi c (ord_way T _ _ hrt c hc).1]
  have hby : ∀ v, byId l' k v = byId l k v := fun v => by
    unfold byId
    rw [hroot, hfi]
    cases e : firstId l (rootN l k) v with
    | none => rfl
    | some j =>
      have hj := (ord_way T _ _ hrt j (first_some e).1).1
      have : isForm (nd l' j) = isForm (nd l j) := by unfold isForm; rw [(hs j hj).1.kind, (hs j hj).2]
      show (if v ≠ _ ∧ isForm (nd l' j) = true then j else -1) = if v ≠ _ ∧ isForm (nd l j) = true then j else -1
      rw [this]
  unfold ownN
  rw [(hs k hk).1.kind, hf k hk, hcon, near_same R hl hs hk]
  split
  · split
    · rw [hby]
    · rfl
  · rfl
theorem attV_val {x : NodeM} {w : ByteArray} (h : rightA x.attrs = true) (h1 : rightS w = true) : attV x w = if (valV x.attrs (lowS w)).2 = true then some (valV x.attrs (lowS w)).1 else none := by
  obtain ⟨g1, g2⟩ := get_val h h1
  unfold attV
  rw [← g1, ← g2]
  by_cases c : 0 ≤ findP x.attrs w
  · rw [if_pos c, if_pos (decide_eq_true c)]
  · rw [if_neg c, if_neg (by rw [decide_eq_false c]; simp)]
theorem set_attV (R : RF l m) {n : Int} (hn : thereN l n = true) {s v : ByteArray} (he : (setM ⟨l, m⟩ n s v).2.2 = 0) {w : ByteArray} (h1 : rightS w = true) (hne : lowS w ≠ lowS s) (x : Int) (hx : thereN l x = true) : attV (nd (attL l n (setA (nd l n).attrs s v).1) x) w = attV (nd l x) w := by
  obtain ⟨hk, h0, _, h2⟩ := set_right R hn he
  obtain ⟨_, S⟩ := set_ok h0
  have e := (att_same (xs := (setA (nd l n).attrs s v).1) hn x hx).2.2
  by_cases c : x = n
  · subst c
    rw [if_pos rfl] at e
    rw [attV_val (by rw [e]; exact h2) h1, attV_val (R.attrs hx hk) h1, e]
    have : valV (setA (nd l x).attrs s v).1 (lowS w) = valV (nd l x).attrs (lowS w) := val_ext h2 (R.attrs hx hk) fun a ha => by
      rw [S.mem]
      constructor
      · rintro (h | h)
        · rw [h] at ha; exact absurd ha.symm hne
        · exact h.1
      · exact fun h => .inr ⟨h, by rw [ha]; exact hne⟩
    rw [this]
  · rw [if_neg c] at e
    unfold attV
    rw [e]
theorem set_owner (R : RF l m) {n : Int} (hn : thereN l n = true) {s v : ByteArray} (he : (setM ⟨l, m⟩ n s v).2.2 = 0) (h1 : lowS s ≠ formW) (h2 : lowS s ≠ idW) {k : Int} (hk : thereN l k = true) : ownN (setM ⟨l, m⟩ n s v).1.nodes k = ownN l k := by
  obtain ⟨_, _, e1, _⟩ := set_right R hn he
  have e2 : (changeM ⟨l, m⟩ n s (setA (nd l n).attrs s v).1).1 = ⟨attL l n (setA (nd l n).attrs s v).1, m⟩ := rfl
  rw [e1, e2]
  have S := fun x (h : thereN l x = true) => att_same (xs := (setA (nd l n).attrs s v).1) hn x h
  exact own_same R (len_att ..) (fun x hx => ⟨(S x hx).1, (S x hx).2.1⟩) (set_attV R hn he form_right (by rw [form_low]; exact fun q => h1 q.symm)) (set_attV R hn he id_right (by rw [id_low]; exact fun q => h2 q.symm)) hk
theorem form_empty (R : RF l m) {n : Int} (hn : thereN l n = true) (he : (setM ⟨l, m⟩ n formW noS).2.2 = 0) :
    ownN (setM ⟨l, m⟩ n formW noS).1.nodes n = (if conN l n = true then -1 else nearN l n) ∧ (unsetM (setM ⟨l, m⟩ n formW noS).1 n formW).2.2 = 0 ∧ ownN (unsetM (setM ⟨l, m⟩ n formW noS).1 n formW).1.nodes n = nearN l n ∧ RF (setM ⟨l, m⟩ n formW noS).1.nodes m ∧ RF (unsetM (setM ⟨l, m⟩ n formW noS).1 n formW).1.nodes m ∧ (unsetM (setM ⟨l, m⟩ n formW noS).1 n formW).1.nodes.length = l.length ∧ (∀ k, thereN l k = true → wayN (unsetM (setM ⟨l, m⟩ n formW noS).1 n formW).1.nodes k = wayN l k) := by
  obtain ⟨hk, h0, e1, h2⟩ := set_right R hn he
  obtain ⟨_, S0⟩ := set_ok h0
  have e2 : (changeM ⟨l, m⟩ n formW (setA (nd l n).attrs formW noS).1).1 = ⟨attL l n (setA (nd l n).attrs formW noS).1, m⟩ := rfl
  rw [e1, e2]
  have T := there_len (len_att l n (setA (nd l n).attrs formW noS).1)
  have hn1 : thereN (attL l n (setA (nd l n).attrs formW noS).1) n = true := by rw [T]; exact hn
  have R1 := att_right R hn hk h2
  have ha := nd_att_self (xs := (setA (nd l n).attrs formW noS).1) hn
  have S := fun x (h : thereN l x = true) => att_same (xs := (setA (nd l n).attrs formW noS).1) hn x h
  have hk1 : (nd (attL l n (setA (nd l n).attrs formW noS).1) n).kind = 1 := by rw [(S n hn).1.kind]; exact hk
  have hg := get_hit h2 form_right ((S0.mem _).2 (.inl rfl))
  obtain ⟨r1, _, r3⟩ := remove_ok hg.2
  have e3 : unsetM ⟨attL l n (setA (nd l n).attrs formW noS).1, m⟩ n formW = changeM ⟨attL l n (setA (nd l n).attrs formW noS).1, m⟩ n formW (removeA (setA (nd l n).attrs formW noS).1 formW).1 := by
    unfold unsetM
    rw [elem_iff R1 hn1, if_pos hk1, if_neg (show ¬ (0 : Int) ≠ 0 from fun q => q rfl), form_right, if_neg (show ¬ true = false by decide)]
    dsimp only
    rw [ha]
  have e4 : (changeM ⟨attL l n (setA (nd l n).attrs formW noS).1, m⟩ n formW (removeA (setA (nd l n).attrs formW noS).1 formW).1).1 = ⟨attL l n (removeA (setA (nd l n).attrs formW noS).1 formW).1, m⟩ := by
    unfold changeM
    dsimp only
    rw [att_att hn]
  have S2 := fun x (h : thereN l x = true) => att_same (xs := (removeA (setA (nd l n).attrs formW noS).1 formW).1) hn x h
  have R2 := att_right R hn hk r1
  rw [e3, e4]
  dsimp only
  refine ⟨?_, rfl, ?_, R1, R2, len_att .., fun k hkt => wayP_same (len_att ..) R (fun x hx => (S2 x hx).1.parent) hkt⟩
  · have hat : attV (nd (attL l n (setA (nd l n).attrs formW noS).1) n) formW = some noS := by
      unfold attV
      rw [ha, if_pos hg.2, hg.1]
    have hcon : conN (attL l n (setA (nd l n).attrs formW noS).1) n = conN l n := con_same R (len_att ..) (fun x hx => (S x hx).1) hn
    unfold ownN
    rw [if_pos hk1, hat, hcon, near_same R (len_att ..) (fun x hx => ⟨(S x hx).1, (S x hx).2.1⟩) hn]
    dsimp only
    by_cases c : conN l n = true
    · rw [if_pos c, if_pos c]
      unfold byId
      split
      · exact if_neg fun q => q.1 rfl
      · rfl
    · rw [if_neg c, if_neg c]
  · have hat : attV (nd (attL l n (removeA (setA (nd l n).attrs formW noS).1 formW).1) n) formW = none := by
      unfold attV
      rw [nd_att_self hn, if_neg (get_miss fun _ _ a ha => ((r3 a).1 ha).2).2]
    rw [own_near ⟨by rw [(S2 n hn).1.kind]; exact hk, .inl hat⟩]
    exact near_same R (len_att ..) (fun x hx => ⟨(S2 x hx).1, (S2 x hx).2.1⟩) hn
end
end Go.Proofs.Heir
section
namespace Go.Proofs.Heir
open Go Go.Am Go.RowKit Go.Lib
set_option maxRecDepth 100000
set_option maxHeartbeats 8000000
variable {l l' : List NodeM} {m : Int}
theorem near_in (R : RF l m) {n : Int} (hn : thereN l n = true) : nearN l n = -1 ∨ (nearN l n ∈ wayN l n ∧ thereN l (nearN l n) = true) := by
  have T := R.ptree
  rcases near_spec T (fun p => isForm (nd l p)) n hn with h | h
  · exact .inl h.1
  · exact .inr ⟨h.1, way_there T n hn _ h.1⟩
theorem unset_most (f : ForM) (n : Int) (s : ByteArray) : (unsetM f n s).1.most = f.most := by
  unfold unsetM changeM
  split
  · rfl
  · split <;> rfl
theorem all_owners (R : RF l m) (R' : RF l' m) (hl : l'.length = l.length) (h : ∀ k, thereN l k = true → ownN l' k = ownN l k) : allF ⟨l', m⟩ = allF ⟨l, m⟩ := by
  unfold allF
  rw [if_pos (rf_iff.2 R'), if_pos (rf_iff.2 R)]
  show ownTo l' l'.length = ownTo l l.length
  unfold ownTo
  rw [hl]
  refine List.map_congr_left fun k hk => h k ?_
  obtain ⟨y, hy⟩ : ∃ y, l[k]? = some y := ⟨_, List.getElem?_eq_getElem (List.mem_range.1 hk)⟩
  exact there_get hy
theorem f13_ok (f : ForM) (a : Int) (ha : 0 ≤ a ∧ a < 256) (s v : ByteArray) : FnOK Tryz.prog 13 [] [eFor f, .lit (.int .u8 a), eStr s, eStr v] [] (eBool true) := by
  have h48 := f48_ok
  have h16 := f16_ok f
  cases hsh : shortF f with
  | false =>
    rw [hsh] at h16
    obtain ⟨l, m⟩ := f
    refine FnOK.startC (rvs := [.tmp 8]) G G_good Tryz.func13 rfl Tryz.ntmps13 rfl rfl ?_; with_reducible refine wD ?_
    repeat' (first
    | refine gK ?_
    | ((first
      | ((with_reducible show CallK _ _ 48 _ _ _ _); refine CallK.lit [] h48 c48 trivial rfl rfl ?_)
      | ((with_reducible show CallK _ _ 16 _ _ _ _); refine CallK.lit [] h16 c16 ⟨⟨rfl, rfl, trivial⟩, trivial⟩ rfl rfl ?_)) <;> with_reducible refine wK ?_)
    | ((with_reducible show (_ ∧ _) ∧ _ ∧ _); (refine eK ?_ ?_ <;> with_reducible repeat' (first | exact trivial | (show _ ∧ _; refine aK ?_ ?_)))))
    all_goals rfl
  | true =>
    rw [hsh] at h16
    have hs := shortF_small hsh
    have h17 := f17_ok f hs
    cases hr : rightF f with
    | false =>
      rw [hr] at h17
      obtain ⟨l, m⟩ := f
      refine FnOK.startC (rvs := [.tmp 8]) G G_good Tryz.func13 rfl Tryz.ntmps13 rfl rfl ?_; with_reducible refine wD ?_
      repeat' (first
    | refine gK ?_
    | ((first
      | ((with_reducible show CallK _ _ 48 _ _ _ _); refine CallK.lit [] h48 c48 trivial rfl rfl ?_)
      | ((with_reducible show CallK _ _ 16 _ _ _ _); refine CallK.lit [] h16 c16 ⟨⟨rfl, rfl, trivial⟩, trivial⟩ rfl rfl ?_)
      | ((with_reducible show CallK _ _ 17 _ _ _ _); refine CallK.lit [] h17 c17 ⟨⟨rfl, rfl, trivial⟩, trivial⟩ rfl rfl ?_)) <;> with_reducible refine wK ?_)
    | ((with_reducible show (_ ∧ _) ∧ _ ∧ _); (refine eK ?_ ?_ <;> with_reducible repeat' (first | exact trivial | (show _ ∧ _; refine aK ?_ ?_)))))
      all_goals rfl
    | true =>
      rw [hr] at h17
      have hpos : 1 ≤ f.nodes.length := by
        have h0 := hr
        unfold rightF headOK at h0
        simp only [Bool.and_eq_true, decide_eq_true_eq] at h0
        exact h0.1.1.1.2
      obtain ⟨l, m⟩ := f
      have R : RF l m := rf_iff.1 hr
      simp only at hpos
      have h60 : l.length ≤ 60 := by
        have := hsh; rw [short_eq] at this; simp only [Bool.and_eq_true, decide_eq_true_eq] at this; exact this.1
      have hlm : (l.map oNode).length = l.length := List.length_map ..
      have head : ∀ (P : Prop), (s.size ≤ 300 → v.size ≤ 300 → P) → (¬ s.size ≤ 300 → P) → (s.size ≤ 300 → ¬ v.size ≤ 300 → P) → P := fun P h1 h2 h3 => by
        by_cases a1 : s.size ≤ 300
        · by_cases a2 : v.size ≤ 300
          · exact h1 a1 a2
          · exact h3 a1 a2
        · exact h2 a1
      refine head _ (fun hs3 hv3 => ?_) (fun hs3 => ?_) (fun hs3 hv3 => ?_)
      rotate_left
      · have hd := eq_false (show ¬ (s.size : Int) ≤ 300 by omega)
        refine FnOK.startC (rvs := [.tmp 8]) G G_good Tryz.func13 rfl Tryz.ntmps13 rfl rfl ?_; with_reducible refine wD ?_
        (have fct := And.intro hlm (hd); (repeat' (first
    | refine gF ?_
    | ((first
      | ((with_reducible show CallK _ _ 48 _ _ _ _); refine CallK.lit [] h48 c48 trivial rfl rfl ?_)
      | ((with_reducible show CallK _ _ 16 _ _ _ _); refine CallK.lit [] h16 c16 ⟨⟨rfl, rfl, trivial⟩, trivial⟩ rfl rfl ?_)
      | ((with_reducible show CallK _ _ 17 _ _ _ _); refine CallK.lit [] h17 c17 ⟨⟨rfl, rfl, trivial⟩, trivial⟩ rfl rfl ?_)) <;> with_reducible refine wK ?_)
    | ((with_reducible show (_ ∧ _) ∧ _ ∧ _); (refine eK ?_ ?_ <;> with_reducible repeat' (first | exact trivial | (show _ ∧ _; refine aK ?_ ?_)))))); all_goals clear fct)
        all_goals first | rfl | trace_state
      · have hd0 := eq_true (show (s.size : Int) ≤ 300 by omega)
        have hd := eq_false (show ¬ (v.size : Int) ≤ 300 by omega)
        refine FnOK.startC (rvs := [.tmp 8]) G G_good Tryz.func13 rfl Tryz.ntmps13 rfl rfl ?_; with_reducible refine wD ?_
        (have fct := And.intro hlm (And.intro hd0 (hd)); (repeat' (first
    | refine gF ?_
    | ((first
      | ((with_reducible show CallK _ _ 48 _ _ _ _); refine CallK.lit [] h48 c48 trivial rfl rfl ?_)
      | ((with_reducible show CallK _ _ 16 _ _ _ _); refine CallK.lit [] h16 c16 ⟨⟨rfl, rfl, trivial⟩, trivial⟩ rfl rfl ?_)
      | ((with_reducible show CallK _ _ 17 _ _ _ _); refine CallK.lit [] h17 c17 ⟨⟨rfl, rfl, trivial⟩, trivial⟩ rfl rfl ?_)) <;> with_reducible refine wK ?_)
    | ((with_reducible show (_ ∧ _) ∧ _ ∧ _); (refine eK ?_ ?_ <;> with_reducible repeat' (first | exact trivial | (show _ ∧ _; refine aK ?_ ?_)))))); all_goals clear fct)
        all_goals first | rfl | trace_state
      have hz1 : (300 < (s.size : Int)) = False := eq_false (by omega)
      have hz2 : (300 < (v.size : Int)) = False := eq_false (by omega)
      obtain ⟨i, x, hni, hx, hnx⟩ := node_at (l := l) (n := a % ((l.map oNode).length : Int)) (by rw [hlm]; exact ⟨Int.emod_nonneg _ (by omega), Int.emod_lt_of_pos _ (by omega)⟩)
      have ht := there_get hx
      have h18 := f18_ok ⟨l, m⟩ hs (i : Int) formW noS (by decide)
      have hn18 := noRef_done (setM ⟨l, m⟩ i formW noS).1 (setM ⟨l, m⟩ i formW noS).2.1 (setM ⟨l, m⟩ i formW noS).2.2
      have hb18 := f18_ok ⟨l, m⟩ hs (i : Int) s v (by omega)
      have hnb := noRef_done (setM ⟨l, m⟩ i s v).1 (setM ⟨l, m⟩ i s v).2.1 (setM ⟨l, m⟩ i s v).2.2
      have h50 := f50_ok ⟨l, m⟩ hs
      have htail : ∃ (j : Int) (ns : List NoteM) (b : ForM), FnOK Tryz.prog 18 [] [eFor ⟨l, m⟩, eInt i, eStr s, eStr v] [] (.tup [eFor b, eNs ns, eInt j]) ∧ ((j = 0) = False ∨ ∃ (nt : NoteM), j = 0 ∧ ns = [nt] ∧
          ((nt.name = (⟨#[102, 111, 114, 109]⟩ : ByteArray)) = True ∨ ((nt.name = (⟨#[102, 111, 114, 109]⟩ : ByteArray)) = False ∧ (nt.name = (⟨#[105, 100]⟩ : ByteArray)) = True) ∨ ((nt.name = (⟨#[102, 111, 114, 109]⟩ : ByteArray)) = False ∧ (nt.name = (⟨#[105, 100]⟩ : ByteArray)) = False ∧ FnOK Tryz.prog 50 [] [eFor b] [] (eInts (allF ⟨l, m⟩))))) := by
        by_cases he : (setM ⟨l, m⟩ i s v).2.2 = 0
        · obtain ⟨hk1, h01, e1, h21⟩ := set_right R ht he
          have hnotes : (setM ⟨l, m⟩ i s v).2.1 = [chNote x i s (setA x.attrs s v).1] := by
            rw [e1]; unfold changeM changeN
            dsimp only
            rw [nd_get hx] at h01 ⊢
            rw [if_pos (.inr (set_found h01))]
          refine ⟨_, _, _, hb18, .inr ⟨_, he, hnotes, ?_⟩⟩
          show ((lowS s = (⟨#[102, 111, 114, 109]⟩ : ByteArray)) = True ∨ ((lowS s = (⟨#[102, 111, 114, 109]⟩ : ByteArray)) = False ∧ (lowS s = (⟨#[105, 100]⟩ : ByteArray)) = True) ∨ ((lowS s = (⟨#[102, 111, 114, 109]⟩ : ByteArray)) = False ∧ (lowS s = (⟨#[105, 100]⟩ : ByteArray)) = False ∧ _))
          by_cases g1 : lowS s = formW
          · exact .inl (eq_true g1)
          by_cases g2 : lowS s = idW
          · exact .inr (.inl ⟨eq_false g1, eq_true g2⟩)
          refine .inr (.inr ⟨eq_false g1, eq_false g2, ?_⟩)
          have ho := fun k hk => set_owner R ht he g1 g2 (k := k) hk
          have hnodes : (setM ⟨l, m⟩ i s v).1 = ⟨attL l i (setA (nd l i).attrs s v).1, m⟩ := by rw [e1]; rfl
          rw [hnodes] at ho ⊢
          have R1 := att_right R ht hk1 h21
          have hs1 : SmallN (attL l i (setA (nd l i).attrs s v).1) := rf_small R1 (by rw [len_att]; exact h60)
          have h50 := f50_ok ⟨attL l i (setA (nd l i).attrs s v).1, m⟩ hs1
          rwa [all_owners R R1 (len_att ..) ho] at h50
        · exact ⟨_, _, _, hb18, .inl (eq_false he)⟩
      clear hb18 hnb
      obtain ⟨j, ns, ⟨lb, mb⟩, hb18, htail⟩ := htail
      have hnb := noRef_done ⟨lb, mb⟩ ns j
      have h25 : FnOK Tryz.prog 25 [] [eInts (allF ⟨l, m⟩), eInts (allF ⟨l, m⟩)] [] (eBool true) := by
        have h := f25_ok (allF ⟨l, m⟩) (allF ⟨l, m⟩) (by
          unfold allF; rw [if_pos hr, ownTo_len]; show l.length ≤ 100000; omega)
        rwa [decide_eq_true rfl] at h
      by_cases he : (setM ⟨l, m⟩ i formW noS).2.2 = 0
      · obtain ⟨o1, u2, o2, Rg, Rh, hlh, hway⟩ := form_empty R ht he
        have hset := (set_right R ht he).2.2.1
        have hlg : (setM ⟨l, m⟩ i formW noS).1.nodes.length = l.length := by rw [hset]; exact len_att ..
        have hmg : (setM ⟨l, m⟩ i formW noS).1.most = m := by rw [hset]; rfl
        have hmh := unset_most (setM ⟨l, m⟩ i formW noS).1 i formW
        have h24 := fun hs' => f24_ok (setM ⟨l, m⟩ i formW noS).1 hs' (i : Int) formW (by decide)
        have hn24 := noRef_done (unsetM (setM ⟨l, m⟩ i formW noS).1 i formW).1 (unsetM (setM ⟨l, m⟩ i formW noS).1 i formW).2.1 (unsetM (setM ⟨l, m⟩ i formW noS).1 i formW).2.2
        rw [he] at h18 hn18
        rw [u2] at h24 hn24
        generalize (unsetM (setM ⟨l, m⟩ i formW noS).1 i formW).2.1 = nh at *
        generalize (unsetM (setM ⟨l, m⟩ i formW noS).1 i formW).1 = h at *
        generalize (setM ⟨l, m⟩ i formW noS).2.1 = ng at *
        generalize (setM ⟨l, m⟩ i formW noS).1 = g at *
        obtain ⟨lg, mg⟩ := g
        obtain ⟨lh, mh⟩ := h
        simp only at o1 o2 Rg Rh hlh hway hlg hmg hmh h24 hn24 h18 hn18
        subst hmg
        subst hmh
        have hsg : SmallN lg := rf_small Rg (by rw [hlg]; exact h60)
        have hsh' : SmallN lh := rf_small Rh (by rw [hlh]; exact h60)
        have h24 := h24 hsg
        have tg : thereN lg i = true := by rw [there_len hlg]; exact ht
        have th : thereN lh i = true := by rw [there_len hlh]; exact ht
        have rg : rightF ⟨lg, mh⟩ = true := rf_iff.2 Rg
        have rh : rightF ⟨lh, mh⟩ = true := rf_iff.2 Rh
        have h49g := f49_ok ⟨lg, mh⟩ hsg i
        have h49h := f49_ok ⟨lh, mh⟩ hsh' i
        have h35 := f35_ok ⟨l, mh⟩ hs i
        rw [show ownF ⟨lg, mh⟩ i = (if conN l i = true then -1 else nearN l i) by unfold ownF; rw [rg, tg]; exact o1] at h49g
        rw [show ownF ⟨lh, mh⟩ i = nearN l i by unfold ownF; rw [rh, th]; exact o2] at h49h
        rw [show conF ⟨l, mh⟩ i = conN l i by unfold conF conN; rw [hr, ht]; rfl] at h35
        have h20 : nearN l i ≠ -1 → FnOK Tryz.prog 20 [] [eFor ⟨lh, mh⟩, eInt (nearN l i), eInt i] [] (eBool true) := fun hne => by
          obtain ⟨w1, w2⟩ := (near_in R ht).resolve_left hne
          have h := f20_ok ⟨lh, mh⟩ hsh' rh (nearN l i) i (by rw [there_len hlh]; exact w2) th
          rwa [show holdsN lh (nearN l i) i = true by unfold holdsN; rw [hway i ht]; exact decide_eq_true w1] at h
        generalize nearN l i = q at h49g h49h h20
        generalize conN l i = cc at h49g h35
        clear o1 o2 hway hset
        cases cc with
        | true =>
          rw [if_pos rfl] at h49g
          by_cases hq : q = -1
          · have hq' := eq_true hq
            rcases htail with hj | ⟨nt, rfl, rfl, hnn⟩
            · refine FnOK.startC (rvs := [.tmp 8]) G G_good Tryz.func13 rfl Tryz.ntmps13 rfl rfl ?_; with_reducible refine wD ?_
              (have fct := And.intro hlm (And.intro hz1 (And.intro hz2 (And.intro hq' (hj)))); (repeat' (first
    | refine gF ?_
    | ((first
      | ((with_reducible show CallK _ _ 48 _ _ _ _); refine CallK.lit [] h48 c48 trivial rfl rfl ?_)
      | ((with_reducible show CallK _ _ 16 _ _ _ _); refine CallK.lit [] h16 c16 ⟨⟨rfl, rfl, trivial⟩, trivial⟩ rfl rfl ?_)
      | ((with_reducible show CallK _ _ 17 _ _ _ _); refine CallK.lit [] h17 c17 ⟨⟨rfl, rfl, trivial⟩, trivial⟩ rfl rfl ?_)
      | (refine ConvK.int (by kernel_rfl) (by kernel_rfl) (wrap_u8 ha) ?_)
      | (refine HandK.rem ha.1 (by (try simp only [castN]); omega) rfl rfl rfl rfl ?_)
      | ((with_reducible show CallK _ _ 18 _ _ _ _); first | (rw [hni]; refine CallK.val [] h18 c18 ⟨⟨rfl, rfl, trivial⟩, rfl, rfl, rfl, trivial⟩ rfl rfl hn18 ?_) | (refine CallK.val [] hb18 c18 ⟨⟨rfl, rfl, trivial⟩, rfl, rfl, rfl, trivial⟩ rfl rfl hnb ?_))
      | ((with_reducible show CallK _ _ 24 _ _ _ _); refine CallK.val [] h24 c24 ⟨⟨rfl, rfl, trivial⟩, rfl, rfl, trivial⟩ rfl rfl hn24 ?_)
      | ((with_reducible show CallK _ _ 35 _ _ _ _); refine CallK.lit [] h35 c35 ⟨⟨rfl, rfl, trivial⟩, rfl, trivial⟩ rfl rfl ?_)
      | ((with_reducible show CallK _ _ 49 _ _ _ _); first | (refine CallK.lit [] h49g c49 ⟨⟨rfl, rfl, trivial⟩, rfl, trivial⟩ rfl rfl ?_) | (refine CallK.lit [] h49h c49 ⟨⟨rfl, rfl, trivial⟩, rfl, trivial⟩ rfl rfl ?_))
      | ((with_reducible show DrawK _ _ _ _); refine dK ?_)) <;> with_reducible refine wK ?_)
    | ((with_reducible show (_ ∧ _) ∧ _ ∧ _); (refine eK ?_ ?_ <;> with_reducible repeat' (first | exact trivial | (show _ ∧ _; refine aK ?_ ?_)))))); all_goals clear fct)
              all_goals first | rfl | (simp; done) | trace_state
            · obtain ⟨n1, n2, n3, n4, n5, n6, n7, n8, n9⟩ := nt
              dsimp only at hnn
              rcases hnn with hnn | ⟨hnn, hnn2⟩ | ⟨hnn, hnn2, h50b⟩
              · refine FnOK.startC (rvs := [.tmp 8]) G G_good Tryz.func13 rfl Tryz.ntmps13 rfl rfl ?_; with_reducible refine wD ?_
                (have fct := And.intro hlm (And.intro hz1 (And.intro hz2 (And.intro hq' (hnn)))); (repeat' (first
    | refine gF ?_
    | ((first
      | ((with_reducible show CallK _ _ 48 _ _ _ _); refine CallK.lit [] h48 c48 trivial rfl rfl ?_)
      | ((with_reducible show CallK _ _ 16 _ _ _ _); refine CallK.lit [] h16 c16 ⟨⟨rfl, rfl, trivial⟩, trivial⟩ rfl rfl ?_)
      | ((with_reducible show CallK _ _ 17 _ _ _ _); refine CallK.lit [] h17 c17 ⟨⟨rfl, rfl, trivial⟩, trivial⟩ rfl rfl ?_)
      | (refine ConvK.int (by kernel_rfl) (by kernel_rfl) (wrap_u8 ha) ?_)
      | (refine HandK.rem ha.1 (by (try simp only [castN]); omega) rfl rfl rfl rfl ?_)
      | ((with_reducible show CallK _ _ 18 _ _ _ _); first | (rw [hni]; refine CallK.val [] h18 c18 ⟨⟨rfl, rfl, trivial⟩, rfl, rfl, rfl, trivial⟩ rfl rfl hn18 ?_) | (refine CallK.val [] hb18 c18 ⟨⟨rfl, rfl, trivial⟩, rfl, rfl, rfl, trivial⟩ rfl rfl hnb ?_))
      | ((with_reducible show CallK _ _ 24 _ _ _ _); refine CallK.val [] h24 c24 ⟨⟨rfl, rfl, trivial⟩, rfl, rfl, trivial⟩ rfl rfl hn24 ?_)
      | ((with_reducible show CallK _ _ 35 _ _ _ _); refine CallK.lit [] h35 c35 ⟨⟨rfl, rfl, trivial⟩, rfl, trivial⟩ rfl rfl ?_)
      | ((with_reducible show CallK _ _ 49 _ _ _ _); first | (refine CallK.lit [] h49g c49 ⟨⟨rfl, rfl, trivial⟩, rfl, trivial⟩ rfl rfl ?_) | (refine CallK.lit [] h49h c49 ⟨⟨rfl, rfl, trivial⟩, rfl, trivial⟩ rfl rfl ?_))
      | (refine IdxK.mk 0 (eNote ⟨n1, n2, n3, n4, n5, n6, n7, n8, n9⟩) rfl rfl ?_)
      | ((with_reducible show DrawK _ _ _ _); refine dK ?_)) <;> with_reducible refine wK ?_)
    | ((with_reducible show (_ ∧ _) ∧ _ ∧ _); (refine eK ?_ ?_ <;> with_reducible repeat' (first | exact trivial | (show _ ∧ _; refine aK ?_ ?_)))))); all_goals clear fct)
                all_goals first | rfl | (simp; done) | trace_state
              · refine FnOK.startC (rvs := [.tmp 8]) G G_good Tryz.func13 rfl Tryz.ntmps13 rfl rfl ?_; with_reducible refine wD ?_
                (have fct := And.intro hlm (And.intro hz1 (And.intro hz2 (And.intro hq' (And.intro hnn (hnn2))))); (repeat' (first
    | refine gF ?_
    | ((first
      | ((with_reducible show CallK _ _ 48 _ _ _ _); refine CallK.lit [] h48 c48 trivial rfl rfl ?_)
      | ((with_reducible show CallK _ _ 16 _ _ _ _); refine CallK.lit [] h16 c16 ⟨⟨rfl, rfl, trivial⟩, trivial⟩ rfl rfl ?_)
      | ((with_reducible show CallK _ _ 17 _ _ _ _); refine CallK.lit [] h17 c17 ⟨⟨rfl, rfl, trivial⟩, trivial⟩ rfl rfl ?_)
      | (refine ConvK.int (by kernel_rfl) (by kernel_rfl) (wrap_u8 ha) ?_)
      | (refine HandK.rem ha.1 (by (try simp only [castN]); omega) rfl rfl rfl rfl ?_)
      | ((with_reducible show CallK _ _ 18 _ _ _ _); first | (rw [hni]; refine CallK.val [] h18 c18 ⟨⟨rfl, rfl, trivial⟩, rfl, rfl, rfl, trivial⟩ rfl rfl hn18 ?_) | (refine CallK.val [] hb18 c18 ⟨⟨rfl, rfl, trivial⟩, rfl, rfl, rfl, trivial⟩ rfl rfl hnb ?_))
      | ((with_reducible show CallK _ _ 24 _ _ _ _); refine CallK.val [] h24 c24 ⟨⟨rfl, rfl, trivial⟩, rfl, rfl, trivial⟩ rfl rfl hn24 ?_)
      | ((with_reducible show CallK _ _ 35 _ _ _ _); refine CallK.lit [] h35 c35 ⟨⟨rfl, rfl, trivial⟩, rfl, trivial⟩ rfl rfl ?_)
      | ((with_reducible show CallK _ _ 49 _ _ _ _); first | (refine CallK.lit [] h49g c49 ⟨⟨rfl, rfl, trivial⟩, rfl, trivial⟩ rfl rfl ?_) | (refine CallK.lit [] h49h c49 ⟨⟨rfl, rfl, trivial⟩, rfl, trivial⟩ rfl rfl ?_))
      | (refine IdxK.mk 0 (eNote ⟨n1, n2, n3, n4, n5, n6, n7, n8, n9⟩) rfl rfl ?_)
      | ((with_reducible show DrawK _ _ _ _); refine dK ?_)) <;> with_reducible refine wK ?_)
    | ((with_reducible show (_ ∧ _) ∧ _ ∧ _); (refine eK ?_ ?_ <;> with_reducible repeat' (first | exact trivial | (show _ ∧ _; refine aK ?_ ?_)))))); all_goals clear fct)
                all_goals first | rfl | (simp; done) | trace_state
              · refine FnOK.startC (rvs := [.tmp 8]) G G_good Tryz.func13 rfl Tryz.ntmps13 rfl rfl ?_; with_reducible refine wD ?_
                (have fct := And.intro hlm (And.intro hz1 (And.intro hz2 (And.intro hq' (And.intro hnn (hnn2))))); (repeat' (first
    | refine gF ?_
    | ((first
      | ((with_reducible show CallK _ _ 48 _ _ _ _); refine CallK.lit [] h48 c48 trivial rfl rfl ?_)
      | ((with_reducible show CallK _ _ 16 _ _ _ _); refine CallK.lit [] h16 c16 ⟨⟨rfl, rfl, trivial⟩, trivial⟩ rfl rfl ?_)
      | ((with_reducible show CallK _ _ 17 _ _ _ _); refine CallK.lit [] h17 c17 ⟨⟨rfl, rfl, trivial⟩, trivial⟩ rfl rfl ?_)
      | (refine ConvK.int (by kernel_rfl) (by kernel_rfl) (wrap_u8 ha) ?_)
      | (refine HandK.rem ha.1 (by (try simp only [castN]); omega) rfl rfl rfl rfl ?_)
      | ((with_reducible show CallK _ _ 18 _ _ _ _); first | (rw [hni]; refine CallK.val [] h18 c18 ⟨⟨rfl, rfl, trivial⟩, rfl, rfl, rfl, trivial⟩ rfl rfl hn18 ?_) | (refine CallK.val [] hb18 c18 ⟨⟨rfl, rfl, trivial⟩, rfl, rfl, rfl, trivial⟩ rfl rfl hnb ?_))
      | ((with_reducible show CallK _ _ 24 _ _ _ _); refine CallK.val [] h24 c24 ⟨⟨rfl, rfl, trivial⟩, rfl, rfl, trivial⟩ rfl rfl hn24 ?_)
      | ((with_reducible show CallK _ _ 35 _ _ _ _); refine CallK.lit [] h35 c35 ⟨⟨rfl, rfl, trivial⟩, rfl, trivial⟩ rfl rfl ?_)
      | ((with_reducible show CallK _ _ 49 _ _ _ _); first | (refine CallK.lit [] h49g c49 ⟨⟨rfl, rfl, trivial⟩, rfl, trivial⟩ rfl rfl ?_) | (refine CallK.lit [] h49h c49 ⟨⟨rfl, rfl, trivial⟩, rfl, trivial⟩ rfl rfl ?_))
      | (refine IdxK.mk 0 (eNote ⟨n1, n2, n3, n4, n5, n6, n7, n8, n9⟩) rfl rfl ?_)
      | ((with_reducible show CallK _ _ 50 _ _ _ _); first | (refine CallK.val [] h50 c50 ⟨⟨rfl, rfl, trivial⟩, trivial⟩ rfl rfl rfl ?_) | (refine CallK.val [] h50b c50 ⟨⟨rfl, rfl, trivial⟩, trivial⟩ rfl rfl rfl ?_))
      | ((with_reducible show CallK _ _ 25 _ _ _ _); refine CallK.lit [] h25 c25 ⟨rfl, rfl, trivial⟩ rfl rfl ?_)
      | ((with_reducible show DrawK _ _ _ _); refine dK ?_)) <;> with_reducible refine wK ?_)
    | ((with_reducible show (_ ∧ _) ∧ _ ∧ _); (refine eK ?_ ?_ <;> with_reducible repeat' (first | exact trivial | (show _ ∧ _; refine aK ?_ ?_)))))); all_goals clear fct)
                all_goals first | rfl | (simp; done) | trace_state
          · have hq' := eq_false hq
            have h20' := h20 hq
            rcases htail with hj | ⟨nt, rfl, rfl, hnn⟩
            · refine FnOK.startC (rvs := [.tmp 8]) G G_good Tryz.func13 rfl Tryz.ntmps13 rfl rfl ?_; with_reducible refine wD ?_
              (have fct := And.intro hlm (And.intro hz1 (And.intro hz2 (And.intro hq' (hj)))); (repeat' (first
    | refine gF ?_
    | ((first
      | ((with_reducible show CallK _ _ 48 _ _ _ _); refine CallK.lit [] h48 c48 trivial rfl rfl ?_)
      | ((with_reducible show CallK _ _ 16 _ _ _ _); refine CallK.lit [] h16 c16 ⟨⟨rfl, rfl, trivial⟩, trivial⟩ rfl rfl ?_)
      | ((with_reducible show CallK _ _ 17 _ _ _ _); refine CallK.lit [] h17 c17 ⟨⟨rfl, rfl, trivial⟩, trivial⟩ rfl rfl ?_)
      | (refine ConvK.int (by kernel_rfl) (by kernel_rfl) (wrap_u8 ha) ?_)
      | (refine HandK.rem ha.1 (by (try simp only [castN]); omega) rfl rfl rfl rfl ?_)
      | ((with_reducible show CallK _ _ 18 _ _ _ _); first | (rw [hni]; refine CallK.val [] h18 c18 ⟨⟨rfl, rfl, trivial⟩, rfl, rfl, rfl, trivial⟩ rfl rfl hn18 ?_) | (refine CallK.val [] hb18 c18 ⟨⟨rfl, rfl, trivial⟩, rfl, rfl, rfl, trivial⟩ rfl rfl hnb ?_))
      | ((with_reducible show CallK _ _ 24 _ _ _ _); refine CallK.val [] h24 c24 ⟨⟨rfl, rfl, trivial⟩, rfl, rfl, trivial⟩ rfl rfl hn24 ?_)
      | ((with_reducible show CallK _ _ 35 _ _ _ _); refine CallK.lit [] h35 c35 ⟨⟨rfl, rfl, trivial⟩, rfl, trivial⟩ rfl rfl ?_)
      | ((with_reducible show CallK _ _ 49 _ _ _ _); first | (refine CallK.lit [] h49g c49 ⟨⟨rfl, rfl, trivial⟩, rfl, trivial⟩ rfl rfl ?_) | (refine CallK.lit [] h49h c49 ⟨⟨rfl, rfl, trivial⟩, rfl, trivial⟩ rfl rfl ?_))
      | ((with_reducible show CallK _ _ 20 _ _ _ _); refine CallK.lit [] h20' c20 ⟨⟨rfl, rfl, trivial⟩, rfl, rfl, trivial⟩ rfl rfl ?_)
      | ((with_reducible show DrawK _ _ _ _); refine dK ?_)) <;> with_reducible refine wK ?_)
    | ((with_reducible show (_ ∧ _) ∧ _ ∧ _); (refine eK ?_ ?_ <;> with_reducible repeat' (first | exact trivial | (show _ ∧ _; refine aK ?_ ?_)))))); all_goals clear fct)
              all_goals first | rfl | (simp; done) | trace_state
            · obtain ⟨n1, n2, n3, n4, n5, n6, n7, n8, n9⟩ := nt
              dsimp only at hnn
              rcases hnn with hnn | ⟨hnn, hnn2⟩ | ⟨hnn, hnn2, h50b⟩
              · refine FnOK.startC (rvs := [.tmp 8]) G G_good Tryz.func13 rfl Tryz.ntmps13 rfl rfl ?_; with_reducible refine wD ?_
                (have fct := And.intro hlm (And.intro hz1 (And.intro hz2 (And.intro hq' (hnn)))); (repeat' (first
    | refine gF ?_
    | ((first
      | ((with_reducible show CallK _ _ 48 _ _ _ _); refine CallK.lit [] h48 c48 trivial rfl rfl ?_)
      | ((with_reducible show CallK _ _ 16 _ _ _ _); refine CallK.lit [] h16 c16 ⟨⟨rfl, rfl, trivial⟩, trivial⟩ rfl rfl ?_)
      | ((with_reducible show CallK _ _ 17 _ _ _ _); refine CallK.lit [] h17 c17 ⟨⟨rfl, rfl, trivial⟩, trivial⟩ rfl rfl ?_)
      | (refine ConvK.int (by kernel_rfl) (by kernel_rfl) (wrap_u8 ha) ?_)
      | (refine HandK.rem ha.1 (by (try simp only [castN]); omega) rfl rfl rfl rfl ?_)
      | ((with_reducible show CallK _ _ 18 _ _ _ _); first | (rw [hni]; refine CallK.val [] h18 c18 ⟨⟨rfl, rfl, trivial⟩, rfl, rfl, rfl, trivial⟩ rfl rfl hn18 ?_) | (refine CallK.val [] hb18 c18 ⟨⟨rfl, rfl, trivial⟩, rfl, rfl, rfl, trivial⟩ rfl rfl hnb ?_))
      | ((with_reducible show CallK _ _ 24 _ _ _ _); refine CallK.val [] h24 c24 ⟨⟨rfl, rfl, trivial⟩, rfl, rfl, trivial⟩ rfl rfl hn24 ?_)
      | ((with_reducible show CallK _ _ 35 _ _ _ _); refine CallK.lit [] h35 c35 ⟨⟨rfl, rfl, trivial⟩, rfl, trivial⟩ rfl rfl ?_)
      | ((with_reducible show CallK _ _ 49 _ _ _ _); first | (refine CallK.lit [] h49g c49 ⟨⟨rfl, rfl, trivial⟩, rfl, trivial⟩ rfl rfl ?_) | (refine CallK.lit [] h49h c49 ⟨⟨rfl, rfl, trivial⟩, rfl, trivial⟩ rfl rfl ?_))
      | ((with_reducible show CallK _ _ 20 _ _ _ _); refine CallK.lit [] h20' c20 ⟨⟨rfl, rfl, trivial⟩, rfl, rfl, trivial⟩ rfl rfl ?_)
      | (refine IdxK.mk 0 (eNote ⟨n1, n2, n3, n4, n5, n6, n7, n8, n9⟩) rfl rfl ?_)
      | ((with_reducible show DrawK _ _ _ _); refine dK ?_)) <;> with_reducible refine wK ?_)
    | ((with_reducible show (_ ∧ _) ∧ _ ∧ _); (refine eK ?_ ?_ <;> with_reducible repeat' (first | exact trivial | (show _ ∧ _; refine aK ?_ ?_)))))); all_goals clear fct)
                all_goals first | rfl | (simp; done) | trace_state
              · refine FnOK.startC (rvs := [.tmp 8]) G G_good Tryz.func13 rfl Tryz.ntmps13 rfl rfl ?_; with_reducible refine wD ?_
                (have fct := And.intro hlm (And.intro hz1 (And.intro hz2 (And.intro hq' (And.intro hnn (hnn2))))); (repeat' (first
    | refine gF ?_
    | ((first
      | ((with_reducible show CallK _ _ 48 _ _ _ _); refine CallK.lit [] h48 c48 trivial rfl rfl ?_)
      | ((with_reducible show CallK _ _ 16 _ _ _ _); refine CallK.lit [] h16 c16 ⟨⟨rfl, rfl, trivial⟩, trivial⟩ rfl rfl ?_)
      | ((with_reducible show CallK _ _ 17 _ _ _ _); refine CallK.lit [] h17 c17 ⟨⟨rfl, rfl, trivial⟩, trivial⟩ rfl rfl ?_)
      | (refine ConvK.int (by kernel_rfl) (by kernel_rfl) (wrap_u8 ha) ?_)
      | (refine HandK.rem ha.1 (by (try simp only [castN]); omega) rfl rfl rfl rfl ?_)
      | ((with_reducible show CallK _ _ 18 _ _ _ _); first | (rw [hni]; refine CallK.val [] h18 c18 ⟨⟨rfl, rfl, trivial⟩, rfl, rfl, rfl, trivial⟩ rfl rfl hn18 ?_) | (refine CallK.val [] hb18 c18 ⟨⟨rfl, rfl, trivial⟩, rfl, rfl, rfl, trivial⟩ rfl rfl hnb ?_))
      | ((with_reducible show CallK _ _ 24 _ _ _ _); refine CallK.val [] h24 c24 ⟨⟨rfl, rfl, trivial⟩, rfl, rfl, trivial⟩ rfl rfl hn24 ?_)
      | ((with_reducible show CallK _ _ 35 _ _ _ _); refine CallK.lit [] h35 c35 ⟨⟨rfl, rfl, trivial⟩, rfl, trivial⟩ rfl rfl ?_)
      | ((with_reducible show CallK _ _ 49 _ _ _ _); first | (refine CallK.lit [] h49g c49 ⟨⟨rfl, rfl, trivial⟩, rfl, trivial⟩ rfl rfl ?_) | (refine CallK.lit [] h49h c49 ⟨⟨rfl, rfl, trivial⟩, rfl, trivial⟩ rfl rfl ?_))
      | ((with_reducible show CallK _ _ 20 _ _ _ _); refine CallK.lit [] h20' c20 ⟨⟨rfl, rfl, trivial⟩, rfl, rfl, trivial⟩ rfl rfl ?_)
      | (refine IdxK.mk 0 (eNote ⟨n1, n2, n3, n4, n5, n6, n7, n8, n9⟩) rfl rfl ?_)
      | ((with_reducible show DrawK _ _ _ _); refine dK ?_)) <;> with_reducible refine wK ?_)
    | ((with_reducible show (_ ∧ _) ∧ _ ∧ _); (refine eK ?_ ?_ <;> with_reducible repeat' (first | exact trivial | (show _ ∧ _; refine aK ?_ ?_)))))); all_goals clear fct)
                all_goals first | rfl | (simp; done) | trace_state
              · refine FnOK.startC (rvs := [.tmp 8]) G G_good Tryz.func13 rfl Tryz.ntmps13 rfl rfl ?_; with_reducible refine wD ?_
                (have fct := And.intro hlm (And.intro hz1 (And.intro hz2 (And.intro hq' (And.intro hnn (hnn2))))); (repeat' (first
    | refine gF ?_
    | ((first
      | ((with_reducible show CallK _ _ 48 _ _ _ _); refine CallK.lit [] h48 c48 trivial rfl rfl ?_)
      | ((with_reducible show CallK _ _ 16 _ _ _ _); refine CallK.lit [] h16 c16 ⟨⟨rfl, rfl, trivial⟩, trivial⟩ rfl rfl ?_)
      | ((with_reducible show CallK _ _ 17 _ _ _ _); refine CallK.lit [] h17 c17 ⟨⟨rfl, rfl, trivial⟩, trivial⟩ rfl rfl ?_)
      | (refine ConvK.int (by kernel_rfl) (by kernel_rfl) (wrap_u8 ha) ?_)
      | (refine HandK.rem ha.1 (by (try simp only [castN]); omega) rfl rfl rfl rfl ?_)
      | ((with_reducible show CallK _ _ 18 _ _ _ _); first | (rw [hni]; refine CallK.val [] h18 c18 ⟨⟨rfl, rfl, trivial⟩, rfl, rfl, rfl, trivial⟩ rfl rfl hn18 ?_) | (refine CallK.val [] hb18 c18 ⟨⟨rfl, rfl, trivial⟩, rfl, rfl, rfl, trivial⟩ rfl rfl hnb ?_))
      | ((with_reducible show CallK _ _ 24 _ _ _ _); refine CallK.val [] h24 c24 ⟨⟨rfl, rfl, trivial⟩, rfl, rfl, trivial⟩ rfl rfl hn24 ?_)
      | ((with_reducible show CallK _ _ 35 _ _ _ _); refine CallK.lit [] h35 c35 ⟨⟨rfl, rfl, trivial⟩, rfl, trivial⟩ rfl rfl ?_)
      | ((with_reducible show CallK _ _ 49 _ _ _ _); first | (refine CallK.lit [] h49g c49 ⟨⟨rfl, rfl, trivial⟩, rfl, trivial⟩ rfl rfl ?_) | (refine CallK.lit [] h49h c49 ⟨⟨rfl, rfl, trivial⟩, rfl, trivial⟩ rfl rfl ?_))
      | ((with_reducible show CallK _ _ 20 _ _ _ _); refine CallK.lit [] h20' c20 ⟨⟨rfl, rfl, trivial⟩, rfl, rfl, trivial⟩ rfl rfl ?_)
      | (refine IdxK.mk 0 (eNote ⟨n1, n2, n3, n4, n5, n6, n7, n8, n9⟩) rfl rfl ?_)
      | ((with_reducible show CallK _ _ 50 _ _ _ _); first | (refine CallK.val [] h50 c50 ⟨⟨rfl, rfl, trivial⟩, trivial⟩ rfl rfl rfl ?_) | (refine CallK.val [] h50b c50 ⟨⟨rfl, rfl, trivial⟩, trivial⟩ rfl rfl rfl ?_))
      | ((with_reducible show CallK _ _ 25 _ _ _ _); refine CallK.lit [] h25 c25 ⟨rfl, rfl, trivial⟩ rfl rfl ?_)
      | ((with_reducible show DrawK _ _ _ _); refine dK ?_)) <;> with_reducible refine wK ?_)
    | ((with_reducible show (_ ∧ _) ∧ _ ∧ _); (refine eK ?_ ?_ <;> with_reducible repeat' (first | exact trivial | (show _ ∧ _; refine aK ?_ ?_)))))); all_goals clear fct)
                all_goals first | rfl | (simp; done) | trace_state
        | false =>
          rw [if_neg (by decide)] at h49g
          by_cases hq : q = -1
          · have hq' := eq_true hq
            rcases htail with hj | ⟨nt, rfl, rfl, hnn⟩
            · refine FnOK.startC (rvs := [.tmp 8]) G G_good Tryz.func13 rfl Tryz.ntmps13 rfl rfl ?_; with_reducible refine wD ?_
              (have fct := And.intro hlm (And.intro hz1 (And.intro hz2 (And.intro hq' (hj)))); (repeat' (first
    | refine gF ?_
    | ((first
      | ((with_reducible show CallK _ _ 48 _ _ _ _); refine CallK.lit [] h48 c48 trivial rfl rfl ?_)
      | ((with_reducible show CallK _ _ 16 _ _ _ _); refine CallK.lit [] h16 c16 ⟨⟨rfl, rfl, trivial⟩, trivial⟩ rfl rfl ?_)
      | ((with_reducible show CallK _ _ 17 _ _ _ _); refine CallK.lit [] h17 c17 ⟨⟨rfl, rfl, trivial⟩, trivial⟩ rfl rfl ?_)
      | (refine ConvK.int (by kernel_rfl) (by kernel_rfl) (wrap_u8 ha) ?_)
      | (refine HandK.rem ha.1 (by (try simp only [castN]); omega) rfl rfl rfl rfl ?_)
      | ((with_reducible show CallK _ _ 18 _ _ _ _); first | (rw [hni]; refine CallK.val [] h18 c18 ⟨⟨rfl, rfl, trivial⟩, rfl, rfl, rfl, trivial⟩ rfl rfl hn18 ?_) | (refine CallK.val [] hb18 c18 ⟨⟨rfl, rfl, trivial⟩, rfl, rfl, rfl, trivial⟩ rfl rfl hnb ?_))
      | ((with_reducible show CallK _ _ 24 _ _ _ _); refine CallK.val [] h24 c24 ⟨⟨rfl, rfl, trivial⟩, rfl, rfl, trivial⟩ rfl rfl hn24 ?_)
      | ((with_reducible show CallK _ _ 35 _ _ _ _); refine CallK.lit [] h35 c35 ⟨⟨rfl, rfl, trivial⟩, rfl, trivial⟩ rfl rfl ?_)
      | ((with_reducible show CallK _ _ 49 _ _ _ _); first | (refine CallK.lit [] h49g c49 ⟨⟨rfl, rfl, trivial⟩, rfl, trivial⟩ rfl rfl ?_) | (refine CallK.lit [] h49h c49 ⟨⟨rfl, rfl, trivial⟩, rfl, trivial⟩ rfl rfl ?_))
      | ((with_reducible show DrawK _ _ _ _); refine dK ?_)) <;> with_reducible refine wK ?_)
    | ((with_reducible show (_ ∧ _) ∧ _ ∧ _); (refine eK ?_ ?_ <;> with_reducible repeat' (first | exact trivial | (show _ ∧ _; refine aK ?_ ?_)))))); all_goals clear fct)
              all_goals first | rfl | (simp; done) | trace_state
            · obtain ⟨n1, n2, n3, n4, n5, n6, n7, n8, n9⟩ := nt
              dsimp only at hnn
              rcases hnn with hnn | ⟨hnn, hnn2⟩ | ⟨hnn, hnn2, h50b⟩
              · refine FnOK.startC (rvs := [.tmp 8]) G G_good Tryz.func13 rfl Tryz.ntmps13 rfl rfl ?_; with_reducible refine wD ?_
                (have fct := And.intro hlm (And.intro hz1 (And.intro hz2 (And.intro hq' (hnn)))); (repeat' (first
    | refine gF ?_
    | ((first
      | ((with_reducible show CallK _ _ 48 _ _ _ _); refine CallK.lit [] h48 c48 trivial rfl rfl ?_)
      | ((with_reducible show CallK _ _ 16 _ _ _ _); refine CallK.lit [] h16 c16 ⟨⟨rfl, rfl, trivial⟩, trivial⟩ rfl rfl ?_)
      | ((with_reducible show CallK _ _ 17 _ _ _ _); refine CallK.lit [] h17 c17 ⟨⟨rfl, rfl, trivial⟩, trivial⟩ rfl rfl ?_)
      | (refine ConvK.int (by kernel_rfl) (by kernel_rfl) (wrap_u8 ha) ?_)
      | (refine HandK.rem ha.1 (by (try simp only [castN]); omega) rfl rfl rfl rfl ?_)
      | ((with_reducible show CallK _ _ 18 _ _ _ _); first | (rw [hni]; refine CallK.val [] h18 c18 ⟨⟨rfl, rfl, trivial⟩, rfl, rfl, rfl, trivial⟩ rfl rfl hn18 ?_) | (refine CallK.val [] hb18 c18 ⟨⟨rfl, rfl, trivial⟩, rfl, rfl, rfl, trivial⟩ rfl rfl hnb ?_))
      | ((with_reducible show CallK _ _ 24 _ _ _ _); refine CallK.val [] h24 c24 ⟨⟨rfl, rfl, trivial⟩, rfl, rfl, trivial⟩ rfl rfl hn24 ?_)
      | ((with_reducible show CallK _ _ 35 _ _ _ _); refine CallK.lit [] h35 c35 ⟨⟨rfl, rfl, trivial⟩, rfl, trivial⟩ rfl rfl ?_)
      | ((with_reducible show CallK _ _ 49 _ _ _ _); first | (refine CallK.lit [] h49g c49 ⟨⟨rfl, rfl, trivial⟩, rfl, trivial⟩ rfl rfl ?_) | (refine CallK.lit [] h49h c49 ⟨⟨rfl, rfl, trivial⟩, rfl, trivial⟩ rfl rfl ?_))
      | (refine IdxK.mk 0 (eNote ⟨n1, n2, n3, n4, n5, n6, n7, n8, n9⟩) rfl rfl ?_)
      | ((with_reducible show DrawK _ _ _ _); refine dK ?_)) <;> with_reducible refine wK ?_)
    | ((with_reducible show (_ ∧ _) ∧ _ ∧ _); (refine eK ?_ ?_ <;> with_reducible repeat' (first | exact trivial | (show _ ∧ _; refine aK ?_ ?_)))))); all_goals clear fct)
                all_goals first | rfl | (simp; done) | trace_state
              · refine FnOK.startC (rvs := [.tmp 8]) G G_good Tryz.func13 rfl Tryz.ntmps13 rfl rfl ?_; with_reducible refine wD ?_
                (have fct := And.intro hlm (And.intro hz1 (And.intro hz2 (And.intro hq' (And.intro hnn (hnn2))))); (repeat' (first
    | refine gF ?_
    | ((first
      | ((with_reducible show CallK _ _ 48 _ _ _ _); refine CallK.lit [] h48 c48 trivial rfl rfl ?_)
      | ((with_reducible show CallK _ _ 16 _ _ _ _); refine CallK.lit [] h16 c16 ⟨⟨rfl, rfl, trivial⟩, trivial⟩ rfl rfl ?_)
      | ((with_reducible show CallK _ _ 17 _ _ _ _); refine CallK.lit [] h17 c17 ⟨⟨rfl, rfl, trivial⟩, trivial⟩ rfl rfl ?_)
      | (refine ConvK.int (by kernel_rfl) (by kernel_rfl) (wrap_u8 ha) ?_)
      | (refine HandK.rem ha.1 (by (try simp only [castN]); omega) rfl rfl rfl rfl ?_)
      | ((with_reducible show CallK _ _ 18 _ _ _ _); first | (rw [hni]; refine CallK.val [] h18 c18 ⟨⟨rfl, rfl, trivial⟩, rfl, rfl, rfl, trivial⟩ rfl rfl hn18 ?_) | (refine CallK.val [] hb18 c18 ⟨⟨rfl, rfl, trivial⟩, rfl, rfl, rfl, trivial⟩ rfl rfl hnb ?_))
      | ((with_reducible show CallK _ _ 24 _ _ _ _); refine CallK.val [] h24 c24 ⟨⟨rfl, rfl, trivial⟩, rfl, rfl, trivial⟩ rfl rfl hn24 ?_)
      | ((with_reducible show CallK _ _ 35 _ _ _ _); refine CallK.lit [] h35 c35 ⟨⟨rfl, rfl, trivial⟩, rfl, trivial⟩ rfl rfl ?_)
      | ((with_reducible show CallK _ _ 49 _ _ _ _); first | (refine CallK.lit [] h49g c49 ⟨⟨rfl, rfl, trivial⟩, rfl, trivial⟩ rfl rfl ?_) | (refine CallK.lit [] h49h c49 ⟨⟨rfl, rfl, trivial⟩, rfl, trivial⟩ rfl rfl ?_))
      | (refine IdxK.mk 0 (eNote ⟨n1, n2, n3, n4, n5, n6, n7, n8, n9⟩) rfl rfl ?_)
      | ((with_reducible show DrawK _ _ _ _); refine dK ?_)) <;> with_reducible refine wK ?_)
    | ((with_reducible show (_ ∧ _) ∧ _ ∧ _); (refine eK ?_ ?_ <;> with_reducible repeat' (first | exact trivial | (show _ ∧ _; refine aK ?_ ?_)))))); all_goals clear fct)
                all_goals first | rfl | (simp; done) | trace_state
              · refine FnOK.startC (rvs := [.tmp 8]) G G_good Tryz.func13 rfl Tryz.ntmps13 rfl rfl ?_; with_reducible refine wD ?_
                (have fct := And.intro hlm (And.intro hz1 (And.intro hz2 (And.intro hq' (And.intro hnn (hnn2))))); (repeat' (first
    | refine gF ?_
    | ((first
      | ((with_reducible show CallK _ _ 48 _ _ _ _); refine CallK.lit [] h48 c48 trivial rfl rfl ?_)
      | ((with_reducible show CallK _ _ 16 _ _ _ _); refine CallK.lit [] h16 c16 ⟨⟨rfl, rfl, trivial⟩, trivial⟩ rfl rfl ?_)
      | ((with_reducible show CallK _ _ 17 _ _ _ _); refine CallK.lit [] h17 c17 ⟨⟨rfl, rfl, trivial⟩, trivial⟩ rfl rfl ?_)
      | (refine ConvK.int (by kernel_rfl) (by kernel_rfl) (wrap_u8 ha) ?_)
      | (refine HandK.rem ha.1 (by (try simp only [castN]); omega) rfl rfl rfl rfl ?_)
      | ((with_reducible show CallK _ _ 18 _ _ _ _); first | (rw [hni]; refine CallK.val [] h18 c18 ⟨⟨rfl, rfl, trivial⟩, rfl, rfl, rfl, trivial⟩ rfl rfl hn18 ?_) | (refine CallK.val [] hb18 c18 ⟨⟨rfl, rfl, trivial⟩, rfl, rfl, rfl, trivial⟩ rfl rfl hnb ?_))
      | ((with_reducible show CallK _ _ 24 _ _ _ _); refine CallK.val [] h24 c24 ⟨⟨rfl, rfl, trivial⟩, rfl, rfl, trivial⟩ rfl rfl hn24 ?_)
      | ((with_reducible show CallK _ _ 35 _ _ _ _); refine CallK.lit [] h35 c35 ⟨⟨rfl, rfl, trivial⟩, rfl, trivial⟩ rfl rfl ?_)
      | ((with_reducible show CallK _ _ 49 _ _ _ _); first | (refine CallK.lit [] h49g c49 ⟨⟨rfl, rfl, trivial⟩, rfl, trivial⟩ rfl rfl ?_) | (refine CallK.lit [] h49h c49 ⟨⟨rfl, rfl, trivial⟩, rfl, trivial⟩ rfl rfl ?_))
      | (refine IdxK.mk 0 (eNote ⟨n1, n2, n3, n4, n5, n6, n7, n8, n9⟩) rfl rfl ?_)
      | ((with_reducible show CallK _ _ 50 _ _ _ _); first | (refine CallK.val [] h50 c50 ⟨⟨rfl, rfl, trivial⟩, trivial⟩ rfl rfl rfl ?_) | (refine CallK.val [] h50b c50 ⟨⟨rfl, rfl, trivial⟩, trivial⟩ rfl rfl rfl ?_))
      | ((with_reducible show CallK _ _ 25 _ _ _ _); refine CallK.lit [] h25 c25 ⟨rfl, rfl, trivial⟩ rfl rfl ?_)
      | ((with_reducible show DrawK _ _ _ _); refine dK ?_)) <;> with_reducible refine wK ?_)
    | ((with_reducible show (_ ∧ _) ∧ _ ∧ _); (refine eK ?_ ?_ <;> with_reducible repeat' (first | exact trivial | (show _ ∧ _; refine aK ?_ ?_)))))); all_goals clear fct)
                all_goals first | rfl | (simp; done) | trace_state
          · have hq' := eq_false hq
            have h20' := h20 hq
            rcases htail with hj | ⟨nt, rfl, rfl, hnn⟩
            · refine FnOK.startC (rvs := [.tmp 8]) G G_good Tryz.func13 rfl Tryz.ntmps13 rfl rfl ?_; with_reducible refine wD ?_
              (have fct := And.intro hlm (And.intro hz1 (And.intro hz2 (And.intro hq' (hj)))); (repeat' (first
    | refine gF ?_
    | ((first
      | ((with_reducible show CallK _ _ 48 _ _ _ _); refine CallK.lit [] h48 c48 trivial rfl rfl ?_)
      | ((with_reducible show CallK _ _ 16 _ _ _ _); refine CallK.lit [] h16 c16 ⟨⟨rfl, rfl, trivial⟩, trivial⟩ rfl rfl ?_)
      | ((with_reducible show CallK _ _ 17 _ _ _ _); refine CallK.lit [] h17 c17 ⟨⟨rfl, rfl, trivial⟩, trivial⟩ rfl rfl ?_)
      | (refine ConvK.int (by kernel_rfl) (by kernel_rfl) (wrap_u8 ha) ?_)
      | (refine HandK.rem ha.1 (by (try simp only [castN]); omega) rfl rfl rfl rfl ?_)
      | ((with_reducible show CallK _ _ 18 _ _ _ _); first | (rw [hni]; refine CallK.val [] h18 c18 ⟨⟨rfl, rfl, trivial⟩, rfl, rfl, rfl, trivial⟩ rfl rfl hn18 ?_) | (refine CallK.val [] hb18 c18 ⟨⟨rfl, rfl, trivial⟩, rfl, rfl, rfl, trivial⟩ rfl rfl hnb ?_))
      | ((with_reducible show CallK _ _ 24 _ _ _ _); refine CallK.val [] h24 c24 ⟨⟨rfl, rfl, trivial⟩, rfl, rfl, trivial⟩ rfl rfl hn24 ?_)
      | ((with_reducible show CallK _ _ 35 _ _ _ _); refine CallK.lit [] h35 c35 ⟨⟨rfl, rfl, trivial⟩, rfl, trivial⟩ rfl rfl ?_)
      | ((with_reducible show CallK _ _ 49 _ _ _ _); first | (refine CallK.lit [] h49g c49 ⟨⟨rfl, rfl, trivial⟩, rfl, trivial⟩ rfl rfl ?_) | (refine CallK.lit [] h49h c49 ⟨⟨rfl, rfl, trivial⟩, rfl, trivial⟩ rfl rfl ?_))
      | ((with_reducible show CallK _ _ 20 _ _ _ _); refine CallK.lit [] h20' c20 ⟨⟨rfl, rfl, trivial⟩, rfl, rfl, trivial⟩ rfl rfl ?_)
      | ((with_reducible show DrawK _ _ _ _); refine dK ?_)) <;> with_reducible refine wK ?_)
    | ((with_reducible show (_ ∧ _) ∧ _ ∧ _); (refine eK ?_ ?_ <;> with_reducible repeat' (first | exact trivial | (show _ ∧ _; refine aK ?_ ?_)))))); all_goals clear fct)
              all_goals first | rfl | (simp; done) | trace_state
            · obtain ⟨n1, n2, n3, n4, n5, n6, n7, n8, n9⟩ := nt
              dsimp only at hnn
              rcases hnn with hnn | ⟨hnn, hnn2⟩ | ⟨hnn, hnn2, h50b⟩
              · refine FnOK.startC (rvs := [.tmp 8]) G G_good Tryz.func13 rfl Tryz.ntmps13 rfl rfl ?_; with_reducible refine wD ?_
                (have fct := And.intro hlm (And.intro hz1 (And.intro hz2 (And.intro hq' (hnn)))); (repeat' (first
    | refine gF ?_
    | ((first
      | ((with_reducible show CallK _ _ 48 _ _ _ _); refine CallK.lit [] h48 c48 trivial rfl rfl ?_)
      | ((with_reducible show CallK _ _ 16 _ _ _ _); refine CallK.lit [] h16 c16 ⟨⟨rfl, rfl, trivial⟩, trivial⟩ rfl rfl ?_)
      | ((with_reducible show CallK _ _ 17 _ _ _ _); refine CallK.lit [] h17 c17 ⟨⟨rfl, rfl, trivial⟩, trivial⟩ rfl rfl ?_)
      | (refine ConvK.int (by kernel_rfl) (by kernel_rfl) (wrap_u8 ha) ?_)
      | (refine HandK.rem ha.1 (by (try simp only [castN]); omega) rfl rfl rfl rfl ?_)
      | ((with_reducible show CallK _ _ 18 _ _ _ _); first | (rw [hni]; refine CallK.val [] h18 c18 ⟨⟨rfl, rfl, trivial⟩, rfl, rfl, rfl, trivial⟩ rfl rfl hn18 ?_) | (refine CallK.val [] hb18 c18 ⟨⟨rfl, rfl, trivial⟩, rfl, rfl, rfl, trivial⟩ rfl rfl hnb ?_))
      | ((with_reducible show CallK _ _ 24 _ _ _ _); refine CallK.val [] h24 c24 ⟨⟨rfl, rfl, trivial⟩, rfl, rfl, trivial⟩ rfl rfl hn24 ?_)
      | ((with_reducible show CallK _ _ 35 _ _ _ _); refine CallK.lit [] h35 c35 ⟨⟨rfl, rfl, trivial⟩, rfl, trivial⟩ rfl rfl ?_)
      | ((with_reducible show CallK _ _ 49 _ _ _ _); first | (refine CallK.lit [] h49g c49 ⟨⟨rfl, rfl, trivial⟩, rfl, trivial⟩ rfl rfl ?_) | (refine CallK.lit [] h49h c49 ⟨⟨rfl, rfl, trivial⟩, rfl, trivial⟩ rfl rfl ?_))
      | ((with_reducible show CallK _ _ 20 _ _ _ _); refine CallK.lit [] h20' c20 ⟨⟨rfl, rfl, trivial⟩, rfl, rfl, trivial⟩ rfl rfl ?_)
      | (refine IdxK.mk 0 (eNote ⟨n1, n2, n3, n4, n5, n6, n7, n8, n9⟩) rfl rfl ?_)
      | ((with_reducible show DrawK _ _ _ _); refine dK ?_)) <;> with_reducible refine wK ?_)
    | ((with_reducible show (_ ∧ _) ∧ _ ∧ _); (refine eK ?_ ?_ <;> with_reducible repeat' (first | exact trivial | (show _ ∧ _; refine aK ?_ ?_)))))); all_goals clear fct)
                all_goals first | rfl | (simp; done) | trace_state
              · refine FnOK.startC (rvs := [.tmp 8]) G G_good Tryz.func13 rfl Tryz.ntmps13 rfl rfl ?_; with_reducible refine wD ?_
                (have fct := And.intro hlm (And.intro hz1 (And.intro hz2 (And.intro hq' (And.intro hnn (hnn2))))); (repeat' (first
    | refine gF ?_
    | ((first
      | ((with_reducible show CallK _ _ 48 _ _ _ _); refine CallK.lit [] h48 c48 trivial rfl rfl ?_)
      | ((with_reducible show CallK _ _ 16 _ _ _ _); refine CallK.lit [] h16 c16 ⟨⟨rfl, rfl, trivial⟩, trivial⟩ rfl rfl ?_)
      | ((with_reducible show CallK _ _ 17 _ _ _ _); refine CallK.lit [] h17 c17 ⟨⟨rfl, rfl, trivial⟩, trivial⟩ rfl rfl ?_)
      | (refine ConvK.int (by kernel_rfl) (by kernel_rfl) (wrap_u8 ha) ?_)
      | (refine HandK.rem ha.1 (by (try simp only [castN]); omega) rfl rfl rfl rfl ?_)
      | ((with_reducible show CallK _ _ 18 _ _ _ _); first | (rw [hni]; refine CallK.val [] h18 c18 ⟨⟨rfl, rfl, trivial⟩, rfl, rfl, rfl, trivial⟩ rfl rfl hn18 ?_) | (refine CallK.val [] hb18 c18 ⟨⟨rfl, rfl, trivial⟩, rfl, rfl, rfl, trivial⟩ rfl rfl hnb ?_))
      | ((with_reducible show CallK _ _ 24 _ _ _ _); refine CallK.val [] h24 c24 ⟨⟨rfl, rfl, trivial⟩, rfl, rfl, trivial⟩ rfl rfl hn24 ?_)
      | ((with_reducible show CallK _ _ 35 _ _ _ _); refine CallK.lit [] h35 c35 ⟨⟨rfl, rfl, trivial⟩, rfl, trivial⟩ rfl rfl ?_)
      | ((with_reducible show CallK _ _ 49 _ _ _ _); first | (refine CallK.lit [] h49g c49 ⟨⟨rfl, rfl, trivial⟩, rfl, trivial⟩ rfl rfl ?_) | (refine CallK.lit [] h49h c49 ⟨⟨rfl, rfl, trivial⟩, rfl, trivial⟩ rfl rfl ?_))
      | ((with_reducible show CallK _ _ 20 _ _ _ _); refine CallK.lit [] h20' c20 ⟨⟨rfl, rfl, trivial⟩, rfl, rfl, trivial⟩ rfl rfl ?_)
      | (refine IdxK.mk 0 (eNote ⟨n1, n2, n3, n4, n5, n6, n7, n8, n9⟩) rfl rfl ?_)
      | ((with_reducible show DrawK _ _ _ _); refine dK ?_)) <;> with_reducible refine wK ?_)
    | ((with_reducible show (_ ∧ _) ∧ _ ∧ _); (refine eK ?_ ?_ <;> with_reducible repeat' (first | exact trivial | (show _ ∧ _; refine aK ?_ ?_)))))); all_goals clear fct)
                all_goals first | rfl | (simp; done) | trace_state
              · refine FnOK.startC (rvs := [.tmp 8]) G G_good Tryz.func13 rfl Tryz.ntmps13 rfl rfl ?_; with_reducible refine wD ?_
                (have fct := And.intro hlm (And.intro hz1 (And.intro hz2 (And.intro hq' (And.intro hnn (hnn2))))); (repeat' (first
    | refine gF ?_
    | ((first
      | ((with_reducible show CallK _ _ 48 _ _ _ _); refine CallK.lit [] h48 c48 trivial rfl rfl ?_)
      | ((with_reducible show CallK _ _ 16 _ _ _ _); refine CallK.lit [] h16 c16 ⟨⟨rfl, rfl, trivial⟩, trivial⟩ rfl rfl ?_)
      | ((with_reducible show CallK _ _ 17 _ _ _ _); refine CallK.lit [] h17 c17 ⟨⟨rfl, rfl, trivial⟩, trivial⟩ rfl rfl ?_)
      | (refine ConvK.int (by kernel_rfl) (by kernel_rfl) (wrap_u8 ha) ?_)
      | (refine HandK.rem ha.1 (by (try simp only [castN]); omega) rfl rfl rfl rfl ?_)
      | ((with_reducible show CallK _ _ 18 _ _ _ _); first | (rw [hni]; refine CallK.val [] h18 c18 ⟨⟨rfl, rfl, trivial⟩, rfl, rfl, rfl, trivial⟩ rfl rfl hn18 ?_) | (refine CallK.val [] hb18 c18 ⟨⟨rfl, rfl, trivial⟩, rfl, rfl, rfl, trivial⟩ rfl rfl hnb ?_))
      | ((with_reducible show CallK _ _ 24 _ _ _ _); refine CallK.val [] h24 c24 ⟨⟨rfl, rfl, trivial⟩, rfl, rfl, trivial⟩ rfl rfl hn24 ?_)
      | ((with_reducible show CallK _ _ 35 _ _ _ _); refine CallK.lit [] h35 c35 ⟨⟨rfl, rfl, trivial⟩, rfl, trivial⟩ rfl rfl ?_)
      | ((with_reducible show CallK _ _ 49 _ _ _ _); first | (refine CallK.lit [] h49g c49 ⟨⟨rfl, rfl, trivial⟩, rfl, trivial⟩ rfl rfl ?_) | (refine CallK.lit [] h49h c49 ⟨⟨rfl, rfl, trivial⟩, rfl, trivial⟩ rfl rfl ?_))
      | ((with_reducible show CallK _ _ 20 _ _ _ _); refine CallK.lit [] h20' c20 ⟨⟨rfl, rfl, trivial⟩, rfl, rfl, trivial⟩ rfl rfl ?_)
      | (refine IdxK.mk 0 (eNote ⟨n1, n2, n3, n4, n5, n6, n7, n8, n9⟩) rfl rfl ?_)
      | ((with_reducible show CallK _ _ 50 _ _ _ _); first | (refine CallK.val [] h50 c50 ⟨⟨rfl, rfl, trivial⟩, trivial⟩ rfl rfl rfl ?_) | (refine CallK.val [] h50b c50 ⟨⟨rfl, rfl, trivial⟩, trivial⟩ rfl rfl rfl ?_))
      | ((with_reducible show CallK _ _ 25 _ _ _ _); refine CallK.lit [] h25 c25 ⟨rfl, rfl, trivial⟩ rfl rfl ?_)
      | ((with_reducible show DrawK _ _ _ _); refine dK ?_)) <;> with_reducible refine wK ?_)
    | ((with_reducible show (_ ∧ _) ∧ _ ∧ _); (refine eK ?_ ?_ <;> with_reducible repeat' (first | exact trivial | (show _ ∧ _; refine aK ?_ ?_)))))); all_goals clear fct)
                all_goals first | rfl | (simp; done) | trace_state
      · have hd := eq_false he
        generalize (setM ⟨l, m⟩ i formW noS).2.2 = e0 at *
        generalize (setM ⟨l, m⟩ i formW noS).2.1 = ng at *
        generalize (setM ⟨l, m⟩ i formW noS).1 = g at *
        obtain ⟨lg, mg⟩ := g
        rcases htail with hj | ⟨nt, rfl, rfl, hnn⟩
        · refine FnOK.startC (rvs := [.tmp 8]) G G_good Tryz.func13 rfl Tryz.ntmps13 rfl rfl ?_; with_reducible refine wD ?_
          (have fct := And.intro hlm (And.intro hz1 (And.intro hz2 (And.intro hd (hj)))); (repeat' (first
    | refine gF ?_
    | ((first
      | ((with_reducible show CallK _ _ 48 _ _ _ _); refine CallK.lit [] h48 c48 trivial rfl rfl ?_)
      | ((with_reducible show CallK _ _ 16 _ _ _ _); refine CallK.lit [] h16 c16 ⟨⟨rfl, rfl, trivial⟩, trivial⟩ rfl rfl ?_)
      | ((with_reducible show CallK _ _ 17 _ _ _ _); refine CallK.lit [] h17 c17 ⟨⟨rfl, rfl, trivial⟩, trivial⟩ rfl rfl ?_)
      | (refine ConvK.int (by kernel_rfl) (by kernel_rfl) (wrap_u8 ha) ?_)
      | (refine HandK.rem ha.1 (by (try simp only [castN]); omega) rfl rfl rfl rfl ?_)
      | ((with_reducible show CallK _ _ 18 _ _ _ _); first | (rw [hni]; refine CallK.val [] h18 c18 ⟨⟨rfl, rfl, trivial⟩, rfl, rfl, rfl, trivial⟩ rfl rfl hn18 ?_) | (refine CallK.val [] hb18 c18 ⟨⟨rfl, rfl, trivial⟩, rfl, rfl, rfl, trivial⟩ rfl rfl hnb ?_))
      | ((with_reducible show DrawK _ _ _ _); refine dK ?_)) <;> with_reducible refine wK ?_)
    | ((with_reducible show (_ ∧ _) ∧ _ ∧ _); (refine eK ?_ ?_ <;> with_reducible repeat' (first | exact trivial | (show _ ∧ _; refine aK ?_ ?_)))))); all_goals clear fct)
          all_goals first | rfl | (simp; done) | trace_state
        · obtain ⟨n1, n2, n3, n4, n5, n6, n7, n8, n9⟩ := nt
          dsimp only at hnn
          rcases hnn with hnn | ⟨hnn, hnn2⟩ | ⟨hnn, hnn2, h50b⟩
          · refine FnOK.startC (rvs := [.tmp 8]) G G_good Tryz.func13 rfl Tryz.ntmps13 rfl rfl ?_; with_reducible refine wD ?_
            (have fct := And.intro hlm (And.intro hz1 (And.intro hz2 (And.intro hd (hnn)))); (repeat' (first
    | refine gF ?_
    | ((first
      | ((with_reducible show CallK _ _ 48 _ _ _ _); refine CallK.lit [] h48 c48 trivial rfl rfl ?_)
      | ((with_reducible show CallK _ _ 16 _ _ _ _); refine CallK.lit [] h16 c16 ⟨⟨rfl, rfl, trivial⟩, trivial⟩ rfl rfl ?_)
      | ((with_reducible show CallK _ _ 17 _ _ _ _); refine CallK.lit [] h17 c17 ⟨⟨rfl, rfl, trivial⟩, trivial⟩ rfl rfl ?_)
      | (refine ConvK.int (by kernel_rfl) (by kernel_rfl) (wrap_u8 ha) ?_)
      | (refine HandK.rem ha.1 (by (try simp only [castN]); omega) rfl rfl rfl rfl ?_)
      | ((with_reducible show CallK _ _ 18 _ _ _ _); first | (rw [hni]; refine CallK.val [] h18 c18 ⟨⟨rfl, rfl, trivial⟩, rfl, rfl, rfl, trivial⟩ rfl rfl hn18 ?_) | (refine CallK.val [] hb18 c18 ⟨⟨rfl, rfl, trivial⟩, rfl, rfl, rfl, trivial⟩ rfl rfl hnb ?_))
      | (refine IdxK.mk 0 (eNote ⟨n1, n2, n3, n4, n5, n6, n7, n8, n9⟩) rfl rfl ?_)
      | ((with_reducible show DrawK _ _ _ _); refine dK ?_)) <;> with_reducible refine wK ?_)
    | ((with_reducible show (_ ∧ _) ∧ _ ∧ _); (refine eK ?_ ?_ <;> with_reducible repeat' (first | exact trivial | (show _ ∧ _; refine aK ?_ ?_)))))); all_goals clear fct)
            all_goals first | rfl | (simp; done) | trace_state
          · refine FnOK.startC (rvs := [.tmp 8]) G G_good Tryz.func13 rfl Tryz.ntmps13 rfl rfl ?_; with_reducible refine wD ?_
            (have fct := And.intro hlm (And.intro hz1 (And.intro hz2 (And.intro hd (And.intro hnn (hnn2))))); (repeat' (first
    | refine gF ?_
    | ((first
      | ((with_reducible show CallK _ _ 48 _ _ _ _); refine CallK.lit [] h48 c48 trivial rfl rfl ?_)
      | ((with_reducible show CallK _ _ 16 _ _ _ _); refine CallK.lit [] h16 c16 ⟨⟨rfl, rfl, trivial⟩, trivial⟩ rfl rfl ?_)
      | ((with_reducible show CallK _ _ 17 _ _ _ _); refine CallK.lit [] h17 c17 ⟨⟨rfl, rfl, trivial⟩, trivial⟩ rfl rfl ?_)
      | (refine ConvK.int (by kernel_rfl) (by kernel_rfl) (wrap_u8 ha) ?_)
      | (refine HandK.rem ha.1 (by (try simp only [castN]); omega) rfl rfl rfl rfl ?_)
      | ((with_reducible show CallK _ _ 18 _ _ _ _); first | (rw [hni]; refine CallK.val [] h18 c18 ⟨⟨rfl, rfl, trivial⟩, rfl, rfl, rfl, trivial⟩ rfl rfl hn18 ?_) | (refine CallK.val [] hb18 c18 ⟨⟨rfl, rfl, trivial⟩, rfl, rfl, rfl, trivial⟩ rfl rfl hnb ?_))
      | (refine IdxK.mk 0 (eNote ⟨n1, n2, n3, n4, n5, n6, n7, n8, n9⟩) rfl rfl ?_)
      | ((with_reducible show DrawK _ _ _ _); refine dK ?_)) <;> with_reducible refine wK ?_)
    | ((with_reducible show (_ ∧ _) ∧ _ ∧ _); (refine eK ?_ ?_ <;> with_reducible repeat' (first | exact trivial | (show _ ∧ _; refine aK ?_ ?_)))))); all_goals clear fct)
            all_goals first | rfl | (simp; done) | trace_state
          · refine FnOK.startC (rvs := [.tmp 8]) G G_good Tryz.func13 rfl Tryz.ntmps13 rfl rfl ?_; with_reducible refine wD ?_
            (have fct := And.intro hlm (And.intro hz1 (And.intro hz2 (And.intro hd (And.intro hnn (hnn2))))); (repeat' (first
    | refine gF ?_
    | ((first
      | ((with_reducible show CallK _ _ 48 _ _ _ _); refine CallK.lit [] h48 c48 trivial rfl rfl ?_)
      | ((with_reducible show CallK _ _ 16 _ _ _ _); refine CallK.lit [] h16 c16 ⟨⟨rfl, rfl, trivial⟩, trivial⟩ rfl rfl ?_)
      | ((with_reducible show CallK _ _ 17 _ _ _ _); refine CallK.lit [] h17 c17 ⟨⟨rfl, rfl, trivial⟩, trivial⟩ rfl rfl ?_)
      | (refine ConvK.int (by kernel_rfl) (by kernel_rfl) (wrap_u8 ha) ?_)
      | (refine HandK.rem ha.1 (by (try simp only [castN]); omega) rfl rfl rfl rfl ?_)
      | ((with_reducible show CallK _ _ 18 _ _ _ _); first | (rw [hni]; refine CallK.val [] h18 c18 ⟨⟨rfl, rfl, trivial⟩, rfl, rfl, rfl, trivial⟩ rfl rfl hn18 ?_) | (refine CallK.val [] hb18 c18 ⟨⟨rfl, rfl, trivial⟩, rfl, rfl, rfl, trivial⟩ rfl rfl hnb ?_))
      | (refine IdxK.mk 0 (eNote ⟨n1, n2, n3, n4, n5, n6, n7, n8, n9⟩) rfl rfl ?_)
      | ((with_reducible show CallK _ _ 50 _ _ _ _); first | (refine CallK.val [] h50 c50 ⟨⟨rfl, rfl, trivial⟩, trivial⟩ rfl rfl rfl ?_) | (refine CallK.val [] h50b c50 ⟨⟨rfl, rfl, trivial⟩, trivial⟩ rfl rfl rfl ?_))
      | ((with_reducible show CallK _ _ 25 _ _ _ _); refine CallK.lit [] h25 c25 ⟨rfl, rfl, trivial⟩ rfl rfl ?_)
      | ((with_reducible show DrawK _ _ _ _); refine dK ?_)) <;> with_reducible refine wK ?_)
    | ((with_reducible show (_ ∧ _) ∧ _ ∧ _); (refine eK ?_ ?_ <;> with_reducible repeat' (first | exact trivial | (show _ ∧ _; refine aK ?_ ?_)))))); all_goals clear fct)
            all_goals first | rfl | (simp; done) | trace_state
end Go.Proofs.Heir
end
namespace Go.Proofs.Heir
open Go Go.Am Go.RowKit Go.Lib
set_option maxRecDepth 100000
set_option maxHeartbeats 8000000
theorem rStr : Reads Tryz.prog 9 1 eStr (fun s => s.size ≤ maxLen) := Reads.str Tryz.underlying9 (by kernel_rfl)
theorem rInt : Reads Tryz.prog 3 1 oInt (fun _ => True) := (Reads.int Tryz.underlying3 (by kernel_rfl)).conv id id (fun _ => rfl) (fun _ => rfl) (fun _ _ => trivial)
theorem rAttr : Reads Tryz.prog 90 2 oAttr (fun _ => True) :=
 (Reads.struct (l := [(0, 9), (1, 9)]) Tryz.underlying90 (by kernel_rfl) rfl (.cons rStr (.cons rStr .nil))).conv
  (fun (a, b, _) => ⟨a, b⟩) (fun t => (t.name, t.value, ())) (fun _ => rfl) (fun _ => rfl) (fun _ _ => trivial)
theorem rAttrs1 : Reads Tryz.prog 32 1 eAttrs (fun _ => True) := (Reads.slice Tryz.underlying32 (by kernel_rfl) rAttr (by omega)).conv id id (fun _ => rfl) (fun _ => rfl) (fun _ _ => trivial)
theorem rInts1 : Reads Tryz.prog 33 1 eInts (fun _ => True) := (Reads.slice Tryz.underlying33 (by kernel_rfl) rInt (by omega)).conv id id (fun _ => rfl) (fun _ => rfl) (fun _ _ => trivial)
theorem rNode : Reads Tryz.prog 35 10 oNode (fun _ => True) :=
 (Reads.struct (l := [(0, 3), (1, 9), (2, 9), (3, 9), (4, 32), (5, 3), (6, 33), (7, 3), (8, 3), (9, 3)]) Tryz.underlying35 (by kernel_rfl) rfl
  (.cons rInt (.cons rStr (.cons rStr (.cons rStr (.cons rAttrs1 (.cons rInt (.cons rInts1 (.cons rInt (.cons rInt (.cons rInt .nil))))))))))).conv
  (fun (a, b, c, d, e, f, g, h, i, j, _) => ⟨a, b, c, d, e, f, g, h, i, j⟩)
  (fun t => (t.kind, t.name, t.is, t.data, t.attrs, t.parent, t.kids, t.host, t.under, t.doc, ())) (fun _ => rfl) (fun _ => rfl) (fun _ _ => trivial)
theorem rNodes1 : Reads Tryz.prog 22 1 eNodes (fun _ => True) := (Reads.slice Tryz.underlying22 (by kernel_rfl) rNode (by omega)).conv id id (fun _ => rfl) (fun _ => rfl) (fun _ _ => trivial)
theorem rFor : Reads Tryz.prog 24 2 eFor (fun _ => True) :=
 (Reads.struct (l := [(0, 22), (1, 3)]) Tryz.underlying24 (by kernel_rfl) rfl (.cons rNodes1 (.cons rInt .nil))).conv
  (fun (a, b, _) => ⟨a, b⟩) (fun t => (t.nodes, t.most, ())) (fun _ => rfl) (fun _ => rfl) (fun _ _ => trivial)
theorem laid : Go.laidOutB Tryz.prog = true := by kernel_rfl
abbrev laidRows : List (String × DataW Unit) := [("errors.errorType", Go.Proofs.YtkhjcnjicjgfiaaGreatDoor.Rows.laid_errors_errorType)]
theorem door_met (os : Os) (args : Array Value) : laidMetH Tryz.prog laidRows ((World.doorLaid Tryz.prog 33 os).forCall (fun _ _ => 0) ⟨#[], args, []⟩).memory :=
 laidMetH_of_parts3 (fuel := 8) (laidMet_of_run' 8 (by kernel_rfl) (by kernel_rfl)) (by kernel_rfl) (by kernel_rfl)
theorem tabs_of_laid {W : World} (h : laidMetH Tryz.prog laidRows W) : Tabs Tryz.prog W fun _ => none := by
 refine ⟨fun g hg => (by rw [show Tryz.prog.globalNamed "no such variable" = none by kernel_rfl] at hg; cases hg), fun g hg => ?_⟩
 have h' : handlesMet Tryz.prog laidRows W := h.2
 have h0 := h' _ (List.mem_singleton.2 rfl)
 have h1 : ∃ name u ty, (DataW.handleName? (Go.Proofs.YtkhjcnjicjgfiaaGreatDoor.Rows.laid_errors_errorType : DataW Unit)) = some name ∧ (Tryz.prog.cutTypes.find? (·.1 == "internal/reflectlite.rtype")).map (·.2) = some u ∧ ty < Tryz.prog.types.size ∧ Tryz.prog.rowNamed ty name = true ∧
   W.var? Tryz.prog "errors.errorType" = some #[.iface u (.agg #[typeHandle Tryz.prog ty])] := h0
 obtain ⟨name, u, ty, k1, k2, k3, k4, k5⟩ := h1
 obtain rfl : [101, 114, 114, 111, 114] = name := Option.some.inj k1
 have e : g = 0 := Option.some.inj (hg.symm.trans (by kernel_rfl))
 subst e
 unfold World.var? at k5
 rw [hg] at k5
 simp only [Option.bind_some] at k5
 refine ⟨(by rintro ⟨_, _, h, _⟩; cases h), ?_, _, ⟨u, ty, k2, k3, k4, rfl⟩, ?_⟩
 · split at k5
   · rename_i hh; exact (Array.getElem?_eq_some_iff.1 hh).1
   · cases k5
 · split at k5
   · rename_i cs _ _ hh
     obtain rfl : cs = _ := Option.some.inj k5
     simp [World.cell?, hh]
   · cases k5
end Go.Proofs.Heir
