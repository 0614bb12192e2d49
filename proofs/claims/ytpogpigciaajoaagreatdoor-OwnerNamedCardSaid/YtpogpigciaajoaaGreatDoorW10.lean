/- Models, plain laws and contracts of functions of the given program; conditions as stated in each theorem. By an AI agent. -/
import Derived.Test.YtpogpigciaajoaaGreatDoorW9
set_option linter.unusedSimpArgs false
set_option linter.unusedVariables false
namespace Go.Proofs.Heir
open Go Go.Am Go.RowKit Go.Lib
set_option maxRecDepth 100000
set_option maxHeartbeats 8000000
theorem frz_ids {m : ML} {fz : Nat → Bool} {k : Nat} {ro : Bool} {rows : List AV} {c : List (Int × List (ByteArray × Int))} (h1 : lkM m k = .live 2 rows ro) (h2 : fz k = true) (h3 : rows = idRows c) : FrzMK m fz (.fmap (idRows c)) k := by
 subst h3
 refine ⟨2, _, ro, h1, h2, rfl, fun x hx => ?_⟩
 obtain ⟨p, _, rfl⟩ := List.mem_map.1 hx
 exact ⟨_, _, rfl, rfl⟩
theorem att_get {x : NodeM} {w : ByteArray} : attV x w = if 0 ≤ findP x.attrs w then some (getS x.attrs w) else none := rfl
theorem conF_eq {l : List NodeM} {m : Int} (hr : rightF ⟨l, m⟩ = true) {n : Int} (hn : thereN l n = true) : conF ⟨l, m⟩ n = conN l n := by
 unfold conF conN; rw [hr, show thereN (ForM.mk l m).nodes n = true from hn]; rfl
theorem f74_ok (l : List NodeM) (m : Int) (hs : SmallN l) (hrt : rightF ⟨l, m⟩ = true) (c : List (Int × List (ByteArray × Int))) (hc : IdsOK l c) (n : Int) (hn : thereN l n = true) :
  FnOK Tryz.prog 74 [idsM c] [.agg [eNodes l, eInt m, .mapr 0], eInt n] [idsM (stepC l c n)] (eInt (ownN l n)) := by
 have T : Tree l := tree_of hrt
 have h21 := f21_ok ⟨l, m⟩ hs n
 rw [conF_eq hrt hn] at h21
 have h116 := f116_ok l m c T n hn
 have h48 := f48_ok ⟨l, m⟩ hs hrt n hn
 have hrth := (root_there T n hn).1
 have h117 := f117_ok l m hs hrt c hc (rootN l n) hrth
 have hfst := fun v k => @first_some l (rootN l n) v k
 have hord := fun k hk => (ord_root T hrth (n := k) hk).1
 obtain ⟨i, x, e, hx, hnx⟩ := there_iff.1 hn
 have h47 := f47_ok x.attrs (by have := hs.attrs x (List.mem_of_getElem? hx); omega) formW
 unfold ownN stepC byId
 rw [hnx, att_get]
 simp only at h48
 have hig := fun v => idTab_get l (rootN l n) v
 generalize rootN l n = r at h48 h117 hfst hord hig ⊢
 generalize nearN l n = nr at h116 ⊢
 generalize conN l n = cn at h21 ⊢
 generalize hgs : getS x.attrs formW = v at h47 ⊢
 obtain ⟨ok, hok⟩ : ∃ ok, decide (0 ≤ findP x.attrs formW) = ok := ⟨_, rfl⟩
 rw [hok] at h47
 have hok' : (0 ≤ findP x.attrs formW) = (ok = true) := by rw [← hok]; simp
 simp only [hok']
 clear hok hok' hgs
 obtain ⟨a1, a2, a3, a4, a5, a6, a7, a8, a9, a10⟩ := x
 simp only at h47 ⊢
 refine FnOK.startC (rvs := [.tmp 4]) G G_good Tryz.func74 rfl Tryz.ntmps74 rfl rfl ?_; with_reducible refine wD ?_
 refine IdxK.mk i (eNode _) e (node_get hx) ?_; with_reducible refine wK ?_
 by_cases e1 : a1 = 1
 ·rw [if_pos e1, if_pos e1]
  refine IfK.no (by rw [e1]; rfl) ?_; with_reducible refine wK ?_
  cases ok with
  | false =>
    rw [if_neg (by simp)]
    repeat' (first
  | refine gK ?_ | refine aE ?_ ?_
  | ((first
   | ((with_reducible refine kQ 47 ?_); refine cL h47 c47 ?_)
   | ((with_reducible refine kQ 21 ?_); refine cL h21 c21 ?_)
   | ((with_reducible refine kQ 116 ?_); refine CallK.lit [0] h116 c116 ⟨⟨rfl, rfl, frz_ids rfl rfl rfl, trivial⟩, rfl, trivial⟩ rfl rfl ?_)) <;> with_reducible refine wK ?_)
  | apply trivial)
    all_goals first | rfl | exact MFL_refl (noRef_ids c)
  | true =>
    rw [if_pos rfl]
    simp only
    cases cn with
    | false =>
      rw [if_neg (by simp), if_neg (by simp)]
      repeat' (first
  | refine gK ?_ | refine aE ?_ ?_
  | ((first
   | ((with_reducible refine kQ 47 ?_); refine cL h47 c47 ?_)
   | ((with_reducible refine kQ 21 ?_); refine cL h21 c21 ?_)
   | ((with_reducible refine kQ 116 ?_); refine CallK.lit [0] h116 c116 ⟨⟨rfl, rfl, frz_ids rfl rfl rfl, trivial⟩, rfl, trivial⟩ rfl rfl ?_)) <;> with_reducible refine wK ?_)
  | apply trivial)
      all_goals first | rfl | exact MFL_refl (noRef_ids c)
    | true =>
      rw [if_pos rfl, if_pos rfl]
      repeat' (first
  | refine gK ?_ | refine aE ?_ ?_
  | ((first
   | ((with_reducible refine kQ 47 ?_); refine cL h47 c47 ?_)
   | ((with_reducible refine kQ 21 ?_); refine cL h21 c21 ?_)
   | ((with_reducible refine kQ 48 ?_); refine cL h48 c48 ?_)) <;> with_reducible refine wK ?_)
  | apply trivial)
      refine CallK.lend (news := [idsM (keepT l c r)]) [0] [] h117 c117 ⟨⟨rfl, rfl, trivial, trivial⟩, rfl, trivial⟩ ⟨⟨rfl, .inl ⟨rfl, noRef_ids c⟩⟩, trivial⟩ rfl ⟨⟨rfl, rfl⟩, rfl⟩ rfl ⟨⟨rfl, .inl ⟨rfl, noRef_ids _⟩⟩, trivial⟩ rfl rfl ?_
      with_reducible refine wK ?_
      refine LookK.tab Value.string oInt (idTab l r) (k := v) (zv := eInt 0) map62 rfl key_str inj_str rfl rfl (fun k hk => ?_) (fun hk => ?_)
      ·rw [hig] at hk
       rw [hk, show oInt k = eInt k from rfl]
       simp only
       obtain ⟨j, y, e', hy, hny⟩ := there_iff.1 (hord k (hfst v k hk).1)
       rw [hny]
       have h81 := f81_ok y
       obtain ⟨b1, b2, b3, b4, b5, b6, b7, b8, b9, b10⟩ := y
       obtain ⟨fm, hfm⟩ : ∃ fm, isForm ⟨b1, b2, b3, b4, b5, b6, b7, b8, b9, b10⟩ = fm := ⟨_, rfl⟩
       rw [hfm] at h81 ⊢
       with_reducible refine wK ?_
       by_cases ev : v = ⟨#[]⟩
       ·rw [if_neg (fun h => h.1 ev)]
        have ev' : v = ⟨⟨[]⟩⟩ := ev
        (have fct := ev'; (repeat' (first
  | refine gF ?_ | refine aE ?_ ?_
  | (((with_reducible show DrawK _ _ _ _); refine dK ?_) <;> with_reducible refine wK ?_)
  | apply trivial)); all_goals clear fct)
        all_goals first | rfl | exact MFL_refl (noRef_ids _)
       ·have ev' : ¬ v = ⟨⟨[]⟩⟩ := ev
        cases fm with
        | true =>
          rw [if_pos ⟨ev, rfl⟩]
          (have fct := ev'; (repeat' (first
  | refine gF ?_ | refine aE ?_ ?_
  | ((first
   | ((with_reducible show DrawK _ _ _ _); refine dK ?_)
   | (refine IdxK.mk j (eNode ⟨b1, b2, b3, b4, b5, b6, b7, b8, b9, b10⟩) e' (node_get hy) ?_)
   | ((with_reducible refine kQ 81 ?_); refine cL h81 c81 ?_)) <;> with_reducible refine wK ?_)
  | apply trivial)); all_goals clear fct)
          all_goals first | rfl | exact MFL_refl (noRef_ids _)
        | false =>
          rw [if_neg (fun h => by cases h.2)]
          (have fct := ev'; (repeat' (first
  | refine gF ?_ | refine aE ?_ ?_
  | ((first
   | ((with_reducible show DrawK _ _ _ _); refine dK ?_)
   | (refine IdxK.mk j (eNode ⟨b1, b2, b3, b4, b5, b6, b7, b8, b9, b10⟩) e' (node_get hy) ?_)
   | ((with_reducible refine kQ 81 ?_); refine cL h81 c81 ?_)) <;> with_reducible refine wK ?_)
  | apply trivial)); all_goals clear fct)
          all_goals first | rfl | exact MFL_refl (noRef_ids _)
      ·rw [hig] at hk
       rw [hk]
       with_reducible refine wK ?_
       repeat' (first
  | refine gK ?_ | refine aE ?_ ?_
  | (((with_reducible show DrawK _ _ _ _); refine dK ?_) <;> with_reducible refine wK ?_)
  | apply trivial)
       all_goals first | rfl | exact MFL_refl (noRef_ids _)
 ·rw [if_neg e1, if_neg e1]
  (have fct := (eq_false e1); (repeat' (first
  | refine gF ?_ | refine aE ?_ ?_
  | apply trivial)); all_goals clear fct)
  all_goals first | rfl | exact MFL_refl (noRef_ids c)
def ownF (f : ForM) (n : Int) : Int := if (thereN f.nodes n && rightF f) = true then ownN f.nodes n else -1
theorem idsOK_nil (l : List NodeM) : IdsOK l [] := ⟨fun r t h => (by cases h), (by simp)⟩
theorem f38_ok (f : ForM) (hs : SmallN f.nodes) (n : Int) : FnOK Tryz.prog 38 [] [eFor f, eInt n] [] (eInt (ownF f n)) := by
 have h15 := f15_ok f hs
 have h73 := f73_ok f
 obtain ⟨l, m⟩ := f
 unfold ownF
 simp only at h73 ⊢
 have hlm : (l.map oNode).length = l.length := List.length_map ..
 obtain ⟨o, ho⟩ : ∃ o, (if (thereN l n && rightF ⟨l, m⟩) = true then ownN l n else -1) = o := ⟨_, rfl⟩
 rw [ho]
 refine FnOK.startC (rvs := [.tmp 4]) G G_good Tryz.func38 rfl Tryz.ntmps38 rfl rfl ?_; with_reducible refine wD ?_
 cases ht : thereN l n with
 | false =>
   have ht' : ¬ (0 ≤ n ∧ n < (l.length : Int)) := fun h => by
    unfold thereN at ht; simp [h.1, h.2] at ht
   rw [ht, Bool.false_and, if_neg (by simp)] at ho
   subst ho
   by_cases e1 : n < 0
   ·(have fct := (eq_true e1); (repeat' (first
  | refine gF ?_ | refine aE ?_ ?_
  | apply trivial)); all_goals clear fct)
    all_goals rfl
   ·have e2 : (l.length : Int) ≤ n := by omega
    (have fct := And.intro (eq_false e1) (And.intro hlm ((eq_true e2))); (repeat' (first
  | refine gF ?_ | refine aE ?_ ?_
  | apply trivial)); all_goals clear fct)
    all_goals rfl
 | true =>
   obtain ⟨e1, e2⟩ := there_pos ht
   have e1' : ¬ n < 0 := by omega
   have e2' : ¬ (l.length : Int) ≤ n := by omega
   cases hr : rightF ⟨l, m⟩ with
   | false =>
     rw [hr] at h15
     rw [ht, hr, Bool.true_and, if_neg (by simp)] at ho
     subst ho
     (have fct := And.intro (eq_false e1') (And.intro hlm ((eq_false e2'))); (repeat' (first
  | refine gF ?_ | refine aE ?_ ?_
  | (((with_reducible refine kQ 15 ?_); refine cL h15 c15 ?_) <;> with_reducible refine wK ?_)
  | apply trivial)); all_goals clear fct)
     all_goals rfl
   | true =>
     rw [hr] at h15
     rw [ht, hr, Bool.true_and, if_pos rfl] at ho
     have h74 := f74_ok l m hs hr [] (idsOK_nil l) n ht
     rw [ho] at h74
     generalize stepC l [] n = c at h74
     (have fct := And.intro (eq_false e1') (And.intro hlm ((eq_false e2'))); (repeat' (first
  | refine gF ?_ | refine aE ?_ ?_
  | ((first
   | ((with_reducible refine kQ 15 ?_); refine cL h15 c15 ?_)
   | ((with_reducible refine kQ 73 ?_); refine CallK.new 201 [] h73 c73 ⟨⟨rfl, rfl, trivial⟩, trivial⟩ rfl rfl rfl ⟨.nil _, rfl, trivial⟩ rfl ?_)
   | ((with_reducible refine kQ 74 ?_); refine CallK.lend (news := [idsM c]) [201] [] h74 c74 ⟨⟨rfl, rfl, trivial, trivial⟩, rfl, trivial⟩ ⟨⟨rfl, .inl ⟨rfl, rfl⟩⟩, trivial⟩ rfl ⟨⟨rfl, rfl⟩, rfl⟩ rfl ⟨⟨rfl, .inl ⟨rfl, noRef_ids _⟩⟩, trivial⟩ rfl rfl ?_)) <;> with_reducible refine wK ?_)
  | apply trivial)); all_goals clear fct)
     all_goals rfl
def ownTo (l : List NodeM) (k : Nat) : List Int := (List.range k).map fun n : Nat => ownN l (n : Int)
def keepTo (l : List NodeM) : Nat → List (Int × List (ByteArray × Int))
 | 0 => []
 | k + 1 => stepC l (keepTo l k) (k : Int)
theorem keepTo_ok (l : List NodeM) : ∀ k, k ≤ 60 → IdsOK l (keepTo l k) ∧ (keepTo l k).length ≤ k
 | 0, _ => ⟨idsOK_nil l, Nat.le_refl _⟩
 | k + 1, h => by
   obtain ⟨h1, h2⟩ := keepTo_ok l k (by omega)
   have h3 := stepC_len l (keepTo l k) (k : Int)
   exact ⟨⟨stepC_is h1.is _, by show (stepC l (keepTo l k) (k : Int)).length ≤ _; omega⟩, by show (stepC l (keepTo l k) (k : Int)).length ≤ _; omega⟩
theorem ownTo_step (l : List NodeM) (k : Nat) : ownTo l (k + 1) = ownTo l k ++ [ownN l (k : Int)] := by unfold ownTo; rw [List.range_succ, List.map_append]; rfl
theorem ownTo_len (l : List NodeM) (k : Nat) : (ownTo l k).length = k := by unfold ownTo; simp
def allF (f : ForM) : List Int := if rightF f = true then ownTo f.nodes f.nodes.length else []
theorem f42_ok (f : ForM) (hs : SmallN f.nodes) : FnOK Tryz.prog 42 [] [eFor f] [] (eInts (allF f)) := by
 have h15 := f15_ok f hs
 have h73 := f73_ok f
 have h60 := hs.len
 obtain ⟨l, m⟩ := f
 unfold allF
 simp only at h73 h60 ⊢
 have hlm : (l.map oNode).length = l.length := List.length_map ..
 obtain ⟨o, ho⟩ : ∃ o, (if rightF ⟨l, m⟩ = true then ownTo l l.length else []) = o := ⟨_, rfl⟩
 rw [ho]
 refine FnOK.startC (rvs := [.tmp 2]) G G_good Tryz.func42 rfl Tryz.ntmps42 rfl rfl ?_; with_reducible refine wD ?_
 cases hr : rightF ⟨l, m⟩ with
 | false =>
   rw [hr] at h15
   rw [hr, if_neg (by simp)] at ho
   subst ho
   repeat' (first
  | refine gK ?_ | refine aE ?_ ?_
  | (((with_reducible refine kQ 15 ?_); refine cL h15 c15 ?_) <;> with_reducible refine wK ?_)
  | apply trivial)
   all_goals exact .inr (.inr ⟨1, rfl⟩)
 | true =>
   rw [hr] at h15
   rw [hr, if_pos rfl] at ho
   subst ho
   have hstep := fun k => ownTo_step l k
   have hlen := fun k => ownTo_len l k
   have hcall : ∀ k, k < l.length → FnOK Tryz.prog 74 [idsM (keepTo l k)] [.agg [eNodes l, eInt m, .mapr 0], eInt (k : Int)] [idsM (keepTo l (k + 1))] (eInt (ownN l (k : Int))) := fun k hk =>
    f74_ok l m hs hr (keepTo l k) (keepTo_ok l k (by omega)).1 k (there_get (List.getElem?_eq_getElem hk))
   have hk0 : keepTo l 0 = [] := rfl
   have ho0 : ownTo l 0 = [] := rfl
   generalize keepTo l = kt at hcall hk0
   generalize ownTo l = ot at hstep hlen ho0 ⊢
   repeat' (first
  | refine gK ?_ | refine aE ?_ ?_
  | ((first
   | ((with_reducible refine kQ 15 ?_); refine cL h15 c15 ?_)
   | ((with_reducible refine kQ 73 ?_); refine CallK.new 101 [] h73 c73 ⟨⟨rfl, rfl, trivial⟩, trivial⟩ rfl rfl rfl ⟨.nil _, rfl, trivial⟩ rfl ?_)) <;> with_reducible refine wK ?_)
  | apply trivial)
   refine LoopK.ghost 3 31 1 rfl rfl ?_
   refine LoopK.use G G_good (fun (k : Nat) => [(1, .ptr 10 0 0), (3, .own 31 0 k), (4, .ptr 40 0 0), (13, eInt l.length), (14, eInt k)])
    (fun k => [(10, .live 2 [eFor ⟨l, m⟩] false), (31, rInts (ot k)), (40, .live 3 [.agg [eNodes l, eInt m, .mapr 101]] false), (101, idsM (kt k))])
    (fun k => k ≤ l.length) (fun k => l.length - k) 0 (Nat.zero_le _) ?_ ?_
   ·(refine fK ?_; (with_reducible repeat' (first | exact trivial | (show _ ∧ _; refine aK ?_ ?_))); (all_goals try rfl))
    all_goals first
     | (show (l.length : Int) = _; rw [hlm])
     | (rw [ho0]; exact ⟨.refl rfl, rfl⟩)
     | (rw [hk0]; exact ⟨.refl rfl, rfl⟩)
     | skip
   intro k hk
   have hkl := hlen k
   have hkm : ((ot k).map oInt).length = k := by rw [List.length_map, hkl]
   with_reducible refine wK ?_
   refine IfK.mk (fun h1 => ?_) (fun h1 => ?_) <;> (try simp only [castN] at h1) <;> with_reducible refine wK ?_
   ·have hk' : k < l.length := by simp only [decide_eq_true_eq] at h1; omega
    have h74 := hcall k hk'
    have hst := hstep k
    generalize ownN l (k : Int) = o at h74 hst
    repeat' (first
  | refine gK ?_ | refine aE ?_ ?_
  | ((first
   | ((with_reducible refine kQ 74 ?_); refine CallK.lend (news := [idsM (kt (k + 1))]) [101] [] h74 c74 ⟨⟨rfl, rfl, trivial, trivial⟩, rfl, trivial⟩ ⟨⟨rfl, .inl ⟨rfl, noRef_ids _⟩⟩, trivial⟩ rfl ⟨⟨rfl, rfl⟩, rfl⟩ rfl ⟨⟨rfl, .inl ⟨rfl, noRef_ids _⟩⟩, trivial⟩ rfl rfl ?_)
   | ((with_reducible show AppK _ _ _ _ _ _ _ _ _ _); refine AppK.mk ((ot k).map oInt) [eInt o] ⟨rfl, hkm.symm, rfl⟩ ⟨rfl, rfl, rfl⟩ rfl (by simp; omega) (by simp; omega) ?_)
   | ((with_reducible show DrawK _ _ _ _); refine dK ?_)) <;> with_reducible refine wK ?_)
  | apply trivial)
    refine NextK.mk (k + 1) (by omega) (by omega) ?_
    rw [hst]
    (refine fK ?_; (with_reducible repeat' (first | exact trivial | (show _ ∧ _; refine aK ?_ ?_))); (all_goals try rfl))
    all_goals first
     | (simp [hkl]; done)
     | (refine ⟨?_, noRef_ints _⟩; rw [List.map_append]; exact .refl (by rw [← List.map_append]; exact noRef_ints _))
     | exact ⟨.refl (noRef_ids _), noRef_ids _⟩
     | skip
   ·have hjl : k = l.length := by simp only [decide_eq_false_iff_not] at h1; omega
    subst hjl
    repeat' (first
  | refine gK ?_ | refine aE ?_ ?_
  | apply trivial)
    all_goals exact frz_ints rfl rfl rfl hkl.symm
end Go.Proofs.Heir
