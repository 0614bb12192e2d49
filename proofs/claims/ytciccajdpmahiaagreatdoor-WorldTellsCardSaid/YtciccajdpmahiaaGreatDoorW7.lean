/- Models, plain laws and contracts of functions of the given program; conditions as stated in each theorem. By an AI agent. -/
import Derived.Test.YtciccajdpmahiaaGreatDoorW6
import Derived.Test.YtciccajdpmahiaaGreatDoorW5
set_option linter.unusedSimpArgs false
set_option linter.unusedVariables false
namespace Go.Proofs.Heir
open Go Go.Am Go.RowKit Go.Lib
set_option maxRecDepth 100000
set_option maxHeartbeats 8000000
theorem rows_snoc {R : AV → AV → Prop} {a b : List AV} {x y : AV} (h : RowsM R a b) (k : R x y) : RowsM R (a ++ [x]) (b ++ [y]) := by
 refine ⟨by simp [h.1], fun i u v hu hv => ?_⟩
 rw [List.getElem?_append] at hu hv
 rw [h.1] at hu
 by_cases hi : i < b.length
 ·rw [if_pos hi] at hu hv; exact h.2 i u v hu hv
 ·rw [if_neg hi] at hu hv
  rw [List.getElem?_singleton] at hu hv
  split at hu
  ·rename_i h0; rw [if_pos h0] at hv; cases hu; cases hv; exact k
  ·cases hu
theorem MFL_of {R : AV → AV → Prop} : ∀ {a b : List AV}, RowsM R a b → MFL R a b
 | [], [], _ => trivial
 | x :: xs, y :: ys, h => ⟨h.2 0 x y rfl rfl, MFL_of ⟨by have := h.1; simpa using this, fun i u v hu hv => h.2 (i + 1) u v (by simpa using hu) (by simpa using hv)⟩⟩
 | [], _ :: _, h => by have := h.1; simp at this
 | _ :: _, [], h => by have := h.1; simp at this
theorem ids_snoc (c : List (Int × List (ByteArray × Int))) (r : Int) (t : List (ByteArray × Int)) : idRows (c ++ [(r, t)]) = idRows c ++ [entry (vInt r) (eIds t)] := by
 unfold idRows tRows; rw [List.map_append]; rfl
theorem frz_idT {m : ML} {fz : Nat → Bool} {k : Nat} {ro : Bool} {rows : List AV} {t : List (ByteArray × Int)} (h1 : lkM m k = .live 2 rows ro) (h2 : fz k = true) (h3 : rows = tRows Value.string oInt t) : FrzMK m fz (eIds t) k := by
 subst h3
 refine ⟨2, _, ro, h1, h2, rfl, fun x hx => ?_⟩
 obtain ⟨p, _, rfl⟩ := List.mem_map.1 hx
 exact ⟨_, _, rfl, rfl⟩
theorem f250_ok (l : List NodeM) (m : Int) (hs : SmallN l) (hrt : rightF ⟨l, m⟩ = true) (c : List (Int × List (ByteArray × Int))) (hc : IdsOK l c) (r : Int) (hr : thereN l r = true) :
  FnOK Tryz.prog 250 [idsM c] [.agg [eNodes l, eInt m, .mapr 0], eInt r] [idsM (keepT l c r)] (eIds (idTab l r)) := by
 have T : Tree l := tree_of hrt
 have h78 := f265_ok ⟨l, m⟩ hs r
 have e78 : ordF ⟨l, m⟩ r = ordN l l.length r := by unfold ordF; rw [if_pos (by rw [hrt, hr]; rfl)]
 rw [e78] at h78
 have hol := ord_len T l.length hr
 have h60 := hs.len
 have hot : ∀ k ∈ ordN l l.length r, thereN l k = true := fun k hk => (ord_root T hr hk).1
 have hci := hc.is r
 have hcl := hc.len
 obtain ⟨kt, hkt⟩ : ∃ kt, keepT l c r = kt := ⟨_, rfl⟩
 rw [hkt]
 unfold keepT at hkt
 unfold idTab at hkt hci ⊢
 have hci := hci
 generalize ordN l l.length r = ks at h78 hol hot hci hkt ⊢
 have hkm : (ks.map oInt).length = ks.length := List.length_map ..
 refine FnOK.startC (rvs := [.tmp 4]) G G_good Tryz.func250 rfl Tryz.ntmps250 rfl rfl ?_; with_reducible refine wD ?_
 refine LookK.tab vInt oIds c (k := r) (zv := .lit (.map none)) mt114 ⟨_, _, rfl⟩ key_int inj_int rfl rfl (fun x hx => ?_) (fun hx => ?_)
 ·rw [hx] at hkt
  dsimp only at hkt
  subst hkt
  rw [show oIds x = eIds x from rfl]
  have hxe := hci x hx
  with_reducible refine wK ?_
  repeat' (first
  | refine gK ?_ | refine aE ?_ ?_
  | apply trivial)
  all_goals first
   | exact MFL_refl (noRef_ids c)
   | rfl
   | exact (congrArg eIds hxe).symm
   | skip
 ·rw [hx] at hkt
  dsimp only at hkt
  subst hkt
  with_reducible refine wK ?_
  repeat' (first
  | refine gK ?_ | refine aE ?_ ?_
  | (((with_reducible refine kQ 265 ?_); refine cV h78 c265 ?_) <;> with_reducible refine wK ?_)
  | apply trivial)
  refine LoopK.use G G_good (fun (j : Nat) => [(1, eInt r), (2, .ptr 20 0 0), (7, .mapr 71), (27, eInts ks), (28, eInt ks.length), (29, eInt j)])
   (fun j => [(0, idsM c), (20, .live 3 [.agg [eNodes l, eInt m, .mapr 0]] false), (71, .live 2 (tRows Value.string oInt ((ks.take j).foldl (addId l) [])) false)])
   (fun j => j ≤ ks.length) (fun j => ks.length - j) 0 (Nat.zero_le _) ?_ ?_
  ·(refine fK ?_; (with_reducible repeat' (first | exact trivial | (show _ ∧ _; refine aK ?_ ?_))); (all_goals try rfl))
   all_goals first
    | exact MFL_refl (noRef_ids c)
    | exact hkm
    | (show (ks.length : Int) = _; rw [hkm])
    | (show ObjK _ [] []; exact ⟨.refl rfl, rfl⟩)
    | skip
  intro j hj
  with_reducible refine wK ?_
  refine IfK.mk (fun h1 => ?_) (fun h1 => ?_) <;> (try simp only [castN] at h1) <;> with_reducible refine wK ?_
  ·have hj' : j < ks.length := by simp only [decide_eq_true_eq] at h1; omega
   obtain ⟨k, hk⟩ : ∃ k, ks[j]? = some k := ⟨_, List.getElem?_eq_getElem hj'⟩
   obtain ⟨i, y, e, hy, hny⟩ := there_iff.1 (hot k (List.mem_of_getElem? hk))
   have h47 := f248_ok y.attrs (by have := hs.attrs y (List.mem_of_getElem? hy); omega) idW
   have hst : (ks.take (j + 1)).foldl (addId l) [] = addId l ((ks.take j).foldl (addId l) []) k := by
    rw [List.take_add_one, hk, List.foldl_append]; rfl
   have hfl := fold_len l (ks.take j) []
   rw [List.length_nil, List.length_take] at hfl
   generalize (ks.take j).foldl (addId l) [] = t at hst hfl ⊢
   have ha : addId l t k = if 0 ≤ findP y.attrs idW ∧ tget (getS y.attrs idW) t = none then tput (getS y.attrs idW) k t else t := by
    unfold addId attV
    rw [hny]
    by_cases e1 : 0 ≤ findP y.attrs idW
    ·rw [if_pos e1]
     simp only
     cases e2 : tget (getS y.attrs idW) t with
     | none => rw [if_pos ⟨e1, rfl⟩]
     | some z => rw [if_neg (fun h => by cases h.2)]
    ·rw [if_neg e1, if_neg (fun h => e1 h.1)]
   rw [ha] at hst
   generalize hg : getS y.attrs idW = gs at h47 hst
   obtain ⟨ok, hok⟩ : ∃ ok, decide (0 ≤ findP y.attrs idW) = ok := ⟨_, rfl⟩
   rw [hok] at h47
   have hst' : (ks.take (j + 1)).foldl (addId l) [] = if ok = true ∧ tget gs t = none then tput gs k t else t := by rw [hst]; simp only [← hok, decide_eq_true_eq]
   clear ha hst hg hok
   obtain ⟨b1, b2, b3, b4, b5, b6, b7, b8, b9, b10⟩ := y
   simp only at h47
   refine IdxK.mk j (eInt k) rfl (int_get hk) ?_; with_reducible refine wK ?_
   refine IdxK.mk i (eNode _) e (node_get hy) ?_; with_reducible refine wK ?_
   refine cL h47 c248 ?_; with_reducible refine wK ?_
   refine LookK.tab Value.string oInt t (k := gs) (zv := eInt 0) map62 ⟨_, _, rfl⟩ key_str inj_str rfl rfl (fun x hx2 => ?_) (fun hx2 => ?_)
   ·rw [hx2, if_neg (fun h => by cases h.2)] at hst'
    rw [show oInt x = eInt x from rfl]
    with_reducible refine wK ?_
    cases ok <;> (
     repeat' (first
  | refine gK ?_ | refine aE ?_ ?_
  | apply trivial)
     refine NextK.mk (j + 1) (by omega) (by omega) ?_
     rw [hst']
     (refine fK ?_; (with_reducible repeat' (first | exact trivial | (show _ ∧ _; refine aK ?_ ?_))); (all_goals try rfl))
     all_goals first
      | exact MFL_refl (noRef_ids c)
      | exact ⟨.refl (noRef_idT t), noRef_idT t⟩
      | skip)
   ·rw [hx2] at hst'
    with_reducible refine wK ?_
    cases ok with
    | false =>
      rw [if_neg (fun h => by cases h.1)] at hst'
      repeat' (first
  | refine gK ?_ | refine aE ?_ ?_
  | apply trivial)
      refine NextK.mk (j + 1) (by omega) (by omega) ?_
      rw [hst']
      (refine fK ?_; (with_reducible repeat' (first | exact trivial | (show _ ∧ _; refine aK ?_ ?_))); (all_goals try rfl))
      all_goals first
       | exact MFL_refl (noRef_ids c)
       | exact ⟨.refl (noRef_idT t), noRef_idT t⟩
       | skip
    | true =>
      rw [if_pos ⟨rfl, rfl⟩] at hst'
      repeat' (first
  | refine gK ?_ | refine aE ?_ ?_
  | apply trivial)
      refine PutK.tab Value.string oInt t k map62 rfl key_str inj_str (by unfold maxLen; omega) rfl ?_; with_reducible refine wK ?_
      repeat' (first
  | refine gK ?_ | refine aE ?_ ?_
  | apply trivial)
      refine NextK.mk (j + 1) (by omega) (by omega) ?_
      rw [hst']
      (refine fK ?_; (with_reducible repeat' (first | exact trivial | (show _ ∧ _; refine aK ?_ ?_))); (all_goals try rfl))
      all_goals first
       | exact MFL_refl (noRef_ids c)
       | exact ⟨.refl (noRef_idT _), noRef_idT _⟩
       | skip
  ·have hjl : j = ks.length := by simp only [decide_eq_false_iff_not] at h1; omega
   subst hjl
   rw [List.take_length]
   generalize hT : ks.foldl (addId l) [] = t
   repeat' (first
  | refine gK ?_ | refine aE ?_ ?_
  | apply trivial)
   refine PutK.new mt114 rfl (key_int r) (tRows_ents key_int) (tRows_no inj_int hx) (by simp [idRows, tRows, maxLen]; omega) rfl rfl ?_; with_reducible refine wK ?_
   repeat' (first
  | refine gK ?_ | refine aE ?_ ?_
  | apply trivial)
   all_goals first
    | exact frz_idT rfl rfl rfl
    | skip
   rw [ids_snoc]
   refine MFL_of (rows_snoc (.refl (noRef_ids c)) ?_)
   exact ⟨rfl, ⟨frz_idT rfl rfl rfl, trivial⟩, trivial⟩
theorem frz_ids {m : ML} {fz : Nat → Bool} {k : Nat} {ro : Bool} {rows : List AV} {c : List (Int × List (ByteArray × Int))} (h1 : lkM m k = .live 2 rows ro) (h2 : fz k = true) (h3 : rows = idRows c) : FrzMK m fz (.fmap (idRows c)) k := by
 subst h3
 refine ⟨2, _, ro, h1, h2, rfl, fun x hx => ?_⟩
 obtain ⟨p, _, rfl⟩ := List.mem_map.1 hx
 exact ⟨_, _, rfl, rfl⟩
theorem att_get {x : NodeM} {w : ByteArray} : attV x w = if 0 ≤ findP x.attrs w then some (getS x.attrs w) else none := rfl
theorem conF_eq {l : List NodeM} {m : Int} (hr : rightF ⟨l, m⟩ = true) {n : Int} (hn : thereN l n = true) : conF ⟨l, m⟩ n = conN l n := by
 unfold conF conN; rw [hr, show thereN (ForM.mk l m).nodes n = true from hn]; rfl
theorem f220_ok (l : List NodeM) (m : Int) (hs : SmallN l) (hrt : rightF ⟨l, m⟩ = true) (c : List (Int × List (ByteArray × Int))) (hc : IdsOK l c) (n : Int) (hn : thereN l n = true) :
  FnOK Tryz.prog 220 [idsM c] [.agg [eNodes l, eInt m, .mapr 0], eInt n] [idsM (stepC l c n)] (eInt (ownN l n)) := by
 have T : Tree l := tree_of hrt
 have h21 := f120_ok ⟨l, m⟩ hs n
 rw [conF_eq hrt hn] at h21
 have h116 := f249_ok l m c T n hn
 have h48 := f251_ok ⟨l, m⟩ hs hrt n hn
 have hrth := (root_there T n hn).1
 have h117 := f250_ok l m hs hrt c hc (rootN l n) hrth
 have hfst := fun v k => @first_some l (rootN l n) v k
 have hord := fun k hk => (ord_root T hrth (n := k) hk).1
 obtain ⟨i, x, e, hx, hnx⟩ := there_iff.1 hn
 have h47 := f248_ok x.attrs (by have := hs.attrs x (List.mem_of_getElem? hx); omega) formW
 unfold ownN stepC byId
 rw [hnx, att_get]
 simp only at h48
 have hig := fun v => idTab_get l (rootN l n) v
 generalize rootN l n = r at h48 h117 hfst hord hig ⊢
 generalize nearN l n = nr at h116 ⊢
 generalize conN l n = cn at h21 ⊢
 generalize hgs : getS x.attrs formW = v at h47 ⊢
 obtain ⟨ok, hok⟩ : ∃ ok, decide (0 ≤ findP x.attrs formW) = ok := ⟨_, rfl⟩
 rw [hok] at h47
 have hok' : (0 ≤ findP x.attrs formW) = (ok = true) := by rw [← hok]; simp
 simp only [hok']
 clear hok hok' hgs
 obtain ⟨a1, a2, a3, a4, a5, a6, a7, a8, a9, a10⟩ := x
 simp only at h47 ⊢
 refine FnOK.startC (rvs := [.tmp 4]) G G_good Tryz.func220 rfl Tryz.ntmps220 rfl rfl ?_; with_reducible refine wD ?_
 refine IdxK.mk i (eNode _) e (node_get hx) ?_; with_reducible refine wK ?_
 by_cases e1 : a1 = 1
 ·rw [if_pos e1, if_pos e1]
  refine IfK.no (by rw [e1]; rfl) ?_; with_reducible refine wK ?_
  cases ok with
  | false =>
    rw [if_neg (by simp)]
    repeat' (first
  | refine gK ?_ | refine aE ?_ ?_
  | ((first
   | ((with_reducible refine kQ 248 ?_); refine cL h47 c248 ?_)
   | ((with_reducible refine kQ 120 ?_); refine cL h21 c120 ?_)
   | ((with_reducible refine kQ 249 ?_); refine CallK.lit [0] h116 c249 ⟨⟨rfl, rfl, frz_ids rfl rfl rfl, trivial⟩, rfl, trivial⟩ rfl rfl ?_)) <;> with_reducible refine wK ?_)
  | apply trivial)
    all_goals first | rfl | exact MFL_refl (noRef_ids c)
  | true =>
    rw [if_pos rfl]
    simp only
    cases cn with
    | false =>
      rw [if_neg (by simp), if_neg (by simp)]
      repeat' (first
  | refine gK ?_ | refine aE ?_ ?_
  | ((first
   | ((with_reducible refine kQ 248 ?_); refine cL h47 c248 ?_)
   | ((with_reducible refine kQ 120 ?_); refine cL h21 c120 ?_)
   | ((with_reducible refine kQ 249 ?_); refine CallK.lit [0] h116 c249 ⟨⟨rfl, rfl, frz_ids rfl rfl rfl, trivial⟩, rfl, trivial⟩ rfl rfl ?_)) <;> with_reducible refine wK ?_)
  | apply trivial)
      all_goals first | rfl | exact MFL_refl (noRef_ids c)
    | true =>
      rw [if_pos rfl, if_pos rfl]
      repeat' (first
  | refine gK ?_ | refine aE ?_ ?_
  | ((first
   | ((with_reducible refine kQ 248 ?_); refine cL h47 c248 ?_)
   | ((with_reducible refine kQ 120 ?_); refine cL h21 c120 ?_)
   | ((with_reducible refine kQ 251 ?_); refine cL h48 c251 ?_)) <;> with_reducible refine wK ?_)
  | apply trivial)
      refine CallK.lend (news := [idsM (keepT l c r)]) [0] [] h117 c250 ⟨⟨rfl, rfl, trivial, trivial⟩, rfl, trivial⟩ ⟨⟨rfl, .inl ⟨rfl, noRef_ids c⟩⟩, trivial⟩ rfl ⟨⟨rfl, rfl⟩, rfl⟩ rfl ⟨⟨rfl, .inl ⟨rfl, noRef_ids _⟩⟩, trivial⟩ rfl rfl ?_
      with_reducible refine wK ?_
      refine LookK.tab Value.string oInt (idTab l r) (k := v) (zv := eInt 0) map62 rfl key_str inj_str rfl rfl (fun k hk => ?_) (fun hk => ?_)
      ·rw [hig] at hk
       rw [hk, show oInt k = eInt k from rfl]
       simp only
       obtain ⟨j, y, e', hy, hny⟩ := there_iff.1 (hord k (hfst v k hk).1)
       rw [hny]
       have h81 := f252_ok y
       obtain ⟨b1, b2, b3, b4, b5, b6, b7, b8, b9, b10⟩ := y
       obtain ⟨fm, hfm⟩ : ∃ fm, isForm ⟨b1, b2, b3, b4, b5, b6, b7, b8, b9, b10⟩ = fm := ⟨_, rfl⟩
       rw [hfm] at h81 ⊢
       with_reducible refine wK ?_
       by_cases ev : v = ⟨#[]⟩
       ·rw [if_neg (fun h => h.1 ev)]
        have ev' : v = ⟨⟨[]⟩⟩ := ev
        (have fct := ev'; (repeat' (first
  | refine gF ?_ | refine aE ?_ ?_
  | (((with_reducible show DrawK _ _ _ _); refine dK ?_) <;> with_reducible refine wK ?_)
  | apply trivial)); all_goals clear fct)
        all_goals first | rfl | exact MFL_refl (noRef_ids _)
       ·have ev' : ¬ v = ⟨⟨[]⟩⟩ := ev
        cases fm with
        | true =>
          rw [if_pos ⟨ev, rfl⟩]
          (have fct := ev'; (repeat' (first
  | refine gF ?_ | refine aE ?_ ?_
  | ((first
   | ((with_reducible show DrawK _ _ _ _); refine dK ?_)
   | (refine IdxK.mk j (eNode ⟨b1, b2, b3, b4, b5, b6, b7, b8, b9, b10⟩) e' (node_get hy) ?_)
   | ((with_reducible refine kQ 252 ?_); refine cL h81 c252 ?_)) <;> with_reducible refine wK ?_)
  | apply trivial)); all_goals clear fct)
          all_goals first | rfl | exact MFL_refl (noRef_ids _)
        | false =>
          rw [if_neg (fun h => by cases h.2)]
          (have fct := ev'; (repeat' (first
  | refine gF ?_ | refine aE ?_ ?_
  | ((first
   | ((with_reducible show DrawK _ _ _ _); refine dK ?_)
   | (refine IdxK.mk j (eNode ⟨b1, b2, b3, b4, b5, b6, b7, b8, b9, b10⟩) e' (node_get hy) ?_)
   | ((with_reducible refine kQ 252 ?_); refine cL h81 c252 ?_)) <;> with_reducible refine wK ?_)
  | apply trivial)); all_goals clear fct)
          all_goals first | rfl | exact MFL_refl (noRef_ids _)
      ·rw [hig] at hk
       rw [hk]
       with_reducible refine wK ?_
       repeat' (first
  | refine gK ?_ | refine aE ?_ ?_
  | (((with_reducible show DrawK _ _ _ _); refine dK ?_) <;> with_reducible refine wK ?_)
  | apply trivial)
       all_goals first | rfl | exact MFL_refl (noRef_ids _)
 ·rw [if_neg e1, if_neg e1]
  (have fct := (eq_false e1); (repeat' (first
  | refine gF ?_ | refine aE ?_ ?_
  | apply trivial)); all_goals clear fct)
  all_goals first | rfl | exact MFL_refl (noRef_ids c)
theorem idsOK_nil (l : List NodeM) : IdsOK l [] := ⟨fun r t h => (by cases h), (by simp)⟩
def ownTo (l : List NodeM) (k : Nat) : List Int := (List.range k).map fun n : Nat => ownN l (n : Int)
def keepTo (l : List NodeM) : Nat → List (Int × List (ByteArray × Int))
 | 0 => []
 | k + 1 => stepC l (keepTo l k) (k : Int)
theorem keepTo_ok (l : List NodeM) : ∀ k, k ≤ 64 → IdsOK l (keepTo l k) ∧ (keepTo l k).length ≤ k
 | 0, _ => ⟨idsOK_nil l, Nat.le_refl _⟩
 | k + 1, h => by
   obtain ⟨h1, h2⟩ := keepTo_ok l k (by omega)
   have h3 := stepC_len l (keepTo l k) (k : Int)
   exact ⟨⟨stepC_is h1.is _, by show (stepC l (keepTo l k) (k : Int)).length ≤ _; omega⟩, by show (stepC l (keepTo l k) (k : Int)).length ≤ _; omega⟩
theorem ownTo_step (l : List NodeM) (k : Nat) : ownTo l (k + 1) = ownTo l k ++ [ownN l (k : Int)] := by unfold ownTo; rw [List.range_succ, List.map_append]; rfl
theorem ownTo_len (l : List NodeM) (k : Nat) : (ownTo l k).length = k := by unfold ownTo; simp
def allF (f : ForM) : List Int := if rightF f = true then ownTo f.nodes f.nodes.length else []
theorem f169_ok (f : ForM) (hs : SmallN f.nodes) : FnOK Tryz.prog 169 [] [eFor f] [] (eInts (allF f)) := by
 have h15 := f100_ok f hs
 have h73 := f219_ok f
 have h60 := hs.len
 obtain ⟨l, m⟩ := f
 unfold allF
 simp only at h73 h60 ⊢
 have hlm : (l.map oNode).length = l.length := List.length_map ..
 obtain ⟨o, ho⟩ : ∃ o, (if rightF ⟨l, m⟩ = true then ownTo l l.length else []) = o := ⟨_, rfl⟩
 rw [ho]
 refine FnOK.startC (rvs := [.tmp 2]) G G_good Tryz.func169 rfl Tryz.ntmps169 rfl rfl ?_; with_reducible refine wD ?_
 cases hr : rightF ⟨l, m⟩ with
 | false =>
   rw [hr] at h15
   rw [hr, if_neg (by simp)] at ho
   subst ho
   repeat' (first
  | refine gK ?_ | refine aE ?_ ?_
  | (((with_reducible refine kQ 100 ?_); refine cL h15 c100 ?_) <;> with_reducible refine wK ?_)
  | apply trivial)
   all_goals exact .inr (.inr ⟨1, rfl⟩)
 | true =>
   rw [hr] at h15
   rw [hr, if_pos rfl] at ho
   subst ho
   have hstep := fun k => ownTo_step l k
   have hlen := fun k => ownTo_len l k
   have hcall : ∀ k, k < l.length → FnOK Tryz.prog 220 [idsM (keepTo l k)] [.agg [eNodes l, eInt m, .mapr 0], eInt (k : Int)] [idsM (keepTo l (k + 1))] (eInt (ownN l (k : Int))) := fun k hk =>
    f220_ok l m hs hr (keepTo l k) (keepTo_ok l k (by omega)).1 k (there_get (List.getElem?_eq_getElem hk))
   have hk0 : keepTo l 0 = [] := rfl
   have ho0 : ownTo l 0 = [] := rfl
   generalize keepTo l = kt at hcall hk0
   generalize ownTo l = ot at hstep hlen ho0 ⊢
   repeat' (first
  | refine gK ?_ | refine aE ?_ ?_
  | ((first
   | ((with_reducible refine kQ 100 ?_); refine cL h15 c100 ?_)
   | ((with_reducible refine kQ 219 ?_); refine CallK.new 101 [] h73 c219 ⟨⟨rfl, rfl, trivial⟩, trivial⟩ rfl rfl rfl ⟨.nil _, rfl, trivial⟩ rfl ?_)) <;> with_reducible refine wK ?_)
  | apply trivial)
   refine LoopK.ghost 3 31 1 rfl rfl ?_
   refine LoopK.use G G_good (fun (k : Nat) => [(1, .ptr 10 0 0), (3, .own 31 0 k), (4, .ptr 40 0 0), (13, eInt l.length), (14, eInt k)])
    (fun k => [(10, .live 2 [eFor ⟨l, m⟩] false), (31, rInts (ot k)), (40, .live 3 [.agg [eNodes l, eInt m, .mapr 101]] false), (101, idsM (kt k))])
    (fun k => k ≤ l.length) (fun k => l.length - k) 0 (Nat.zero_le _) ?_ ?_
   ·(refine fK ?_; (with_reducible repeat' (first | exact trivial | (show _ ∧ _; refine aK ?_ ?_))); (all_goals try rfl))
    all_goals first
     | (show (l.length : Int) = _; rw [hlm])
     | (rw [ho0]; exact ⟨.refl rfl, rfl⟩)
     | (rw [hk0]; exact ⟨.refl rfl, rfl⟩)
     | skip
   intro k hk
   have hkl := hlen k
   have hkm : ((ot k).map oInt).length = k := by rw [List.length_map, hkl]
   with_reducible refine wK ?_
   refine IfK.mk (fun h1 => ?_) (fun h1 => ?_) <;> (try simp only [castN] at h1) <;> with_reducible refine wK ?_
   ·have hk' : k < l.length := by simp only [decide_eq_true_eq] at h1; omega
    have h74 := hcall k hk'
    have hst := hstep k
    generalize ownN l (k : Int) = o at h74 hst
    repeat' (first
  | refine gK ?_ | refine aE ?_ ?_
  | ((first
   | ((with_reducible refine kQ 220 ?_); refine CallK.lend (news := [idsM (kt (k + 1))]) [101] [] h74 c220 ⟨⟨rfl, rfl, trivial, trivial⟩, rfl, trivial⟩ ⟨⟨rfl, .inl ⟨rfl, noRef_ids _⟩⟩, trivial⟩ rfl ⟨⟨rfl, rfl⟩, rfl⟩ rfl ⟨⟨rfl, .inl ⟨rfl, noRef_ids _⟩⟩, trivial⟩ rfl rfl ?_)
   | ((with_reducible show AppK _ _ _ _ _ _ _ _ _ _); refine AppK.mk ((ot k).map oInt) [eInt o] ⟨rfl, hkm.symm, rfl⟩ ⟨rfl, rfl, rfl⟩ rfl (by simp; omega) (by simp; omega) ?_)
   | ((with_reducible show DrawK _ _ _ _); refine dK ?_)) <;> with_reducible refine wK ?_)
  | apply trivial)
    refine NextK.mk (k + 1) (by omega) (by omega) ?_
    rw [hst]
    (refine fK ?_; (with_reducible repeat' (first | exact trivial | (show _ ∧ _; refine aK ?_ ?_))); (all_goals try rfl))
    all_goals first
     | (simp [hkl]; done)
     | (refine ⟨?_, noRef_ints _⟩; rw [List.map_append]; exact .refl (by rw [← List.map_append]; exact noRef_ints _))
     | exact ⟨.refl (noRef_ids _), noRef_ids _⟩
     | skip
   ·have hjl : k = l.length := by simp only [decide_eq_false_iff_not] at h1; omega
    subst hjl
    repeat' (first
  | refine gK ?_ | refine aE ?_ ?_
  | apply trivial)
    all_goals exact frz_ints rfl rfl rfl hkl.symm
theorem fin_succ {l : List NodeM} {m : Nat} {n : Int} : finN l (m + 1) n = if (nd l n).parent = -1 then true else finN l m (nd l n).parent := rfl
theorem walk_succ {l : List NodeM} {m : Nat} {b : Int} : walkB l (m + 1) b = if (nd l b).parent = -1 then false else (condB l (nd l b).parent b || walkB l m (nd l b).parent) := rfl
theorem f221_ok (f : ForM) (hs : SmallN f.nodes) (T : Tree f.nodes) (k : Nat) (x : NodeM) (hx : f.nodes[k]? = some x) : FnOK Tryz.prog 221 [] [eFor f, eInt k] [] (eBool (barN f.nodes k)) := by
 have h28 : ∀ x ∈ f.nodes, FnOK Tryz.prog 253 [] [eNode x] [] (eBool (disX x)) := fun x hx => f253_ok x (by have := hs.attrs x hx; omega)
 have h20 : ∀ (k : Nat) (x : NodeM), f.nodes[k]? = some x → FnOK Tryz.prog 254 [] [eFor f, eInt k] [] (eInt (legN f.nodes k)) := fun k x hx => f254_ok f hs k x hx fun c hc => by
  have := T.kid k (there_get hx) c
  rw [nd_get hx] at this
  exact (this hc).1
 have hfin := T.fin k (there_get hx)
 have hpar := T.par
 have hk := (List.getElem?_eq_some_iff.1 hx).1
 obtain ⟨l, m⟩ := f
 unfold barN
 simp only at h28 h20 hx hfin hpar hk ⊢
 rw [nd_get hx]
 have hx' := hx
 have h28x := h28 x (List.mem_of_getElem? hx)
 have hw : disX x = false → x.kind = 1 → ∀ b : Bool, walkB l l.length k = b → (disX x || (decide (x.kind = 1) && walkB l l.length k)) = b := fun h1 h2 b h => by rw [h1, h2, h]; simp
 have hwn : disX x = false → x.kind ≠ 1 → (disX x || (decide (x.kind = 1) && walkB l l.length k)) = false := fun h1 h2 => by rw [h1, decide_eq_false h2]; rfl
 have hwy : disX x = true → (disX x || (decide (x.kind = 1) && walkB l l.length k)) = true := fun h1 => by rw [h1]; rfl
 have hdk := @dis_kind x
 obtain ⟨a1, a2, a3, a4, a5, a6, a7, a8, a9, a10⟩ := x
 have hxp : (nd l k).parent = a6 := by rw [nd_get hx]
 simp only at hw hwn hwy hdk ⊢
 refine FnOK.startC (rvs := [.tmp 4]) G G_good Tryz.func221 rfl Tryz.ntmps221 rfl rfl ?_; with_reducible refine wD ?_
 refine IdxK.mk k (eNode _) rfl (node_get hx) ?_; with_reducible refine wK ?_
 refine cL h28x c253 ?_; with_reducible refine wK ?_
 cases d0 : disX ⟨a1, a2, a3, a4, a5, a6, a7, a8, a9, a10⟩ with
 | true =>
   have e1 := hdk d0
   rw [Bool.true_or]
   (have fct := And.intro d0 (e1); (repeat' (first
  | refine gF ?_ | refine aE ?_ ?_
  | ((refine IdxK.mk k (eNode _) rfl (node_get hx) ?_) <;> with_reducible refine wK ?_)
  | apply trivial)); all_goals clear fct)
   all_goals simp [e1]
 | false =>
   by_cases e1 : ¬ a1 = 1
   ·rw [decide_eq_false e1]
    (have fct := And.intro d0 ((eq_false e1)); (repeat' (first
  | refine gF ?_ | refine aE ?_ ?_
  | ((refine IdxK.mk k (eNode _) rfl (node_get hx) ?_) <;> with_reducible refine wK ?_)
  | apply trivial)); all_goals clear fct)
    all_goals simp
   have e1 := Decidable.not_not.1 e1
   rw [decide_eq_true e1, Bool.false_or, Bool.true_and]
   (have fct := And.intro d0 (e1); (repeat' (first
  | refine gF ?_ | refine aE ?_ ?_
  | ((refine IdxK.mk k (eNode _) rfl (node_get hx) ?_) <;> with_reducible refine wK ?_)
  | apply trivial)); all_goals clear fct)
   refine LoopK.use G G_good (fun (i : Nat × Nat) => [(2, .ptr 20 0 0), (5, eInt i.2), (6, eInt (nd l i.2).parent)]) (fun _ => [(20, .live 2 [eFor ⟨l, m⟩] false)])
    (fun i => i.2 < l.length ∧ finN l i.1 i.2 = true ∧ walkB l l.length k = walkB l i.1 i.2) (fun i => i.1) (l.length, k) ⟨hk, hfin, rfl⟩
    ⟨⟨rfl, rfl⟩, ⟨⟨rfl, rfl⟩, rfl, hxp, trivial⟩, ⟨⟨rfl, rfl, trivial⟩, trivial⟩, trivial⟩ ?_
   rintro ⟨n, b⟩ ⟨hb, hf, hwk⟩
   simp only at hb hf hwk
   obtain ⟨y, hy⟩ : ∃ y, l[b]? = some y := ⟨_, List.getElem?_eq_getElem hb⟩
   have hpb := hpar b (there_get hy)
   cases n with
   | zero => simp [finN] at hf
   | succ n =>
   rw [fin_succ] at hf
   rw [walk_succ] at hwk
   rw [nd_get hy] at hf hwk hpb
   with_reducible refine wK ?_
   simp only [nd_get hy]
   obtain ⟨b1, b2, b3, b4, b5, b6, b7, b8, b9, b10⟩ := y
   simp only at hf hwk hpb ⊢
   by_cases p1 : b6 = -1
   ·rw [if_pos p1] at hwk
    rw [hwk]
    (have fct := p1; (repeat' (first
  | refine gF ?_ | refine aE ?_ ?_
  | apply trivial)); all_goals clear fct)
   ·rw [if_neg p1] at hf hwk
    obtain ⟨i, z, rfl, hz, hnz⟩ := there_iff.1 (hpb p1).1
    have h28z := h28 z (List.mem_of_getElem? hz)
    have h20z := h20 i z hz
    have hi := (List.getElem?_eq_some_iff.1 hz).1
    have hzp : (nd l i).parent = z.parent := by rw [hnz]
    unfold condB at hwk
    rw [hnz] at hwk
    obtain ⟨z1, z2, z3, z4, z5, z6, z7, z8, z9, z10⟩ := z
    simp only at hwk hzp
    have hne : ¬ ((i : Int) = -1) := p1
    refine IfK.yes (by simp [hne]) ?_; with_reducible refine wK ?_
    refine IdxK.mk i (eNode ⟨z1, z2, z3, z4, z5, z6, z7, z8, z9, z10⟩) rfl (node_get hz) ?_; with_reducible refine wK ?_
    by_cases f1 : z2 = fldW
    ·cases d1 : disX ⟨z1, z2, z3, z4, z5, z6, z7, z8, z9, z10⟩ with
     | true =>
       by_cases g1 : legN l i = b
       ·rw [d1, decide_eq_false (fun h : legN l i ≠ b => h g1), Bool.and_false, Bool.and_false, Bool.false_or] at hwk
        (have fct := And.intro f1 (And.intro d1 (g1)); (repeat' (first
  | refine gF ?_ | refine aE ?_ ?_
  | ((first
   | ((with_reducible refine kQ 253 ?_); refine cL h28z c253 ?_)
   | ((with_reducible refine kQ 254 ?_); refine cL h20z c254 ?_)
   | (refine IdxK.mk i (eNode ⟨z1, z2, z3, z4, z5, z6, z7, z8, z9, z10⟩) rfl (node_get hz) ?_)
   | ((with_reducible show NextK _ _); refine NextK.mk (n, i) ⟨hi, hf, hwk⟩ (Nat.lt_succ_self n) ⟨⟨rfl, rfl⟩, ⟨⟨rfl, rfl⟩, rfl, hzp, trivial⟩, ⟨⟨rfl, rfl, trivial⟩, trivial⟩, trivial⟩)) <;> with_reducible refine wK ?_)
  | apply trivial)); all_goals clear fct)
       ·rw [d1, decide_eq_true f1, decide_eq_true (show legN l i ≠ b from g1)] at hwk
        rw [hwk]
        (have fct := And.intro f1 (And.intro d1 ((eq_false g1))); (repeat' (first
  | refine gF ?_ | refine aE ?_ ?_
  | ((first
   | ((with_reducible refine kQ 253 ?_); refine cL h28z c253 ?_)
   | ((with_reducible refine kQ 254 ?_); refine cL h20z c254 ?_)) <;> with_reducible refine wK ?_)
  | apply trivial)); all_goals clear fct)
        all_goals simp
     | false =>
       rw [d1, Bool.false_and, Bool.and_false, Bool.false_or] at hwk
       (have fct := And.intro f1 (d1); (repeat' (first
  | refine gF ?_ | refine aE ?_ ?_
  | ((first
   | ((with_reducible refine kQ 253 ?_); refine cL h28z c253 ?_)
   | (refine IdxK.mk i (eNode ⟨z1, z2, z3, z4, z5, z6, z7, z8, z9, z10⟩) rfl (node_get hz) ?_)
   | ((with_reducible show NextK _ _); refine NextK.mk (n, i) ⟨hi, hf, hwk⟩ (Nat.lt_succ_self n) ⟨⟨rfl, rfl⟩, ⟨⟨rfl, rfl⟩, rfl, hzp, trivial⟩, ⟨⟨rfl, rfl, trivial⟩, trivial⟩, trivial⟩)) <;> with_reducible refine wK ?_)
  | apply trivial)); all_goals clear fct)
    ·rw [decide_eq_false f1, Bool.false_and, Bool.false_or] at hwk
     (have fct := (eq_false f1); (repeat' (first
  | refine gF ?_ | refine aE ?_ ?_
  | ((first
   | (refine IdxK.mk i (eNode ⟨z1, z2, z3, z4, z5, z6, z7, z8, z9, z10⟩) rfl (node_get hz) ?_)
   | ((with_reducible show NextK _ _); refine NextK.mk (n, i) ⟨hi, hf, hwk⟩ (Nat.lt_succ_self n) ⟨⟨rfl, rfl⟩, ⟨⟨rfl, rfl⟩, rfl, hzp, trivial⟩, ⟨⟨rfl, rfl, trivial⟩, trivial⟩, trivial⟩)) <;> with_reducible refine wK ?_)
  | apply trivial)); all_goals clear fct)
theorem f172_ok (f : ForM) (hs : SmallN f.nodes) (n : Int) : FnOK Tryz.prog 172 [] [eFor f, eInt n] [] (eBool (thereN f.nodes n && (rightF f && barN f.nodes n))) := by
 have h13 := f100_ok f hs
 have h18 : rightF f = true → ∀ (k : Nat) (x : NodeM), f.nodes[k]? = some x → FnOK Tryz.prog 221 [] [eFor f, eInt k] [] (eBool (barN f.nodes k)) := fun hr k x hx => f221_ok f hs (tree_of hr) k x hx
 obtain ⟨l, m⟩ := f
 simp only at h13 h18 ⊢
 have hlm : (l.map oNode).length = l.length := List.length_map ..
 refine FnOK.startC (rvs := [.tmp 4]) G G_good Tryz.func172 rfl Tryz.ntmps172 rfl rfl ?_; with_reducible refine wD ?_
 by_cases e0 : ¬ 0 ≤ n
 ·have ht : thereN l n = false := by unfold thereN; simp [e0]
  rw [ht]
  (have fct := (eq_false e0); (repeat' (first
  | refine gF ?_ | refine aE ?_ ?_
  | apply trivial)); all_goals clear fct)
  all_goals simp
 have e0 := Decidable.not_not.1 e0
 by_cases e1 : ¬ n < (l.length : Int)
 ·have ht : thereN l n = false := by unfold thereN; simp [e1]
  rw [ht]
  (have fct := And.intro e0 (And.intro hlm ((eq_false e1))); (repeat' (first
  | refine gF ?_ | refine aE ?_ ?_
  | apply trivial)); all_goals clear fct)
  all_goals simp
 have e1 := Decidable.not_not.1 e1
 have ht : thereN l n = true := by unfold thereN; simp [e0, e1]
 obtain ⟨k, x, rfl, hx, _⟩ := there_iff.1 ht
 rw [ht]
 cases hr : rightF ⟨l, m⟩ with
 | false =>
   (have fct := And.intro hlm (And.intro e0 (And.intro e1 (hr))); (repeat' (first
  | refine gF ?_ | refine aE ?_ ?_
  | (((with_reducible refine kQ 100 ?_); refine cL h13 c100 ?_) <;> with_reducible refine wK ?_)
  | apply trivial)); all_goals clear fct)
   all_goals simp
 | true =>
   have h18' := h18 hr k x hx
   (have fct := And.intro hlm (And.intro e0 (And.intro e1 (hr))); (repeat' (first
  | refine gF ?_ | refine aE ?_ ?_
  | ((first
   | ((with_reducible refine kQ 100 ?_); refine cL h13 c100 ?_)
   | ((with_reducible refine kQ 221 ?_); refine cL h18' c221 ?_)) <;> with_reducible refine wK ?_)
  | apply trivial)); all_goals clear fct)
   all_goals simp
@[reducible] def mStates (l : List StateM) : MS := .live 4 (l.map oState) false
theorem noRef_states (l : List StateM) : noRefL (l.map oState) = true := noRefL_map oState (fun _ => rfl) l
theorem one_states (l : List StateM) : oneL (flat (l.map oState)) = true := oneL_map oState (fun _ => rfl) l
theorem states_outs (l : List StateM) : okOuts [mStates l] := ⟨Wide.of_mem fun r hr => by
 obtain ⟨a, _, rfl⟩ := List.mem_map.1 hr
 rfl, noRef_states l, trivial⟩
theorem frz_states {m : ML} {fz : Nat → Bool} {tab : List (Nat × Nat)} {n t len : Nat} {ro : Bool} {rows : List AV} {l : List StateM} (h1 : lkM m t = .live 4 rows ro) (h2 : fz t = true) (h3 : rows = l.map oState) (h4 : len = l.length) : FrzK m fz (MF tab fz m n) (eStates l) t 0 len := by
 subst h3; subst h4
 have e : (l.map oState).length = l.length := List.length_map ..
 exact .cut h1 h2 (by omega) (by rw [List.drop_zero, List.take_of_length_le (by omega)]) (noRef_states l)
theorem f102_ok (l : List StateM) (hl : l.length ≤ 100000) : FnOK Tryz.prog 102 [] [eStates l] [mStates l] (.own 0 0 l.length) := by
 have hlm : (l.map oState).length = l.length := List.length_map ..
 refine FnOK.startC (rvs := [.tmp 2]) G G_good Tryz.func102 rfl Tryz.ntmps102 rfl rfl ?_; with_reducible refine wD ?_
 refine GuessK.mk (fun h => ?_) (fun _ => ?_) <;> with_reducible refine wK ?_
 ·obtain rfl : l = [] := by simpa using h
  (refine eK ?_ ?_ <;> with_reducible repeat' (first | exact trivial | (show _ ∧ _; refine aK ?_ ?_)))
  all_goals first | rfl | trivial
 ·refine AppK.mk [] (l.map oState) ⟨rfl, rfl, rfl⟩ ⟨rfl, rfl, rfl⟩ (one_states l) (by simp; omega) (by simp; omega) ?_; with_reducible refine wK ?_
  (refine eK ?_ ?_ <;> with_reducible repeat' (first | exact trivial | (show _ ∧ _; refine aK ?_ ?_)))
  ·exact hlm.symm
  ·exact MFL_refl (noRef_states l)
theorem snoc_duesN (l : List DueN) (x : DueN) : l.map oDueN ++ [eDueN x] = (l ++ [x]).map oDueN := by rw [List.map_append]; rfl
@[reducible] def eHall (f : ForM) (x : AV) (d : DeskM) (cs : List ClassM) (y : AV) : AV := .agg [eNodes f.nodes, eInt f.most, x, eDefs d.defs, eWaits d.waits, eInt d.next, eBool d.busy, eClasses cs, y]
@[reducible] def mHall (f : ForM) (x : AV) (d : DeskM) (cs : List ClassM) (y : AV) : MS := .live 9 [eHall f x d cs y] false
@[reducible] def nilA : AV := .lit (.slice none 0 0)
theorem f168_ok (f : ForM) (hs : SmallN f.nodes) (st : List StateM) (hst : st.length ≤ 100000) (d : DeskM) (hd : SmallD d) (cs : List ClassM) :
  FnOK Tryz.prog 168 [] [eFor f, eStates st, eDesk d, eClasses cs] [mHall f (.own 1 0 st.length) d cs nilA, mStates st] (.tup [.ptr 0 0 0, eBool (lookV f st d)]) := by
 have h15 := f100_ok f hs
 have h71 := f144_ok d hd
 have h108 := f102_ok st hst
 have hsm : (st.map oState).length = st.length := List.length_map ..
 have hlm := (show (f.nodes.map oNode).length = f.nodes.length from List.length_map ..)
 unfold lookV
 obtain ⟨l, m⟩ := f
 obtain ⟨d1, d2, d3, d4⟩ := d
 simp only at h15 h71 hlm ⊢
 refine FnOK.startC (rvs := [.tmp 8, .tmp 9]) G G_good Tryz.func168 rfl Tryz.ntmps168 rfl rfl ?_; with_reducible refine wD ?_
 refine CallK.new 131 [] h108 c102 ⟨rfl, trivial⟩ rfl rfl rfl (states_outs st) rfl ?_; with_reducible refine wK ?_
 by_cases e1 : st.length = l.length
 ·cases e2 : rightF ⟨l, m⟩ <;> rw [e2] at h15
  ·(have fct := And.intro hsm (And.intro hlm ((eq_true e1))); (repeat' (first
  | refine gF ?_ | refine aE ?_ ?_
  | ((first
   | ((with_reducible refine kQ 100 ?_); refine cL h15 c100 ?_)
   | ((with_reducible show DrawK _ _ _ _); refine dK ?_)) <;> with_reducible refine wK ?_)
  | apply trivial)); all_goals clear fct)
   all_goals first | (simp [e1]; done) | exact ⟨.refl (noRef_states st), noRef_states st⟩ | exact .inl rfl | rfl
  ·cases e3 : rightD ⟨d1, d2, d3, d4⟩ <;> rw [e3] at h71
   all_goals ((have fct := And.intro hsm (And.intro hlm ((eq_true e1))); (repeat' (first
  | refine gF ?_ | refine aE ?_ ?_
  | ((first
   | ((with_reducible refine kQ 100 ?_); refine cL h15 c100 ?_)
   | ((with_reducible refine kQ 144 ?_); refine cL h71 c144 ?_)
   | ((with_reducible show DrawK _ _ _ _); refine dK ?_)) <;> with_reducible refine wK ?_)
  | apply trivial)); all_goals clear fct))
   all_goals first | (simp [e1]; done) | exact ⟨.refl (noRef_states st), noRef_states st⟩ | exact .inl rfl | rfl
 ·(have fct := And.intro hsm (And.intro hlm ((eq_false e1))); (repeat' (first
  | refine gF ?_ | refine aE ?_ ?_
  | (((with_reducible show DrawK _ _ _ _); refine dK ?_) <;> with_reducible refine wK ?_)
  | apply trivial)); all_goals clear fct)
  all_goals first | (simp [e1]; done) | exact ⟨.refl (noRef_states st), noRef_states st⟩ | exact .inl rfl | rfl
theorem f171_yes (f : ForM) (st : List StateM) (d : DeskM) (cs : List ClassM) (due : List DueN) (hdl : due.length ≤ 100000) (c : ClassM) (hc : c.hooks.length ≤ 100000) (n : Int) (t : TodoM) (hh : hearsC c t.kind = true) :
  FnOK Tryz.prog 171 [mHall f (.own 1 0 st.length) d cs (.own 2 0 due.length), mStates st, rDuesN due] [.ptr 0 0 0, eClass c, eInt n, eTodo t]
   [mHall f (.own 1 0 st.length) d cs (.own 3 0 (due.length + 1)), mStates st, .dead, rDuesN (due ++ [⟨n, t⟩])] (.tup []) := by
 have h37 := f119_ok c hc t.kind
 rw [hh] at h37
 have hdm : (due.map oDueN).length = due.length := List.length_map ..
 obtain ⟨l, m⟩ := f
 obtain ⟨d1, d2, d3, d4⟩ := d
 obtain ⟨c1, c2, c3, c4, c5⟩ := c
 obtain ⟨t1, t2, t3, t4, t5, t6, t7, t8, t9, t10⟩ := t
 simp only at h37
 refine FnOK.startB (rvs := []) G G_good Tryz.func171 rfl Tryz.ntmps171 rfl rfl ?_; with_reducible refine wD ?_
 repeat' (first
  | refine gK ?_ | refine aE ?_ ?_
  | ((first
   | ((with_reducible refine kQ 119 ?_); refine cL h37 c119 ?_)
   | ((with_reducible show AppK _ _ _ _ _ _ _ _ _ _); refine AppK.mk (due.map oDueN) [eDueN ⟨n, ⟨t1, t2, t3, t4, t5, t6, t7, t8, t9, t10⟩⟩] ⟨rfl, hdm.symm, rfl⟩ ⟨rfl, rfl, rfl⟩ rfl (by simp; omega) (by simp; omega) ?_)
   | ((with_reducible show DrawK _ _ _ _); refine dK ?_)) <;> with_reducible refine wK ?_)
  | apply trivial)
 all_goals first
  | (simp; done)
  | exact ⟨.refl (noRef_states st), noRef_states st⟩
  | (show ObjK _ ((due ++ ([⟨n, ⟨t1, t2, t3, t4, t5, t6, t7, t8, t9, t10⟩⟩] : List DueN)).map oDueN) (due.map oDueN ++ [eDueN ⟨n, ⟨t1, t2, t3, t4, t5, t6, t7, t8, t9, t10⟩⟩]); rw [snoc_duesN]; exact ⟨.refl (noRef_duesN _), noRef_duesN _⟩)
theorem f171_no (f : ForM) (st : List StateM) (d : DeskM) (cs : List ClassM) (due : List DueN) (c : ClassM) (hc : c.hooks.length ≤ 100000) (n : Int) (t : TodoM) (hh : hearsC c t.kind = false) :
  FnOK Tryz.prog 171 [mHall f (.own 1 0 st.length) d cs (.own 2 0 due.length), mStates st, rDuesN due] [.ptr 0 0 0, eClass c, eInt n, eTodo t]
   [mHall f (.own 1 0 st.length) d cs (.own 2 0 due.length), mStates st, rDuesN due] (.tup []) := by
 have h37 := f119_ok c hc t.kind
 rw [hh] at h37
 obtain ⟨l, m⟩ := f
 obtain ⟨d1, d2, d3, d4⟩ := d
 obtain ⟨c1, c2, c3, c4, c5⟩ := c
 obtain ⟨t1, t2, t3, t4, t5, t6, t7, t8, t9, t10⟩ := t
 simp only at h37
 refine FnOK.startC (rvs := []) G G_good Tryz.func171 rfl Tryz.ntmps171 rfl rfl ?_; with_reducible refine wD ?_
 repeat' (first
  | refine gK ?_ | refine aE ?_ ?_
  | (((with_reducible refine kQ 119 ?_); refine cL h37 c119 ?_) <;> with_reducible refine wK ?_)
  | apply trivial)
 all_goals first
  | exact ⟨.refl (noRef_states st), noRef_states st⟩
  | exact ⟨.refl (noRef_duesN due), noRef_duesN due⟩
section
variable {m : ML} {b s e : Nat} {f : ForM} {st st' : List StateM} {d : DeskM} {cs : List ClassM} {due due' : List DueN} {k k' n n' : Nat}
theorem ins_hall (hb : lkM m b = mHall f (.own s 0 n) d cs (.own e 0 k)) (hs : lkM m s = mStates st) (he : lkM m e = rDuesN due) {r : List Nat} : InsM (tabR 3 0 (b :: s :: e :: r)) [] m [mHall f (.own 1 0 n) d cs (.own 2 0 k), mStates st, rDuesN due] (b :: s :: e :: r) := by
 simp only [InsM, hb, hs, he]
 refine ⟨⟨trivial, .inr ⟨⟨⟨rfl, rfl, ?_, rfl, rfl, rfl, rfl, rfl, ?_, trivial⟩, trivial⟩, rfl⟩⟩, ⟨trivial, .inl ⟨rfl, noRef_states _⟩⟩, ⟨trivial, .inl ⟨rfl, noRef_duesN _⟩⟩, trivial⟩
 all_goals (simp [MF, tabR, lkN, Nat.beq_refl])
theorem news_hall : NewsM [b, s, e] [mHall f (.own 1 0 n) d cs (.own 2 0 k), mStates st, rDuesN due] [mHall f (.own s 0 n) d cs (.own e 0 k), mStates st, rDuesN due] :=
 ⟨⟨rfl, .inr ⟨rfl, rfl, rfl⟩⟩, ⟨rfl, .inl ⟨rfl, noRef_states _⟩⟩, ⟨rfl, .inl ⟨rfl, noRef_duesN _⟩⟩, trivial⟩
theorem news_tell {q : Nat} : NewsM [b, s, e, q] [mHall f (.own 1 0 n) d cs (.own 3 0 k), mStates st, .dead, rDuesN due] [mHall f (.own s 0 n) d cs (.own q 0 k), mStates st, .dead, rDuesN due] :=
 ⟨⟨rfl, .inr ⟨rfl, rfl, rfl⟩⟩, ⟨rfl, .inl ⟨rfl, noRef_states _⟩⟩, ⟨rfl, .inl ⟨rfl, noRef_duesN _⟩⟩, trivial⟩
end
theorem set_st (l : List StateM) (k : Nat) (y : StateM) : (l.map oState).set (0 + k) (eState y) = (l.set k y).map oState := by rw [Nat.zero_add, List.map_set]; rfl
theorem f170_own (f : ForM) (st : List StateM) (ns : Nat) (hns : st.length = ns) (d : DeskM) (cs : List ClassM) (due : List DueN) (k : Nat) (s : StateM) (hk : st[k]? = some s) (ht : thereN f.nodes (k : Int) = true) :
  FnOK Tryz.prog 170 [mHall f (.own 1 0 ns) d cs (.own 2 0 due.length), mStates st, rDuesN due] [.ptr 0 0 0, eInt k] [mHall f (.own 1 0 ns) d cs (.own 2 0 due.length), mStates st, rDuesN due] (.tup [eClass (classV s d cs), eBool (dutyB f d cs k s)]) := by
 have hkl := (List.getElem?_eq_some_iff.1 hk).1
 have h36 := f117_ok s d cs
 unfold dutyB
 obtain ⟨i, x, e, hx, hnx⟩ := there_iff.1 ht
 rw [hnx]
 obtain ⟨l, m⟩ := f
 obtain ⟨d1, d2, d3, d4⟩ := d
 obtain ⟨cv, hcv⟩ : ∃ cv, classV s ⟨d1, d2, d3, d4⟩ cs = cv := ⟨_, rfl⟩
 obtain ⟨cb, hcb⟩ : ∃ cb, classB s ⟨d1, d2, d3, d4⟩ cs = cb := ⟨_, rfl⟩
 rw [hcv, hcb] at h36 ⊢
 obtain ⟨s1, s2, s3, s4⟩ := s
 obtain ⟨c1, c2, c3, c4, c5⟩ := cv
 obtain ⟨a1, a2, a3, a4, a5, a6, a7, a8, a9, a10⟩ := x
 simp only at hx
 clear hcv hcb
 refine FnOK.startC (rvs := [.cell 4 53, .tmp 5]) G G_good Tryz.func170 rfl Tryz.ntmps170 rfl rfl ?_; with_reducible refine wD ?_
 repeat' (first
  | refine gK ?_ | refine aE ?_ ?_
  | ((first
   | (refine IdxK.mk i (eNode _) e (node_get hx) ?_)
   | ((with_reducible show LtK _ _ _ _ _); refine LtK.mk k rfl (by omega) ?_)
   | ((with_reducible show ElemK _ _ _ _ _); refine ElemK.mk (eState ⟨s1, s2, s3, s4⟩) (by rw [Nat.zero_add]; exact state_get hk) ?_)
   | ((with_reducible refine kQ 117 ?_); refine cV h36 c117 ?_)
   | ((with_reducible show DrawK _ _ _ _); refine dK ?_)) <;> with_reducible refine wK ?_)
  | apply trivial)
 cases cb with
 | false =>
   repeat' (first
  | refine gK ?_ | refine aE ?_ ?_
  | (((with_reducible show DrawK _ _ _ _); refine dK ?_) <;> with_reducible refine wK ?_)
  | apply trivial)
   all_goals first
    | rfl
    | exact ⟨.refl (noRef_states st), noRef_states st⟩
    | exact ⟨.refl (noRef_duesN due), noRef_duesN due⟩
    | (simp [*]; done)
 | true =>
   cases c1 with
   | false =>
     repeat' (first
  | refine gK ?_ | refine aE ?_ ?_
  | (((with_reducible show DrawK _ _ _ _); refine dK ?_) <;> with_reducible refine wK ?_)
  | apply trivial)
     all_goals first
      | rfl
      | exact ⟨.refl (noRef_states st), noRef_states st⟩
      | exact ⟨.refl (noRef_duesN due), noRef_duesN due⟩
      | (simp [*]; done)
   | true =>
     by_cases e1 : s1 = 3
     ·(have fct := (eq_true e1); (repeat' (first
  | refine gF ?_ | refine aE ?_ ?_
  | ((first
   | (refine IdxK.mk i (eNode _) e (node_get hx) ?_)
   | ((with_reducible show DrawK _ _ _ _); refine dK ?_)) <;> with_reducible refine wK ?_)
  | apply trivial)); all_goals clear fct)
      all_goals first
       | rfl
       | exact ⟨.refl (noRef_states st), noRef_states st⟩
       | exact ⟨.refl (noRef_duesN due), noRef_duesN due⟩
       | (simp [*]; done)
     ·(have fct := (eq_false e1); (repeat' (first
  | refine gF ?_ | refine aE ?_ ?_
  | (((with_reducible show DrawK _ _ _ _); refine dK ?_) <;> with_reducible refine wK ?_)
  | apply trivial)); all_goals clear fct)
      all_goals first
       | rfl
       | exact ⟨.refl (noRef_states st), noRef_states st⟩
       | exact ⟨.refl (noRef_duesN due), noRef_duesN due⟩
       | (simp [*]; done)
theorem tellD_yes {c : ClassM} {n : Int} {t : TodoM} (h : hearsC c t.kind = true) : tellD c n t = [⟨n, t⟩] := by unfold tellD; rw [if_pos h]
theorem tellD_no {c : ClassM} {n : Int} {t : TodoM} (h : hearsC c t.kind = false) : tellD c n t = [] := by unfold tellD; rw [if_neg (by simp [h])]
theorem classV_hooks {cs : List ClassM} (h : ∀ c ∈ cs, c.hooks.length ≤ 100000) (s : StateM) (d : DeskM) : (classV s d cs).hooks.length ≤ 100000 := by
 unfold classV
 split
 ·cases hg : cs[(classAt s d cs.length).toNat]? with
  | none => show (0 : Nat) ≤ _; omega
  | some c => exact h c (List.mem_of_getElem? hg)
 ·show (0 : Nat) ≤ _; omega
theorem f104_ok (f : ForM) (hs : SmallN f.nodes) (st : List StateM) (hst : st.length ≤ 1000) (d : DeskM) (hd : SmallD d) (cs : List ClassM) (hcs : ∀ c ∈ cs, c.hooks.length ≤ 100000) :
  FnOK Tryz.prog 104 [] [eFor f, eStates st, eDesk d, eClasses cs] [] (.tup [eStates (toldSt f st d cs), eDuesN (toldDu f st d cs)]) := by
 have h64 := f168_ok f hs st (by omega) d hd cs
 obtain ⟨os', hos'⟩ : ∃ x, toldSt f st d cs = x := ⟨_, rfl⟩
 obtain ⟨od, hod⟩ : ∃ x, toldDu f st d cs = x := ⟨_, rfl⟩
 rw [hos', hod]
 unfold toldSt at hos'
 unfold toldDu at hod
 obtain ⟨lv, hlv⟩ : ∃ lv, lookV f st d = lv := ⟨_, rfl⟩
 rw [hlv] at h64 hos' hod
 cases lv with
 | false =>
   rw [if_neg (by simp)] at hos' hod
   subst hos'
   subst hod
   obtain ⟨l, m⟩ := f
   obtain ⟨d1, d2, d3, d4⟩ := d
   refine FnOK.startC (rvs := [.tmp 8, .tmp 9]) G G_good Tryz.func104 rfl Tryz.ntmps104 rfl rfl ?_; with_reducible refine wD ?_
   refine CallK.lend (news := [mHall ⟨l, m⟩ (.own 241 0 st.length) ⟨d1, d2, d3, d4⟩ cs nilA, mStates st]) [240, 241] [] h64 c168 ⟨⟨rfl, rfl, trivial⟩, rfl, ⟨rfl, rfl, rfl, rfl, trivial⟩, rfl, trivial⟩ trivial rfl ⟨⟨rfl, rfl⟩, rfl⟩ rfl ⟨⟨rfl, .inr ⟨rfl, rfl, rfl⟩⟩, ⟨rfl, .inl ⟨rfl, noRef_states _⟩⟩, trivial⟩ rfl rfl ?_
   with_reducible refine wK ?_
   repeat' (first
  | refine gK ?_ | refine aE ?_ ?_
  | apply trivial)
   all_goals first | exact frz_states rfl rfl rfl rfl | exact .inr (.inr ⟨_, rfl⟩)
 | true =>
   rw [if_pos rfl] at hos' hod
   have hlv' := hlv
   unfold lookV at hlv'
   obtain ⟨⟨hlen, hr⟩, hrd⟩ : (st.length = f.nodes.length ∧ rightF f = true) ∧ rightD d = true := by simpa using hlv'
   have h42 := f169_ok f hs
   have e42 : allF f = ownTo f.nodes f.nodes.length := by unfold allF; rw [if_pos hr]
   rw [e42] at h42
   have h39 := fun n => f172_ok f hs n
   have hhk := fun s => classV_hooks hcs s d
   have h60 := hs.len
   have hos : ∀ k, k < st.length → (ownTo f.nodes f.nodes.length)[k]? = some (ownN f.nodes (k : Int)) := fun k hk => by
    unfold ownTo; rw [List.getElem?_map, List.getElem?_range (by omega)]; rfl
   have hol := ownTo_len f.nodes f.nodes.length
   have hth : ∀ k, k < st.length → thereN f.nodes (k : Int) = true := fun k hk => there_get (List.getElem?_eq_getElem (by omega))
   have htl := fun k => tSt_len f d cs st k
   have htg : ∀ k, k < st.length → (tSt f d cs st k)[k]? = some (sAt st k) := fun k hk => by rw [tSt_get hk, if_neg (by omega)]
   have hts := fun k hk => tSt_step f d cs st (k := k) hk
   have htm := fun k hk => tSt_same f d cs st (k := k) hk
   have htd := fun k => tDu_step f d cs st k
   have htdl := fun k => tDu_len f d cs st k
   have ht0 := tSt_zero f d cs st
   have hd0 : tDu f d cs st 0 = [] := rfl
   have hSd : ∀ k s, toldS f d cs k s = if dutyB f d cs k s = true then ⟨s.phase, s.df, ownN f.nodes k, barN f.nodes k⟩ else s := fun k s => rfl
   have hDd : ∀ k s, toldD f d cs k s = if dutyB f d cs k s = true then
    (if s.owner = ownN f.nodes k then [] else tellD (classV s d cs) k (ownedT s.owner (ownN f.nodes k))) ++ (if s.barred = barN f.nodes k then [] else tellD (classV s d cs) k (barredT (barN f.nodes k))) else [] := fun k s => rfl
   have h65 := fun (st' : List StateM) (due : List DueN) (k : Nat) (s : StateM) (h1 : st'.length = st.length) (h2 : st'[k]? = some s) (h3 : thereN f.nodes (k : Int) = true) => f170_own f st' st.length h1 d cs due k s h2 h3
   generalize tSt f d cs st = ts at hos' htl htg hts htm ht0
   generalize tDu f d cs st = td at hod htd htdl hd0
   subst hos'
   subst hod
   generalize ownTo f.nodes f.nodes.length = ol at h42 hos hol
   have hom : (ol.map oInt).length = ol.length := List.length_map ..
   obtain ⟨l, m⟩ := f
   obtain ⟨d1, d2, d3, d4⟩ := d
   simp only at hlen h60 hol
   refine FnOK.startC (rvs := [.tmp 8, .tmp 9]) G G_good Tryz.func104 rfl Tryz.ntmps104 rfl rfl ?_; with_reducible refine wD ?_
   refine CallK.lend (news := [mHall ⟨l, m⟩ (.own 241 0 st.length) ⟨d1, d2, d3, d4⟩ cs nilA, mStates st]) [240, 241] [] h64 c168 ⟨⟨rfl, rfl, trivial⟩, rfl, ⟨rfl, rfl, rfl, rfl, trivial⟩, rfl, trivial⟩ trivial rfl ⟨⟨rfl, rfl⟩, rfl⟩ rfl ⟨⟨rfl, .inr ⟨rfl, rfl, rfl⟩⟩, ⟨rfl, .inl ⟨rfl, noRef_states _⟩⟩, trivial⟩ rfl rfl ?_
   with_reducible refine wK ?_
   repeat' (first
  | refine gK ?_ | refine aE ?_ ?_
  | (((with_reducible refine kQ 169 ?_); refine cV h42 c169 ?_) <;> with_reducible refine wK ?_)
  | apply trivial)
   refine LoopK.ghostRow 10 240 248 11 0 8 (eHall ⟨l, m⟩ (.own 241 0 st.length) ⟨d1, d2, d3, d4⟩ cs nilA) (eHall ⟨l, m⟩ (.own 241 0 st.length) ⟨d1, d2, d3, d4⟩ cs (.own 248 0 0)) rfl rfl rfl rfl rfl rfl ?_
   refine LoopK.use G G_good (fun (k : Nat) => [(4, .ptr 40 0 0), (10, .ptr 240 0 0), (34, eInts ol), (35, eInt ol.length), (36, eInt k)])
    (fun k => [(40, .live 2 [eFor ⟨l, m⟩] false), (240, mHall ⟨l, m⟩ (.own 241 0 st.length) ⟨d1, d2, d3, d4⟩ cs (.own 248 0 (td k).length)), (241, mStates (ts k)), (248, rDuesN (td k))])
    (fun k => k ≤ st.length) (fun k => st.length - k) 0 (Nat.zero_le _) ?_ ?_
   ·rw [ht0, hd0]
    (refine fK ?_; (with_reducible repeat' (first | exact trivial | (show _ ∧ _; refine aK ?_ ?_))); (all_goals try rfl))
    all_goals first
     | (show (ol.length : Int) = _; rw [hom])
     | exact ⟨⟨rfl, rfl, ⟨rfl, rfl⟩, rfl, rfl, rfl, rfl, rfl, ⟨rfl, rfl⟩, trivial⟩, trivial⟩
     | exact ⟨.refl (noRef_states st), noRef_states st⟩
     | (show ObjK _ [] []; exact ⟨.refl rfl, rfl⟩)
   intro k hk
   have hdl := htdl k
   have htk := htl k
   with_reducible refine wK ?_
   refine IfK.mk (fun h1 => ?_) (fun h1 => ?_) <;> (try simp only [castN] at h1) <;> with_reducible refine wK ?_
   ·have hk' : k < st.length := by simp only [decide_eq_true_eq] at h1; omega
    have hok := hos k hk'
    have hgk := htg k hk'
    have h65 := h65 (ts k) (td k) k (sAt st k) htk hgk (hth k hk')
    have h39 := h39 (k : Int)
    rw [hth k hk', hr, Bool.true_and, Bool.true_and] at h39
    have hts := hts k hk'
    have htm := htm k hk'
    have htd := htd k
    have hhk := hhk (sAt st k)
    have hSd := hSd k (sAt st k)
    have hDd := hDd k (sAt st k)
    have htl1 := htl (k + 1)
    clear hos htl htg htdl h64 h42 hth
    generalize sAt st k = s at *
    obtain ⟨dy, hdy⟩ : ∃ dy, dutyB ⟨l, m⟩ ⟨d1, d2, d3, d4⟩ cs (k : Int) s = dy := ⟨_, rfl⟩
    rw [hdy] at h65 hSd hDd
    generalize hcv : classV s ⟨d1, d2, d3, d4⟩ cs = cv at *
    generalize ownN l (k : Int) = o at *
    generalize barN l (k : Int) = b at *
    generalize ts k = X at *
    generalize td k = D at *
    obtain ⟨s1, s2, s3, s4⟩ := s
    obtain ⟨c1, c2, c3, c4, c5⟩ := cv
    refine IdxK.mk k (eInt o) rfl (int_get hok) ?_; with_reducible refine wK ?_
    refine CallK.lend (news := [mHall ⟨l, m⟩ (.own 241 0 st.length) ⟨d1, d2, d3, d4⟩ cs (.own 248 0 D.length), mStates X, rDuesN D]) [240, 241, 248] [] h65 c170 ⟨⟨rfl, rfl⟩, rfl, trivial⟩ (ins_hall rfl rfl rfl) rfl ⟨⟨rfl, rfl⟩, rfl⟩ rfl news_hall rfl rfl ?_
    with_reducible refine wK ?_
    cases dy with
    | false =>
      rw [if_neg (by simp)] at hSd hDd
      rw [hSd] at htm
      rw [hDd, List.append_nil] at htd
      repeat' (first
  | refine gK ?_ | refine aE ?_ ?_
  | apply trivial)
      refine NextK.mk (k + 1) (by omega) (by omega) ?_
      rw [htd, htm rfl]
      (refine fK ?_; (with_reducible repeat' (first | exact trivial | (show _ ∧ _; refine aK ?_ ?_))); (all_goals try rfl))
      all_goals first
       | exact ⟨.refl (noRef_states _), noRef_states _⟩
       | exact ⟨.refl (noRef_duesN _), noRef_duesN _⟩
       | (simp; done)
    | true =>
      rw [if_pos rfl] at hSd hDd
      simp only at hSd hDd
      rw [hSd] at hts htm
      rw [hDd] at htd
      have hXk : X[k]? = some ⟨s1, s2, s3, s4⟩ := hgk
      have h66y : ∀ (Z : List StateM) (E : List DueN) (t : TodoM), Z.length = st.length → E.length ≤ 1000 → hearsC ⟨c1, c2, c3, c4, c5⟩ t.kind = true →
        FnOK Tryz.prog 171 [mHall ⟨l, m⟩ (.own 1 0 st.length) ⟨d1, d2, d3, d4⟩ cs (.own 2 0 E.length), mStates Z, rDuesN E] [.ptr 0 0 0, eClass ⟨c1, c2, c3, c4, c5⟩, eInt (k : Int), eTodo t]
         [mHall ⟨l, m⟩ (.own 1 0 st.length) ⟨d1, d2, d3, d4⟩ cs (.own 3 0 (E.length + 1)), mStates Z, .dead, rDuesN (E ++ [⟨(k : Int), t⟩])] (.tup []) := fun Z E t hz he hh => by
       have := f171_yes ⟨l, m⟩ Z ⟨d1, d2, d3, d4⟩ cs E (by omega) ⟨c1, c2, c3, c4, c5⟩ hhk (k : Int) t hh
       rwa [hz] at this
      have h66n : ∀ (Z : List StateM) (E : List DueN) (t : TodoM), Z.length = st.length → hearsC ⟨c1, c2, c3, c4, c5⟩ t.kind = false →
        FnOK Tryz.prog 171 [mHall ⟨l, m⟩ (.own 1 0 st.length) ⟨d1, d2, d3, d4⟩ cs (.own 2 0 E.length), mStates Z, rDuesN E] [.ptr 0 0 0, eClass ⟨c1, c2, c3, c4, c5⟩, eInt (k : Int), eTodo t]
         [mHall ⟨l, m⟩ (.own 1 0 st.length) ⟨d1, d2, d3, d4⟩ cs (.own 2 0 E.length), mStates Z, rDuesN E] (.tup []) := fun Z E t hz hh => by
       have := f171_no ⟨l, m⟩ Z ⟨d1, d2, d3, d4⟩ cs E ⟨c1, c2, c3, c4, c5⟩ hhk (k : Int) t hh
       rwa [hz] at this
      have hDl : D.length ≤ 500 := by omega
      clear h65 hSd hDd hhk
      by_cases e1 : s3 = o
      ·obtain rfl := e1.symm
       rw [if_pos rfl, List.nil_append] at htd
       by_cases e2 : s4 = b
       ·obtain rfl := e2.symm
        rw [if_pos rfl, List.append_nil] at htd
        repeat' (first
  | refine gK ?_ | refine aE ?_ ?_
  | ((first
   | ((with_reducible show LtK _ _ _ _ _); refine LtK.mk k rfl (by omega) ?_)
   | ((with_reducible show ElemK _ _ _ _ _); refine ElemK.mk (eState ⟨s1, s2, o, b⟩) (by rw [Nat.zero_add]; exact state_get hXk) ?_)
   | ((with_reducible refine kQ 172 ?_); refine cL h39 c172 ?_)) <;> with_reducible refine wK ?_)
  | apply trivial)
        refine NextK.mk (k + 1) (by omega) (by omega) ?_
        rw [htd, htm rfl]
        (refine fK ?_; (with_reducible repeat' (first | exact trivial | (show _ ∧ _; refine aK ?_ ?_))); (all_goals try rfl))
        all_goals first
         | exact ⟨.refl (noRef_states _), noRef_states _⟩
         | exact ⟨.refl (noRef_duesN _), noRef_duesN _⟩
         | (simp; done)
       ·rw [if_neg e2] at htd
        have e2' : (b == s4) = false := by cases b <;> cases s4 <;> simp at e2 ⊢
        (have fct := e2'; (repeat' (first
  | refine gF ?_ | refine aE ?_ ?_
  | ((first
   | ((with_reducible show LtK _ _ _ _ _); refine LtK.mk k rfl (by omega) ?_)
   | ((with_reducible show ElemK _ _ _ _ _); refine ElemK.mk (eState ⟨s1, s2, o, s4⟩) (by rw [Nat.zero_add]; exact state_get hXk) ?_)
   | ((with_reducible refine kQ 172 ?_); refine cL h39 c172 ?_)) <;> with_reducible refine wK ?_)
  | apply trivial)); all_goals clear fct)
        have htk2 : (X.set k ⟨s1, s2, o, b⟩).length = st.length := by simp [htk]
        rw [set_st X k ⟨s1, s2, o, b⟩]
        cases hw2 : hearsC ⟨c1, c2, c3, c4, c5⟩ 6 with
        | true =>
          rw [tellD_yes (show hearsC _ (barredT b).kind = true from hw2)] at htd
          have hFl : (D ++ ([⟨(k : Int), barredT b⟩] : List DueN)).length = D.length + 1 := by simp
          refine CallK.lend (news := [mHall ⟨l, m⟩ (.own 241 0 st.length) ⟨d1, d2, d3, d4⟩ cs (.own 911 0 (D.length + 1)), mStates (X.set k ⟨s1, s2, o, b⟩), .dead, rDuesN (D ++ [⟨(k : Int), barredT b⟩])]) [240, 241, 248, 911] [] (h66y (X.set k ⟨s1, s2, o, b⟩) D (barredT b) (by simp; omega) (by omega) hw2) c171 ⟨⟨rfl, rfl⟩, ⟨rfl, rfl, rfl, rfl, rfl, trivial⟩, rfl, ⟨rfl, rfl, rfl, rfl, rfl, rfl, rfl, rfl, rfl, rfl, trivial⟩, trivial⟩ (ins_hall rfl rfl rfl) rfl ⟨⟨rfl, rfl⟩, rfl⟩ rfl news_tell rfl rfl ?_
          with_reducible refine wK ?_
          repeat' (first
  | refine gK ?_ | refine aE ?_ ?_
  | apply trivial)
          refine NextK.mk (k + 1) (by omega) (by omega) ?_
          rw [htd, hts]
          (refine fK ?_; (with_reducible repeat' (first | exact trivial | (show _ ∧ _; refine aK ?_ ?_))); (all_goals try rfl))
          all_goals first
           | exact ⟨.refl (noRef_states _), noRef_states _⟩
           | exact ⟨.refl (noRef_duesN _), noRef_duesN _⟩
           | (simp; done)
        | false =>
          rw [tellD_no (show hearsC _ (barredT b).kind = false from hw2), List.append_nil] at htd
          refine CallK.lend (news := [mHall ⟨l, m⟩ (.own 241 0 st.length) ⟨d1, d2, d3, d4⟩ cs (.own 248 0 D.length), mStates (X.set k ⟨s1, s2, o, b⟩), rDuesN D]) [240, 241, 248] [] (h66n (X.set k ⟨s1, s2, o, b⟩) D (barredT b) (by simp; omega) hw2) c171 ⟨⟨rfl, rfl⟩, ⟨rfl, rfl, rfl, rfl, rfl, trivial⟩, rfl, ⟨rfl, rfl, rfl, rfl, rfl, rfl, rfl, rfl, rfl, rfl, trivial⟩, trivial⟩ (ins_hall rfl rfl rfl) rfl ⟨⟨rfl, rfl⟩, rfl⟩ rfl news_hall rfl rfl ?_
          with_reducible refine wK ?_
          repeat' (first
  | refine gK ?_ | refine aE ?_ ?_
  | apply trivial)
          refine NextK.mk (k + 1) (by omega) (by omega) ?_
          rw [htd, hts]
          (refine fK ?_; (with_reducible repeat' (first | exact trivial | (show _ ∧ _; refine aK ?_ ?_))); (all_goals try rfl))
          all_goals first
           | exact ⟨.refl (noRef_states _), noRef_states _⟩
           | exact ⟨.refl (noRef_duesN _), noRef_duesN _⟩
           | (simp; done)
      ·rw [if_neg e1] at htd
       have hYk : (X.set k ⟨s1, s2, o, s4⟩)[k]? = some ⟨s1, s2, o, s4⟩ := by rw [List.getElem?_set_self (by omega)]
       have hYl : (X.set k ⟨s1, s2, o, s4⟩).length = st.length := by simp [htk]
       have hset : (X.set k ⟨s1, s2, o, s4⟩).set k ⟨s1, s2, o, b⟩ = X.set k ⟨s1, s2, o, b⟩ := List.set_set ..
       rw [← hset] at hts
       (have fct := (eq_false e1); (repeat' (first
  | refine gF ?_ | refine aE ?_ ?_
  | ((first
   | ((with_reducible show LtK _ _ _ _ _); refine LtK.mk k rfl (by omega) ?_)
   | ((with_reducible show ElemK _ _ _ _ _); refine ElemK.mk (eState ⟨s1, s2, s3, s4⟩) (by rw [Nat.zero_add]; exact state_get hXk) ?_)) <;> with_reducible refine wK ?_)
  | apply trivial)); all_goals clear fct)
       rw [set_st X k ⟨s1, s2, o, s4⟩]
       generalize X.set k ⟨s1, s2, o, s4⟩ = Y at *
       cases hw : hearsC ⟨c1, c2, c3, c4, c5⟩ 5 with
       | true =>
         rw [tellD_yes (show hearsC _ (ownedT s3 o).kind = true from hw), ← List.append_assoc] at htd
         have hEl : (D ++ ([⟨(k : Int), ownedT s3 o⟩] : List DueN)).length = D.length + 1 := by simp
         refine CallK.lend (news := [mHall ⟨l, m⟩ (.own 241 0 st.length) ⟨d1, d2, d3, d4⟩ cs (.own 721 0 (D.length + 1)), mStates Y, .dead, rDuesN (D ++ [⟨(k : Int), ownedT s3 o⟩])]) [240, 241, 248, 721] [] (h66y Y D (ownedT s3 o) hYl (by omega) hw) c171 ⟨⟨rfl, rfl⟩, ⟨rfl, rfl, rfl, rfl, rfl, trivial⟩, rfl, ⟨rfl, rfl, rfl, rfl, rfl, rfl, rfl, rfl, rfl, rfl, trivial⟩, trivial⟩ (ins_hall rfl rfl rfl) rfl ⟨⟨rfl, rfl⟩, rfl⟩ rfl news_tell rfl rfl ?_
         rw [← hEl]
         generalize D ++ ([⟨(k : Int), ownedT s3 o⟩] : List DueN) = E at *
         have hEl' : E.length ≤ 501 := by omega
         with_reducible refine wK ?_
         by_cases e2 : s4 = b
         ·obtain rfl := e2.symm
          rw [if_pos rfl, List.append_nil] at htd
          have hYs : Y.set k ⟨s1, s2, o, b⟩ = Y := by
           apply List.ext_getElem?
           intro n
           rw [List.getElem?_set]
           by_cases e : k = n
           ·subst e; rw [if_pos rfl, if_pos (by omega), hYk]
           ·rw [if_neg e]
          rw [hYs] at hts
          repeat' (first
  | refine gK ?_ | refine aE ?_ ?_
  | ((first
   | ((with_reducible show LtK _ _ _ _ _); refine LtK.mk k rfl (by omega) ?_)
   | ((with_reducible show ElemK _ _ _ _ _); refine ElemK.mk (eState ⟨s1, s2, o, b⟩) (by rw [Nat.zero_add]; exact state_get hYk) ?_)
   | ((with_reducible refine kQ 172 ?_); refine cL h39 c172 ?_)) <;> with_reducible refine wK ?_)
  | apply trivial)
          refine NextK.mk (k + 1) (by omega) (by omega) ?_
          rw [htd, hts]
          (refine fK ?_; (with_reducible repeat' (first | exact trivial | (show _ ∧ _; refine aK ?_ ?_))); (all_goals try rfl))
          all_goals first
           | exact ⟨.refl (noRef_states _), noRef_states _⟩
           | exact ⟨.refl (noRef_duesN _), noRef_duesN _⟩
           | (simp; done)
         ·rw [if_neg e2] at htd
          have e2' : (b == s4) = false := by cases b <;> cases s4 <;> simp at e2 ⊢
          (have fct := e2'; (repeat' (first
  | refine gF ?_ | refine aE ?_ ?_
  | ((first
   | ((with_reducible show LtK _ _ _ _ _); refine LtK.mk k rfl (by omega) ?_)
   | ((with_reducible show ElemK _ _ _ _ _); refine ElemK.mk (eState ⟨s1, s2, o, s4⟩) (by rw [Nat.zero_add]; exact state_get hYk) ?_)
   | ((with_reducible refine kQ 172 ?_); refine cL h39 c172 ?_)) <;> with_reducible refine wK ?_)
  | apply trivial)); all_goals clear fct)
          rw [set_st Y k ⟨s1, s2, o, b⟩]
          cases hw2 : hearsC ⟨c1, c2, c3, c4, c5⟩ 6 with
          | true =>
            rw [tellD_yes (show hearsC _ (barredT b).kind = true from hw2)] at htd
            have hFl : (E ++ ([⟨(k : Int), barredT b⟩] : List DueN)).length = E.length + 1 := by simp
            refine CallK.lend (news := [mHall ⟨l, m⟩ (.own 241 0 st.length) ⟨d1, d2, d3, d4⟩ cs (.own 911 0 (E.length + 1)), mStates (Y.set k ⟨s1, s2, o, b⟩), .dead, rDuesN (E ++ [⟨(k : Int), barredT b⟩])]) [240, 241, 721, 911] [] (h66y (Y.set k ⟨s1, s2, o, b⟩) E (barredT b) (by simp; omega) (by omega) hw2) c171 ⟨⟨rfl, rfl⟩, ⟨rfl, rfl, rfl, rfl, rfl, trivial⟩, rfl, ⟨rfl, rfl, rfl, rfl, rfl, rfl, rfl, rfl, rfl, rfl, trivial⟩, trivial⟩ (ins_hall rfl rfl rfl) rfl ⟨⟨rfl, rfl⟩, rfl⟩ rfl news_tell rfl rfl ?_
            with_reducible refine wK ?_
            repeat' (first
  | refine gK ?_ | refine aE ?_ ?_
  | apply trivial)
            refine NextK.mk (k + 1) (by omega) (by omega) ?_
            rw [htd, hts]
            (refine fK ?_; (with_reducible repeat' (first | exact trivial | (show _ ∧ _; refine aK ?_ ?_))); (all_goals try rfl))
            all_goals first
             | exact ⟨.refl (noRef_states _), noRef_states _⟩
             | exact ⟨.refl (noRef_duesN _), noRef_duesN _⟩
             | (simp; done)
          | false =>
            rw [tellD_no (show hearsC _ (barredT b).kind = false from hw2), List.append_nil] at htd
            refine CallK.lend (news := [mHall ⟨l, m⟩ (.own 241 0 st.length) ⟨d1, d2, d3, d4⟩ cs (.own 721 0 E.length), mStates (Y.set k ⟨s1, s2, o, b⟩), rDuesN E]) [240, 241, 721] [] (h66n (Y.set k ⟨s1, s2, o, b⟩) E (barredT b) (by simp; omega) hw2) c171 ⟨⟨rfl, rfl⟩, ⟨rfl, rfl, rfl, rfl, rfl, trivial⟩, rfl, ⟨rfl, rfl, rfl, rfl, rfl, rfl, rfl, rfl, rfl, rfl, trivial⟩, trivial⟩ (ins_hall rfl rfl rfl) rfl ⟨⟨rfl, rfl⟩, rfl⟩ rfl news_hall rfl rfl ?_
            with_reducible refine wK ?_
            repeat' (first
  | refine gK ?_ | refine aE ?_ ?_
  | apply trivial)
            refine NextK.mk (k + 1) (by omega) (by omega) ?_
            rw [htd, hts]
            (refine fK ?_; (with_reducible repeat' (first | exact trivial | (show _ ∧ _; refine aK ?_ ?_))); (all_goals try rfl))
            all_goals first
             | exact ⟨.refl (noRef_states _), noRef_states _⟩
             | exact ⟨.refl (noRef_duesN _), noRef_duesN _⟩
             | (simp; done)
       | false =>
         rw [tellD_no (show hearsC _ (ownedT s3 o).kind = false from hw), List.nil_append] at htd
         refine CallK.lend (news := [mHall ⟨l, m⟩ (.own 241 0 st.length) ⟨d1, d2, d3, d4⟩ cs (.own 248 0 D.length), mStates Y, rDuesN D]) [240, 241, 248] [] (h66n Y D (ownedT s3 o) hYl hw) c171 ⟨⟨rfl, rfl⟩, ⟨rfl, rfl, rfl, rfl, rfl, trivial⟩, rfl, ⟨rfl, rfl, rfl, rfl, rfl, rfl, rfl, rfl, rfl, rfl, trivial⟩, trivial⟩ (ins_hall rfl rfl rfl) rfl ⟨⟨rfl, rfl⟩, rfl⟩ rfl news_hall rfl rfl ?_
         with_reducible refine wK ?_
         by_cases e2 : s4 = b
         ·obtain rfl := e2.symm
          rw [if_pos rfl, List.append_nil] at htd
          have hYs : Y.set k ⟨s1, s2, o, b⟩ = Y := by
           apply List.ext_getElem?
           intro n
           rw [List.getElem?_set]
           by_cases e : k = n
           ·subst e; rw [if_pos rfl, if_pos (by omega), hYk]
           ·rw [if_neg e]
          rw [hYs] at hts
          repeat' (first
  | refine gK ?_ | refine aE ?_ ?_
  | ((first
   | ((with_reducible show LtK _ _ _ _ _); refine LtK.mk k rfl (by omega) ?_)
   | ((with_reducible show ElemK _ _ _ _ _); refine ElemK.mk (eState ⟨s1, s2, o, b⟩) (by rw [Nat.zero_add]; exact state_get hYk) ?_)
   | ((with_reducible refine kQ 172 ?_); refine cL h39 c172 ?_)) <;> with_reducible refine wK ?_)
  | apply trivial)
          refine NextK.mk (k + 1) (by omega) (by omega) ?_
          rw [htd, hts]
          (refine fK ?_; (with_reducible repeat' (first | exact trivial | (show _ ∧ _; refine aK ?_ ?_))); (all_goals try rfl))
          all_goals first
           | exact ⟨.refl (noRef_states _), noRef_states _⟩
           | exact ⟨.refl (noRef_duesN _), noRef_duesN _⟩
           | (simp; done)
         ·rw [if_neg e2] at htd
          have e2' : (b == s4) = false := by cases b <;> cases s4 <;> simp at e2 ⊢
          (have fct := e2'; (repeat' (first
  | refine gF ?_ | refine aE ?_ ?_
  | ((first
   | ((with_reducible show LtK _ _ _ _ _); refine LtK.mk k rfl (by omega) ?_)
   | ((with_reducible show ElemK _ _ _ _ _); refine ElemK.mk (eState ⟨s1, s2, o, s4⟩) (by rw [Nat.zero_add]; exact state_get hYk) ?_)
   | ((with_reducible refine kQ 172 ?_); refine cL h39 c172 ?_)) <;> with_reducible refine wK ?_)
  | apply trivial)); all_goals clear fct)
          rw [set_st Y k ⟨s1, s2, o, b⟩]
          cases hw2 : hearsC ⟨c1, c2, c3, c4, c5⟩ 6 with
          | true =>
            rw [tellD_yes (show hearsC _ (barredT b).kind = true from hw2)] at htd
            have hFl : (D ++ ([⟨(k : Int), barredT b⟩] : List DueN)).length = D.length + 1 := by simp
            refine CallK.lend (news := [mHall ⟨l, m⟩ (.own 241 0 st.length) ⟨d1, d2, d3, d4⟩ cs (.own 911 0 (D.length + 1)), mStates (Y.set k ⟨s1, s2, o, b⟩), .dead, rDuesN (D ++ [⟨(k : Int), barredT b⟩])]) [240, 241, 248, 911] [] (h66y (Y.set k ⟨s1, s2, o, b⟩) D (barredT b) (by simp; omega) (by omega) hw2) c171 ⟨⟨rfl, rfl⟩, ⟨rfl, rfl, rfl, rfl, rfl, trivial⟩, rfl, ⟨rfl, rfl, rfl, rfl, rfl, rfl, rfl, rfl, rfl, rfl, trivial⟩, trivial⟩ (ins_hall rfl rfl rfl) rfl ⟨⟨rfl, rfl⟩, rfl⟩ rfl news_tell rfl rfl ?_
            with_reducible refine wK ?_
            repeat' (first
  | refine gK ?_ | refine aE ?_ ?_
  | apply trivial)
            refine NextK.mk (k + 1) (by omega) (by omega) ?_
            rw [htd, hts]
            (refine fK ?_; (with_reducible repeat' (first | exact trivial | (show _ ∧ _; refine aK ?_ ?_))); (all_goals try rfl))
            all_goals first
             | exact ⟨.refl (noRef_states _), noRef_states _⟩
             | exact ⟨.refl (noRef_duesN _), noRef_duesN _⟩
             | (simp; done)
          | false =>
            rw [tellD_no (show hearsC _ (barredT b).kind = false from hw2), List.append_nil] at htd
            refine CallK.lend (news := [mHall ⟨l, m⟩ (.own 241 0 st.length) ⟨d1, d2, d3, d4⟩ cs (.own 248 0 D.length), mStates (Y.set k ⟨s1, s2, o, b⟩), rDuesN D]) [240, 241, 248] [] (h66n (Y.set k ⟨s1, s2, o, b⟩) D (barredT b) (by simp; omega) hw2) c171 ⟨⟨rfl, rfl⟩, ⟨rfl, rfl, rfl, rfl, rfl, trivial⟩, rfl, ⟨rfl, rfl, rfl, rfl, rfl, rfl, rfl, rfl, rfl, rfl, trivial⟩, trivial⟩ (ins_hall rfl rfl rfl) rfl ⟨⟨rfl, rfl⟩, rfl⟩ rfl news_hall rfl rfl ?_
            with_reducible refine wK ?_
            repeat' (first
  | refine gK ?_ | refine aE ?_ ?_
  | apply trivial)
            refine NextK.mk (k + 1) (by omega) (by omega) ?_
            rw [htd, hts]
            (refine fK ?_; (with_reducible repeat' (first | exact trivial | (show _ ∧ _; refine aK ?_ ?_))); (all_goals try rfl))
            all_goals first
             | exact ⟨.refl (noRef_states _), noRef_states _⟩
             | exact ⟨.refl (noRef_duesN _), noRef_duesN _⟩
             | (simp; done)
   ·have hjl : k = st.length := by simp only [decide_eq_false_iff_not] at h1; omega
    subst hjl
    repeat' (first
  | refine gK ?_ | refine aE ?_ ?_
  | (((with_reducible show DrawK _ _ _ _); refine dK ?_) <;> with_reducible refine wK ?_)
  | apply trivial)
    all_goals first | exact frz_states rfl rfl rfl htk.symm | exact frz_duesN rfl rfl rfl rfl
end Go.Proofs.Heir
namespace Go.Proofs.Heir
open Go Go.Am Go.RowKit Go.Lib
set_option maxRecDepth 100000
set_option maxHeartbeats 8000000
set_option maxHeartbeats 8000000
def allowedC (c : ClassM) : Bool :=
 ((((decide (c.watch.length ≤ 12) && !(c.watch.any fun s => !(rightS s && decide (lowS s = s)))) && decide (c.hooks.length ≤ 12)) && !(c.hooks.any fun h => decide (h.kind < 1) || decide (8 < h.kind) || decide (60 < h.prog.length))) && decide (c.peek.length ≤ 60)) && decide (c.make.length ≤ 60)
def defG (w : WorldM) (n : Int) : Bool := decide (0 ≤ n) && decide (n < (w.desk.defs.length : Int))
def todoG (w : WorldM) (t : TodoM) : Bool := (decide (1 ≤ t.kind) && decide (t.kind < 9)) || (decide (t.kind = 9) && defG w t.df)
def stateOK (w : WorldM) (x : NodeM) (s : StateM) : Bool :=
 if x.kind = 1 then
  (decide (s.owner = -1) || thereN w.f.nodes s.owner) && (if s.phase = 2 ∨ s.phase = 3 then defG w s.df else (decide (s.phase = 0) || decide (s.phase = 1) || decide (s.phase = 4)) && (decide (s.df = -1) || defG w s.df))
 else decide (s = ⟨0, -1, -1, false⟩)
def stateG (w : WorldM) (n : Int) : Bool := stateOK w (nd w.f.nodes n) (stOf w.states n)
def taskG (w : WorldM) (t : TaskM) : Bool := if t.kind = 1 then decide (t.ticket = 0) && decide (t.df = 0) else if t.kind = 2 then decide (0 ≤ t.ticket) && defG w t.df else false
def buildG (w : WorldM) (b : BuildM) : Bool := defG w b.df && (decide (b.node = -4) || elemV w.f.nodes b.node)
def classesG (w : WorldM) : Bool := (decide (w.classes.length ≤ 12) && !(w.classes.any fun c => !allowedC c)) && !(w.desk.defs.any fun d => decide ((w.classes.length : Int) ≤ d.cls))
def nodeG (w : WorldM) (n : Int) : Bool := stateG w n && !((tdAt w.line n).any fun t => !todoG w t)
def headG (w : WorldM) : Bool := (((((decide (w.states.length = w.f.nodes.length) && decide (w.line.todos.length = w.f.nodes.length)) && classesG w) && rightF w.f) && rightD w.desk) && lnR w.line)
def tailG (w : WorldM) : Bool := !(w.tasks.any fun t => !taskG w t) && !(w.builds.any fun b => !buildG w b)
def rightG (w : WorldM) : Bool := headG w && ((List.range w.line.todos.length).all (fun n : Nat => nodeG w n) && tailG w)
def bornS (x : NodeM) : StateM := ⟨if x.kind = 1 then bornM x.name x.is else 0, -1, -1, false⟩
def drainT : TaskM := ⟨1, 0, 0⟩
def enl1 (w : WorldM) (d : DueN) : WorldM := { w with line := lnAdd w.line d.node d.todo, tasks := if lnTell w.line = true then w.tasks ++ [drainT] else w.tasks }
def enlW (w : WorldM) (due : List DueN) : WorldM := due.foldl enl1 w
def dueOK (w : WorldM) (d : DueN) : Bool := thereN w.f.nodes d.node && todoG w d.todo
def enlistOK (w : WorldM) (due : List DueN) : Bool := rightG w && !(due.any fun d => !dueOK w d)
def enlistW (w : WorldM) (due : List DueN) : WorldM × Int := if enlistOK w due = true then (enlW w due, 0) else (w, 1)
def followsW (w : WorldM) (f : ForM) : Bool := (decide (f.most = w.f.most) && decide (w.f.nodes.length ≤ f.nodes.length)) && (List.range w.f.nodes.length).all fun n : Nat => decide ((nd f.nodes n).kind = (nd w.f.nodes n).kind)
def growW (w : WorldM) (f : ForM) (k : Nat) : WorldM := { w with states := w.states ++ ((f.nodes.drop w.f.nodes.length).take k).map bornS, line := ⟨w.line.todos ++ List.replicate k [], w.line.stack, w.line.back, w.line.busy⟩ }
def nowW (w : WorldM) (f : ForM) : WorldM := { growW w f (f.nodes.length - w.f.nodes.length) with f := f }
def tellG (w : WorldM) (f : ForM) (ns : List NoteM) : WorldM :=
 let x := nowW w f
 let y := enlW x (dueL f x.states x.desk x.classes ns)
 enlW { y with states := toldSt f x.states x.desk x.classes } (toldDu f x.states x.desk x.classes)
def tellOK (w : WorldM) (f : ForM) : Bool := (rightG w && rightF f) && followsW w f
def tellW (w : WorldM) (f : ForM) (ns : List NoteM) : WorldM × Int := if tellOK w f = true then (tellG w f ns, 0) else (w, 1)
def restG (w : WorldM) : Bool := ((lnIdle w.line && decide (w.tasks.length = 0)) && decide (w.builds.length = 0)) && !w.desk.busy
def clearW (w : WorldM) : WorldM := { w with line := ⟨List.replicate w.line.todos.length [], [], [], false⟩, tasks := [], builds := [], desk := ⟨w.desk.defs, w.desk.waits, w.desk.next, false⟩ }
def shortL (l : LineM) : Bool := (((decide (l.todos.length ≤ 60) && decide (l.stack.length ≤ 30)) && decide (l.back.length ≤ 60)) && l.todos.all fun t => decide (t.length ≤ 60)) && l.stack.all fun t => decide (t.length ≤ 60)
def namedC (cs : List ClassM) : Bool := cs.all fun c => c.watch.all fun s => decide (s.size ≤ 300)
def shortG (w : WorldM) : Bool := ((((((shortF w.f && decide (w.states.length ≤ 60)) && shortB w.desk) && shortL w.line) && decide (w.tasks.length ≤ 60)) && decide (w.builds.length ≤ 60)) && shortC w.classes) && namedC w.classes
end Go.Proofs.Heir
namespace Go.Proofs.Heir
open Go Go.Am Go.RowKit Go.Lib
set_option maxRecDepth 100000
set_option maxHeartbeats 8000000





def stateEq (t u : StateM) : Bool := (t.phase == u.phase) && ((t.df == u.df) && ((t.owner == u.owner) && (t.barred == u.barred)))
theorem stateEq_iff (t u : StateM) : stateEq t u = decide (t = u) := by
 rw [Bool.eq_iff_iff, decide_eq_true_eq]
 unfold stateEq
 simp only [Bool.and_eq_true, beq_iff_eq]
 constructor
 ·rintro ⟨a, b, c, d⟩
  cases t; cases u
  simp only at *
  subst a; subst b; subst c; subst d; rfl
 ·rintro rfl; simp
@[reducible] def vState (t : StateM) : Value := .agg #[.int .i64 t.phase, .int .i64 t.df, .int .i64 t.owner, .bool t.barred]
theorem state_eq (t u : StateM) (w : World) : (Op.equalIn 10000 75 (vState t) (vState u)).run Tryz.prog w = .ok (decide (t = u)) w := by
 have hS : Tryz.prog.underlying 75 = some (.struct (Tryz.prog.fieldsOf 75)) := by kernel_rfl
 have hp : Tryz.prog.stoodInHeld 75 = false := by kernel_rfl
 have u3 := Tryz.underlying3
 have a3 := Tryz.isAgg3
 have z3 := Tryz.sizeOf3
 have u4 := Tryz.underlying4
 have a4 := Tryz.isAgg4
 have z4 := Tryz.sizeOf4
 rw [← stateEq_iff, show (10000 : Nat) = 9999 + 1 from rfl, run_equalIn_agg w 9999 75 _ _ hS hp]
 simp only [Program.fieldsOf, Tryz.underlying75]
 go_simp
 clear hS hp u3 a3 z3 u4 a4 z4
 unfold stateEq
 by_cases h1 : t.phase = u.phase <;> by_cases h2 : t.df = u.df <;> by_cases h3 : t.owner = u.owner <;> simp [h1, h2, h3]
 by_cases h4 : t.barred = u.barred <;> simp [h4]
theorem state_neq (a b : StateM) (y z : Operand) (w : World) : ((do eqGuard .neq 75 y z (vState a) (vState b); binOp .neq 75 (vState a) (vState b) : Sem Value)).run Tryz.prog w = .ok (.bool (!decide (a = b))) w := by
 rw [Sem.run_bind, run_eqGuard_agg w .neq 75 y z _ _ (by kernel_rfl), Result.andThen_ok, run_neq_struct, state_eq]; rfl
theorem f42_ok (a b : List StateM) (ha : a.length ≤ 100000) : FnOK Tryz.prog 42 [] [eStates a, eStates b] [] (eBool (decide (a = b))) := by
 have hlm : (a.map oState).length = a.length := List.length_map ..
 have hlm' : (b.map oState).length = b.length := List.length_map ..
 refine FnOK.startC (rvs := [.tmp 4]) G G_good Tryz.func42 rfl Tryz.ntmps42 rfl rfl ?_; with_reducible refine wD ?_
 by_cases g1 : a.length = b.length
 ·(have fct := And.intro hlm (And.intro hlm' (g1)); (repeat' (first
  | refine gF ?_ | refine aE ?_ ?_
  | apply trivial)); all_goals clear fct)
  refine LoopK.use G G_good (fun (k : Nat) => [(0, eStates a), (1, eStates b), (5, eInt k)]) (fun _ => []) (fun k => k ≤ a.length ∧ ∀ j, j < k → a[j]? = b[j]?) (fun k => a.length - k) 0 ⟨Nat.zero_le _, fun j hj => by omega⟩
   ⟨⟨rfl, rfl⟩, ⟨rfl, rfl, rfl, trivial⟩, trivial⟩ ?_
  intro k ⟨hk, hno⟩
  with_reducible refine wK ?_
  refine IfK.mk (fun h1 => ?_) (fun h1 => ?_) <;> (try simp only [castN] at h1) <;> with_reducible refine wK ?_
  ·simp only [hlm, decide_eq_true_eq] at h1
   have hk' : k < a.length := by omega
   obtain ⟨⟨x1, x2, x3, x4⟩, hx⟩ : ∃ x, a[k]? = some x := ⟨_, List.getElem?_eq_getElem hk'⟩
   obtain ⟨⟨y1, y2, y3, y4⟩, hy⟩ : ∃ y, b[k]? = some y := ⟨_, List.getElem?_eq_getElem (by omega)⟩
   refine IdxK.mk k (eState ⟨x1, x2, x3, x4⟩) rfl (state_get hx) ?_; with_reducible refine wK ?_
   refine IdxK.mk k (eState ⟨y1, y2, y3, y4⟩) rfl (state_get hy) ?_; with_reducible refine wK ?_
   refine EqK.mk _ (fun y z w => state_neq ⟨x1, x2, x3, x4⟩ ⟨y1, y2, y3, y4⟩ y z w) ?_; with_reducible refine wK ?_
   by_cases e : (⟨x1, x2, x3, x4⟩ : StateM) = ⟨y1, y2, y3, y4⟩
   ·have e' := hx.trans ((congrArg some e).trans hy.symm)
    rw [decide_eq_true e]
    repeat' (first
  | refine gK ?_ | refine aE ?_ ?_
  | ((first
   | ((with_reducible show NextK _ _); refine NextK.mk (k + 1) ⟨by omega, same_succ hno e'⟩ (by omega) ⟨⟨rfl, rfl⟩, ⟨rfl, rfl, by show ((k + 1 : Nat) : Int) = (k : Int) + 1; omega, trivial⟩, trivial⟩)
   | ((with_reducible show DrawK _ _ _ _); refine dK ?_)) <;> with_reducible refine wK ?_)
  | apply trivial)
   ·rw [show decide (a = b) = false from decide_eq_false fun h => e (by rw [h] at hx; rw [hx] at hy; exact Option.some.inj hy), decide_eq_false e]
    repeat' (first
  | refine gK ?_ | refine aE ?_ ?_
  | (((with_reducible show DrawK _ _ _ _); refine dK ?_) <;> with_reducible refine wK ?_)
  | apply trivial)
  ·have hkl : k = a.length := by simp only [hlm, decide_eq_false_iff_not] at h1; omega
   subst hkl
   rw [show decide (a = b) = true from decide_eq_true (list_same g1 hno)]
   (have fct := hlm; (repeat' (first
  | refine gF ?_ | refine aE ?_ ?_
  | apply trivial)); all_goals clear fct)
 ·rw [show decide (a = b) = false from decide_eq_false fun h => g1 (by rw [h])]
  (have fct := And.intro hlm (And.intro hlm' (g1)); (repeat' (first
  | refine gF ?_ | refine aE ?_ ?_
  | apply trivial)); all_goals clear fct)
theorem state_eql (a b : StateM) (y z : Operand) (w : World) : ((do eqGuard .eql 75 y z (vState a) (vState b); binOp .eql 75 (vState a) (vState b) : Sem Value)).run Tryz.prog w = .ok (.bool (decide (a = b))) w := by
 rw [Sem.run_bind, run_eqGuard_agg w .eql 75 y z _ _ (by kernel_rfl), Result.andThen_ok, run_eql_struct, state_eq]; rfl
theorem wLong_ok (l : List OpM) : FnOK Tryz.prog 83 [] [eOps l] [] (eBool (decide (60 < l.length))) := by
 have hlm : (l.map oOp).length = l.length := List.length_map ..
 refine FnOK.startC (rvs := [.tmp 2]) G G_good Tryz.func83 rfl Tryz.ntmps83 rfl rfl ?_; with_reducible refine wD ?_
 (have fct := hlm; (repeat' (first
  | refine gF ?_ | refine aE ?_ ?_
  | apply trivial)); all_goals clear fct)
 all_goals first | (simp; omega)
theorem wUnnamed_ok (s : ByteArray) (hs : s.size ≤ 300) : FnOK Tryz.prog 80 [] [eStr s] [] (eBool (!(rightS s && decide (lowS s = s)))) := by
 have h81 := f81_ok s
 cases hr : rightS s
 all_goals
  rw [hr] at h81
  simp only [Bool.false_eq_true, if_false, if_true] at h81
  refine FnOK.startC (rvs := [.tmp 2]) G G_good Tryz.func80 rfl Tryz.ntmps80 rfl rfl ?_; with_reducible refine wD ?_
  repeat' (first
  | refine pK ?_ | refine aE ?_ ?_
  | ((first
   | ((with_reducible show IfK _ _ _ _); (refine IfK.mk (fun hp => ?_) (fun hp => ?_) <;> (try simp only [castN, decide_eq_true_eq, decide_eq_false_iff_not, Bool.not_eq_true', Bool.not_eq_false', Decidable.not_not, Int.not_lt, Int.not_le] at hp)))
   | ((with_reducible refine kQ 81 ?_); refine cL h81 c81 ?_)) <;> with_reducible refine wK ?_)
  | apply trivial)
  all_goals first | rfl | (simp_all; done) | (simp_all; omega)
def oddH (h : HookM) : Bool := decide (h.kind < 1) || decide (8 < h.kind) || decide (60 < h.prog.length)
theorem wOdd_ok (h : HookM) : FnOK Tryz.prog 82 [] [eHook h] [] (eBool (oddH h)) := by
 have hl := wLong_ok h.prog
 unfold oddH
 obtain ⟨k, p⟩ := h
 simp only at hl ⊢
 refine FnOK.startC (rvs := [.tmp 2]) G G_good Tryz.func82 rfl Tryz.ntmps82 rfl rfl ?_; with_reducible refine wD ?_
 repeat' (first
  | refine pK ?_ | refine aE ?_ ?_
  | ((first
   | ((with_reducible show IfK _ _ _ _); (refine IfK.mk (fun hp => ?_) (fun hp => ?_) <;> (try simp only [castN, decide_eq_true_eq, decide_eq_false_iff_not, Bool.not_eq_true', Bool.not_eq_false', Decidable.not_not, Int.not_lt, Int.not_le] at hp)))
   | ((with_reducible refine kQ 83 ?_); refine cL hl c83 ?_)) <;> with_reducible refine wK ?_)
  | apply trivial)
 all_goals first | rfl | (simp_all; done) | (simp_all; omega)
theorem wAllowed_ok (c : ClassM) (h1 : c.watch.length ≤ 100000) (h2 : c.hooks.length ≤ 100000) (h3 : ∀ s ∈ c.watch, s.size ≤ 300) : FnOK Tryz.prog 26 [] [eClass c] [] (eBool (allowedC c)) := by
 have a1 := FnOK.fn1 (cfS_ok 80 c80 [] rfl (fun s => !(rightS s && decide (lowS s = s))) c.watch h1 (fun s hs => wUnnamed_ok s (h3 s hs)))
 have a2 := FnOK.fn1 (cfHk_ok 82 c82 [] rfl oddH c.hooks h2 (fun h _ => wOdd_ok h))
 have a3 := wLong_ok c.peek
 have a4 := wLong_ok c.make
 have e0 : allowedC c = (((((decide (c.watch.length ≤ 12) && !(c.watch.any fun s => !(rightS s && decide (lowS s = s)))) && decide (c.hooks.length ≤ 12)) && !(c.hooks.any oddH)) && !decide (60 < c.peek.length)) && !decide (60 < c.make.length)) := by
  unfold allowedC
  rw [← decide_not, ← decide_not, decide_eq_decide.2 (show c.peek.length ≤ 60 ↔ ¬ 60 < c.peek.length by omega), decide_eq_decide.2 (show c.make.length ≤ 60 ↔ ¬ 60 < c.make.length by omega)]; rfl
 rw [e0]
 obtain ⟨c1, c2, c3, c4, c5⟩ := c
 simp only at a1 a2 a3 a4 ⊢
 have n2 : (c2.map oStr).length = c2.length := List.length_map ..
 have n5 : (c5.map oHook).length = c5.length := List.length_map ..
 generalize (c2.any fun s => !(rightS s && decide (lowS s = s))) = p1 at *
 generalize c5.any oddH = p2 at *
 generalize decide (60 < c3.length) = p3 at *
 generalize decide (60 < c4.length) = p4 at *
 by_cases e1 : (c2.length : Int) ≤ 12
 ·rw [decide_eq_true (show c2.length ≤ 12 by omega)]
  cases p1
  ·by_cases e2 : (c5.length : Int) ≤ 12
   ·rw [decide_eq_true (show c5.length ≤ 12 by omega)]
    cases p2 <;> cases p3 <;> cases p4 <;>
    ·refine FnOK.startC (rvs := [.tmp 2]) G G_good Tryz.func26 rfl Tryz.ntmps26 rfl rfl ?_; with_reducible refine wD ?_
     (have fct := And.intro n2 (And.intro n5 (And.intro (eq_true e1) ((eq_true e2)))); (repeat' (first
  | refine gF ?_ | refine aE ?_ ?_
  | ((first
   | ((with_reducible refine kQ 84 ?_); refine cL a1 c84 ?_)
   | ((with_reducible refine kQ 85 ?_); refine cL a2 c85 ?_)
   | ((with_reducible refine kQ 83 ?_); first | refine cL a3 c83 ?_ | refine cL a4 c83 ?_)) <;> with_reducible refine wK ?_)
  | apply trivial)); all_goals clear fct)
     all_goals first | rfl | (simp_all; done) | (simp_all; omega)
   ·rw [decide_eq_false (show ¬ c5.length ≤ 12 by omega)]
    refine FnOK.startC (rvs := [.tmp 2]) G G_good Tryz.func26 rfl Tryz.ntmps26 rfl rfl ?_; with_reducible refine wD ?_
    (have fct := And.intro n2 (And.intro n5 (And.intro (eq_true e1) ((eq_false e2)))); (repeat' (first
  | refine gF ?_ | refine aE ?_ ?_
  | (((with_reducible refine kQ 84 ?_); refine cL a1 c84 ?_) <;> with_reducible refine wK ?_)
  | apply trivial)); all_goals clear fct)
    all_goals first | rfl | (simp_all; done) | (simp_all; omega)
  ·refine FnOK.startC (rvs := [.tmp 2]) G G_good Tryz.func26 rfl Tryz.ntmps26 rfl rfl ?_; with_reducible refine wD ?_
   (have fct := And.intro n2 ((eq_true e1)); (repeat' (first
  | refine gF ?_ | refine aE ?_ ?_
  | (((with_reducible refine kQ 84 ?_); refine cL a1 c84 ?_) <;> with_reducible refine wK ?_)
  | apply trivial)); all_goals clear fct)
   all_goals first | rfl | (simp_all; done) | (simp_all; omega)
 ·rw [decide_eq_false (show ¬ c2.length ≤ 12 by omega)]
  refine FnOK.startC (rvs := [.tmp 2]) G G_good Tryz.func26 rfl Tryz.ntmps26 rfl rfl ?_; with_reducible refine wD ?_
  (have fct := And.intro n2 ((eq_false e1)); (repeat' (first
  | refine gF ?_ | refine aE ?_ ?_
  | apply trivial)); all_goals clear fct)
  all_goals first | rfl | (simp_all; done) | (simp_all; omega)
theorem whDef_ok (w : WorldM) (n : Int) : FnOK Tryz.prog 162 [] [eWorld w, eInt n] [] (eBool (defG w n)) := by
 unfold defG
 obtain ⟨⟨l, m⟩, st, ⟨d1, d2, d3, d4⟩, ⟨a, b, c, d⟩, ta, bu, cs⟩ := w
 have hlm : (d1.map oDef).length = d1.length := List.length_map ..
 by_cases h1 : 0 ≤ n
 ·refine FnOK.startC (rvs := [.tmp 4]) G G_good Tryz.func162 rfl Tryz.ntmps162 rfl rfl ?_; with_reducible refine wD ?_
  (have fct := And.intro (eq_true h1) (hlm); (repeat' (first
  | refine gF ?_ | refine aE ?_ ?_
  | apply trivial)); all_goals clear fct)
  all_goals first | (simp [h1]; done)
 ·refine FnOK.startC (rvs := [.tmp 4]) G G_good Tryz.func162 rfl Tryz.ntmps162 rfl rfl ?_; with_reducible refine wD ?_
  (have fct := And.intro (eq_false h1) (hlm); (repeat' (first
  | refine gF ?_ | refine aE ?_ ?_
  | apply trivial)); all_goals clear fct)
  all_goals first | (simp [h1]; done)
theorem whNode_ok (w : WorldM) (n : Int) : FnOK Tryz.prog 95 [] [eWorld w, eInt n] [] (eBool (thereN w.f.nodes n)) := by
 unfold thereN
 obtain ⟨⟨l, m⟩, st, ⟨d1, d2, d3, d4⟩, ⟨a, b, c, d⟩, ta, bu, cs⟩ := w
 have hlm : (l.map oNode).length = l.length := List.length_map ..
 by_cases h1 : 0 ≤ n
 ·refine FnOK.startC (rvs := [.tmp 4]) G G_good Tryz.func95 rfl Tryz.ntmps95 rfl rfl ?_; with_reducible refine wD ?_
  (have fct := And.intro (eq_true h1) (hlm); (repeat' (first
  | refine gF ?_ | refine aE ?_ ?_
  | apply trivial)); all_goals clear fct)
  all_goals first | (simp [h1]; done)
 ·refine FnOK.startC (rvs := [.tmp 4]) G G_good Tryz.func95 rfl Tryz.ntmps95 rfl rfl ?_; with_reducible refine wD ?_
  (have fct := And.intro (eq_false h1) (hlm); (repeat' (first
  | refine gF ?_ | refine aE ?_ ?_
  | apply trivial)); all_goals clear fct)
  all_goals first | (simp [h1]; done)
theorem whTodo_ok (w : WorldM) (t : TodoM) : FnOK Tryz.prog 96 [] [eWorld w, eTodo t] [] (eBool (todoG w t)) := by
 have hd := whDef_ok w t.df
 unfold todoG
 generalize defG w t.df = g at *
 obtain ⟨⟨l, m⟩, st, ⟨d1, d2, d3, d4⟩, ⟨a, b, c, d⟩, ta, bu, cs⟩ := w
 obtain ⟨x0, x1, x2, x3, x4, x5, x6, x7, x8, x9⟩ := t
 simp only at hd ⊢
 refine FnOK.startC (rvs := [.tmp 4]) G G_good Tryz.func96 rfl Tryz.ntmps96 rfl rfl ?_; with_reducible refine wD ?_
 repeat' (first
  | refine pK ?_ | refine aE ?_ ?_
  | ((first
   | ((with_reducible show IfK _ _ _ _); (refine IfK.mk (fun hp => ?_) (fun hp => ?_) <;> (try simp only [castN, decide_eq_true_eq, decide_eq_false_iff_not, Bool.not_eq_true', Bool.not_eq_false', Decidable.not_not, Int.not_lt, Int.not_le] at hp)))
   | ((with_reducible refine kQ 162 ?_); refine cL hd c162 ?_)) <;> with_reducible refine wK ?_)
  | apply trivial)
 all_goals first | rfl | (simp_all; done) | (simp_all; omega)
theorem whTask_ok (w : WorldM) (t : TaskM) : FnOK Tryz.prog 151 [] [eWorld w, eTask t] [] (eBool (taskG w t)) := by
 have hd := whDef_ok w t.df
 unfold taskG
 generalize defG w t.df = g at *
 obtain ⟨⟨l, m⟩, st, ⟨d1, d2, d3, d4⟩, ⟨a, b, c, d⟩, ta, bu, cs⟩ := w
 obtain ⟨x0, x1, x2⟩ := t
 simp only at hd ⊢
 refine FnOK.startC (rvs := [.tmp 4]) G G_good Tryz.func151 rfl Tryz.ntmps151 rfl rfl ?_; with_reducible refine wD ?_
 repeat' (first
  | refine pK ?_ | refine aE ?_ ?_
  | ((first
   | ((with_reducible show IfK _ _ _ _); (refine IfK.mk (fun hp => ?_) (fun hp => ?_) <;> (try simp only [castN, decide_eq_true_eq, decide_eq_false_iff_not, Bool.not_eq_true', Bool.not_eq_false', Decidable.not_not, Int.not_lt, Int.not_le] at hp)))
   | ((with_reducible refine kQ 162 ?_); refine cL hd c162 ?_)) <;> with_reducible refine wK ?_)
  | apply trivial)
 all_goals first | rfl | (simp_all; done) | (simp_all; omega)
theorem whBuild_ok (w : WorldM) (t : BuildM) : FnOK Tryz.prog 154 [] [eWorld w, eBuild t] [] (eBool (buildG w t)) := by
 have hd := whDef_ok w t.df
 have hn := whNode_ok w t.node
 unfold buildG elemV
 obtain ⟨x0, x1⟩ := t
 cases ht : thereN w.f.nodes x1 with
 | false =>
   generalize defG w x0 = g at *
   obtain ⟨⟨l, m⟩, st, ⟨d1, d2, d3, d4⟩, ⟨a, b, c, d⟩, ta, bu, cs⟩ := w
   simp only at hd hn ht ⊢
   rw [ht] at hn
   refine FnOK.startC (rvs := [.tmp 4]) G G_good Tryz.func154 rfl Tryz.ntmps154 rfl rfl ?_; with_reducible refine wD ?_
   cases g
   all_goals
    repeat' (first
  | refine pK ?_ | refine aE ?_ ?_
  | ((first
   | ((with_reducible show IfK _ _ _ _); (refine IfK.mk (fun hp => ?_) (fun hp => ?_) <;> (try simp only [castN, decide_eq_true_eq, decide_eq_false_iff_not, Bool.not_eq_true', Bool.not_eq_false', Decidable.not_not, Int.not_lt, Int.not_le] at hp)))
   | ((with_reducible refine kQ 162 ?_); refine cL hd c162 ?_)
   | ((with_reducible refine kQ 95 ?_); refine cL hn c95 ?_)) <;> with_reducible refine wK ?_)
  | apply trivial)
   all_goals first | rfl | (simp_all; done) | (simp_all; omega)
 | true =>
   obtain ⟨k, y, rfl, hy, hnd⟩ := there_iff.1 ht
   rw [hnd]
   generalize defG w x0 = g at *
   obtain ⟨⟨l, m⟩, st, ⟨d1, d2, d3, d4⟩, ⟨a, b, c, d⟩, ta, bu, cs⟩ := w
   simp only at hd hn ht hy ⊢
   rw [ht] at hn
   have hkl := (List.getElem?_eq_some_iff.1 hy).1
   obtain ⟨y0, y1, y2, y3, y4, y5, y6, y7, y8, y9⟩ := y
   refine FnOK.startC (rvs := [.tmp 4]) G G_good Tryz.func154 rfl Tryz.ntmps154 rfl rfl ?_; with_reducible refine wD ?_
   cases g
   all_goals
    repeat' (first
  | refine pK ?_ | refine aE ?_ ?_
  | ((first
   | ((with_reducible show IfK _ _ _ _); (refine IfK.mk (fun hp => ?_) (fun hp => ?_) <;> (try simp only [castN, decide_eq_true_eq, decide_eq_false_iff_not, Bool.not_eq_true', Bool.not_eq_false', Decidable.not_not, Int.not_lt, Int.not_le] at hp)))
   | ((with_reducible refine kQ 162 ?_); refine cL hd c162 ?_)
   | ((with_reducible refine kQ 95 ?_); refine cL hn c95 ?_)
   | ((with_reducible show IdxK _ _ _ _ _); refine IdxK.mk k (eNode ⟨y0, y1, y2, y3, y4, y5, y6, y7, y8, y9⟩) rfl (node_get hy) ?_)) <;> with_reducible refine wK ?_)
  | apply trivial)
   all_goals first | rfl | (simp_all; done) | (simp_all; omega)
theorem whState_ok (w : WorldM) (k : Nat) (x : NodeM) (s : StateM) (hx : w.f.nodes[k]? = some x) (hs : w.states[k]? = some s) : FnOK Tryz.prog 146 [] [eWorld w, eInt k] [] (eBool (stateOK w x s)) := by
 have hd := whDef_ok w s.df
 have hn := whNode_ok w s.owner
 unfold stateOK
 generalize defG w s.df = g at *
 generalize thereN w.f.nodes s.owner = t at *
 obtain ⟨⟨l, m⟩, st, ⟨d1, d2, d3, d4⟩, ⟨a, b, c, d⟩, ta, bu, cs⟩ := w
 obtain ⟨y0, y1, y2, y3, y4, y5, y6, y7, y8, y9⟩ := x
 obtain ⟨s1, s2, s3, s4⟩ := s
 simp only at hd hn hx hs ⊢
 by_cases e0 : y0 = 1
 ·rw [if_pos e0]
  by_cases e1 : s3 = -1
  all_goals
   refine FnOK.startC (rvs := [.tmp 4]) G G_good Tryz.func146 rfl Tryz.ntmps146 rfl rfl ?_; with_reducible refine wD ?_
   (have fct := And.intro e0 (e1); (repeat' (first
  | refine pF ?_ | refine aE ?_ ?_
  | ((first
   | ((with_reducible show IfK _ _ _ _); (refine IfK.mk (fun hp => ?_) (fun hp => ?_) <;> (try simp only [castN, decide_eq_true_eq, decide_eq_false_iff_not, Bool.not_eq_true', Bool.not_eq_false', Decidable.not_not, Int.not_lt, Int.not_le] at hp)))
   | ((with_reducible refine kQ 162 ?_); refine cL hd c162 ?_)
   | ((with_reducible refine kQ 95 ?_); refine cL hn c95 ?_)
   | ((with_reducible show IdxK _ _ _ _ _); first | refine IdxK.mk k (eNode ⟨y0, y1, y2, y3, y4, y5, y6, y7, y8, y9⟩) rfl (node_get hx) ?_ | refine IdxK.mk k (eState ⟨s1, s2, s3, s4⟩) rfl (state_get hs) ?_)) <;> with_reducible refine wK ?_)
  | apply trivial)); all_goals clear fct)
   all_goals first | rfl | (simp_all; done) | (simp_all; omega)
 ·rw [if_neg e0]
  refine FnOK.startC (rvs := [.tmp 4]) G G_good Tryz.func146 rfl Tryz.ntmps146 rfl rfl ?_; with_reducible refine wD ?_
  (have fct := (eq_false e0); (repeat' (first
  | refine gF ?_ | refine aE ?_ ?_
  | ((first
   | ((with_reducible show IdxK _ _ _ _ _); first | refine IdxK.mk k (eNode ⟨y0, y1, y2, y3, y4, y5, y6, y7, y8, y9⟩) rfl (node_get hx) ?_ | refine IdxK.mk k (eState ⟨s1, s2, s3, s4⟩) rfl (state_get hs) ?_)
   | ((with_reducible show EqK _ _ _ _ _ _ _ _); refine EqK.mk _ (fun y z w => state_eql ⟨s1, s2, s3, s4⟩ ⟨0, -1, -1, false⟩ y z w) ?_)) <;> with_reducible refine wK ?_)
  | apply trivial)); all_goals clear fct)
  all_goals first | rfl | (simp_all; done) | (simp_all; omega)
theorem frz_set {α : Type} (o : α → AV) {wd k : Nat} {m : ML} {fz : Nat → Bool} {tab : List (Nat × Nat)} {n t u off len L : Nat} {ro : Bool} {rows : List AV} {l : List α} {y : α} (h1 : lkM m t = .live wd rows ro) (h2 : fz t = true) (h3 : rows = (l.map o).set k (.own u off len)) (hk : k < l.length) (h4 : L = l.length) (hn : ∀ l : List α, noRefL (l.map o) = true) (h6 : MF tab fz m n (o y) (.own u off len)) : FrzK m fz (MF tab fz m n) (.sl wd ((l.set k y).map o)) t 0 L := by
 subst h3; subst h4
 have e : ((l.map o).set k (.own u off len)).length = l.length := by simp
 refine ⟨wd, _, ro, _, h1, h2, rfl, by omega, hn _, ?_, ?_⟩
 ·rw [List.drop_zero, List.take_of_length_le (by omega)]; simp
 ·intro i x z hx hz
  rw [List.drop_zero, List.take_of_length_le (by omega), List.getElem?_set] at hz
  rw [List.getElem?_map, List.getElem?_set] at hx
  by_cases e2 : k = i
  ·subst e2
   rw [if_pos rfl, if_pos hk] at hx
   rw [if_pos rfl, if_pos (by simpa using hk)] at hz
   cases hx; cases hz
   exact h6
  ·rw [if_neg e2] at hx hz
   rw [List.getElem?_map] at hz
   rw [hx] at hz; cases hz
   refine MF_refl n x ?_
   obtain ⟨a, ha, rfl⟩ : ∃ a, l[i]? = some a ∧ o a = x := by
    cases q : l[i]? with
    | none => rw [q] at hx; cases hx
    | some a => rw [q] at hx; exact ⟨a, rfl, Option.some.inj hx⟩
   exact noRefL_iff.1 (hn l) _ (List.mem_map_of_mem (List.mem_of_getElem? ha))
theorem news_ln {a : List (List TodoM)} {b : List (List Int)} {c : List Int} {i j k : Nat} : NewsM [i, j, k] [mTodoss a, mIntss b, rInts c] [mTodoss a, mIntss b, rInts c] := ⟨⟨rfl, .inl ⟨rfl, noRef_todos2 _⟩⟩, ⟨rfl, .inl ⟨rfl, noRef_stack _⟩⟩, ⟨rfl, .inl ⟨rfl, noRef_ints _⟩⟩, trivial⟩
theorem lnBusy_ok (t : List TodoM) : FnOK Tryz.prog 110 [] [eTodos t] [] (eBool (decide (0 < t.length))) := by
 have hlm := (show (t.map oTodo).length = t.length from List.length_map ..)
 refine FnOK.startC (rvs := [.tmp 2]) G G_good Tryz.func110 rfl Tryz.ntmps110 rfl rfl ?_; with_reducible refine wD ?_
 (have fct := hlm; (repeat' (first
  | refine gF ?_ | refine aE ?_ ?_
  | apply trivial)); all_goals clear fct)
 all_goals first | (simp; done)
theorem lnIdle_ok (l : LineM) (h1 : l.todos.length ≤ 100000) : FnOK Tryz.prog 45 [] [eLine l] [] (eBool (lnIdle l)) := by
 have hany := FnOK.fn1 (cfTt_ok 110 c110 [] rfl (fun t => decide (0 < t.length)) l.todos h1 (fun a _ => lnBusy_ok a))
 unfold lnIdle
 obtain ⟨a, b, c, d⟩ := l
 simp only at hany ⊢
 have hbm : (b.map oInts).length = b.length := List.length_map ..
 have hcm : (c.map oInt).length = c.length := List.length_map ..
 generalize (a.any fun t => decide (0 < t.length)) = p at *
 cases d with
 | true =>
   refine FnOK.startC (rvs := [.tmp 2]) G G_good Tryz.func45 rfl Tryz.ntmps45 rfl rfl ?_; with_reducible refine wD ?_
   repeat' (first
  | refine gK ?_ | refine aE ?_ ?_
  | apply trivial)
   all_goals first | rfl
 | false =>
   by_cases e1 : (b.length : Int) = 0
   ·have g1 : decide (((b.map oInts).length : Int) = 0) = true := decide_eq_true (by rw [hbm]; exact e1)
    rw [decide_eq_true (show b.length = 0 by omega)]
    by_cases e2 : (c.length : Int) = 0
    ·rw [decide_eq_true (show c.length = 0 by omega)]
     have g2 : decide (((c.map oInt).length : Int) = 0) = true := decide_eq_true (by rw [hcm]; exact e2)
     refine FnOK.startC (rvs := [.tmp 2]) G G_good Tryz.func45 rfl Tryz.ntmps45 rfl rfl ?_; with_reducible refine wD ?_
     repeat' (first
  | refine gK ?_ | refine aE ?_ ?_
  | (((with_reducible refine kQ 111 ?_); refine cL hany c111 ?_) <;> with_reducible refine wK ?_)
  | apply trivial)
     all_goals first | rfl | (simp; done)
    ·rw [decide_eq_false (show ¬ c.length = 0 by omega)]
     have g2 : decide (((c.map oInt).length : Int) = 0) = false := decide_eq_false (by rw [hcm]; exact e2)
     refine FnOK.startC (rvs := [.tmp 2]) G G_good Tryz.func45 rfl Tryz.ntmps45 rfl rfl ?_; with_reducible refine wD ?_
     repeat' (first
  | refine gK ?_ | refine aE ?_ ?_
  | apply trivial)
     all_goals first | rfl | (simp; done)
   ·rw [decide_eq_false (show ¬ b.length = 0 by omega)]
    have g1 : decide (((b.map oInts).length : Int) = 0) = false := decide_eq_false (by rw [hbm]; exact e1)
    refine FnOK.startC (rvs := [.tmp 2]) G G_good Tryz.func45 rfl Tryz.ntmps45 rfl rfl ?_; with_reducible refine wD ?_
    repeat' (first
  | refine gK ?_ | refine aE ?_ ?_
  | apply trivial)
    all_goals first | rfl | (simp; done)
def addW (l : LineM) (n : Int) (t : TodoM) : LineM × Bool × Int := if (lnR l && inLn l n) = true then (lnAdd l n t, lnTell l, 0) else (l, false, 1)
theorem addW_no {l : LineM} {n : Int} {t : TodoM} (h : (lnR l && inLn l n) = false) : addW l n t = (l, false, 1) := by unfold addW; rw [h]; rfl
theorem addW_yes {l : LineM} {n : Int} {t : TodoM} (h : (lnR l && inLn l n) = true) : addW l n t = (lnAdd l n t, lnTell l, 0) := by unfold addW; rw [h]; rfl
theorem stack_top {b : List (List Int)} {k : Nat} {s : List Int} (e : b.length = k + 1) (h : b[k]? = some s) {a : List (List TodoM)} {c : List Int} {d : Bool} : stTop ⟨a, b, c, d⟩ = s := by
 unfold stTop
 show (b[b.length - 1]?).getD [] = s
 rw [e, Nat.add_sub_cancel, h]; rfl
theorem lnAdd_ok (l : LineM) (hs : SmL 98000 l) (n : Int) (t : TodoM) : FnOK Tryz.prog 165 [] [eLine l, eInt n, eTodo t] [] (.tup [eLine (addW l n t).1, eBool (addW l n t).2.1, eInt (addW l n t).2.2]) := by
 have hR := lnRight_ok l (hs.mono (by omega))
 have hI := lnIn_ok l n
 have hO := lnOwn_ok l (by have := hs.todos; omega) (by have := hs.stack; omega) (by have := hs.back; omega)
 cases e1 : lnR l with
 | false =>
   rw [e1] at hR
   rw [addW_no (by rw [e1]; rfl)]
   obtain ⟨a, b, c, d⟩ := l
   obtain ⟨x0, x1, x2, x3, x4, x5, x6, x7, x8, x9⟩ := t
   refine FnOK.startC (rvs := [.cell 6 34, .tmp 7, .tmp 8]) G G_good Tryz.func165 rfl Tryz.ntmps165 rfl rfl ?_; with_reducible refine wD ?_
   repeat' (first
  | refine gK ?_ | refine aE ?_ ?_
  | (((with_reducible refine kQ 145 ?_); refine cL hR c145 ?_) <;> with_reducible refine wK ?_)
  | apply trivial)
 | true =>
   rw [e1] at hR
   cases e2 : inLn l n with
   | false =>
     rw [e2] at hI
     rw [addW_no (by rw [e1, e2]; rfl)]
     obtain ⟨a, b, c, d⟩ := l
     obtain ⟨x0, x1, x2, x3, x4, x5, x6, x7, x8, x9⟩ := t
     refine FnOK.startC (rvs := [.cell 6 34, .tmp 7, .tmp 8]) G G_good Tryz.func165 rfl Tryz.ntmps165 rfl rfl ?_; with_reducible refine wD ?_
     repeat' (first
  | refine gK ?_ | refine aE ?_ ?_
  | ((first
   | ((with_reducible refine kQ 145 ?_); refine cL hR c145 ?_)
   | ((with_reducible refine kQ 210 ?_); refine cL hI c210 ?_)) <;> with_reducible refine wK ?_)
  | apply trivial)
   | true =>
     rw [e2] at hI
     obtain ⟨k, y, rfl, hk, hy, htd⟩ := in_get e2
     have hyl := hs.todo y (List.mem_of_getElem? hy)
     have hC := cltodos_ok y (by omega)
     have hbl := hs.stack
     have hcl := hs.back
     have hst := hs.list
     rw [addW_yes (by rw [e1, e2]; rfl)]
     unfold lnAdd lnTell
     rw [htd, Int.toNat_natCast]
     obtain ⟨a, b, c, d⟩ := l
     obtain ⟨x0, x1, x2, x3, x4, x5, x6, x7, x8, x9⟩ := t
     simp only at hk hy hbl hcl hst hO ⊢
     have hcm : (c.map oInt).length = c.length := List.length_map ..
     have ham : (a.map oTodos).length = a.length := List.length_map ..
     have hym : (y.map oTodo).length = y.length := List.length_map ..
     have e3 : y.map oTodo ++ [eTodo ⟨x0, x1, x2, x3, x4, x5, x6, x7, x8, x9⟩] = (y ++ [(⟨x0, x1, x2, x3, x4, x5, x6, x7, x8, x9⟩ : TodoM)]).map oTodo := by rw [List.map_append]; rfl
     by_cases hb : b = []
     ·subst hb
      rw [if_pos rfl]
      have e4 : c.map oInt ++ [eInt k] = (c ++ [(k : Int)]).map oInt := by rw [List.map_append]; rfl
      refine FnOK.startC (rvs := [.cell 6 34, .tmp 7, .tmp 8]) G G_good Tryz.func165 rfl Tryz.ntmps165 rfl rfl ?_; with_reducible refine wD ?_
      repeat' (first
  | refine gK ?_ | refine aE ?_ ?_
  | ((first
   | ((with_reducible refine kQ 145 ?_); refine cL hR c145 ?_)
   | ((with_reducible refine kQ 210 ?_); refine cL hI c210 ?_)
   | ((with_reducible refine kQ 159 ?_); refine CallK.lend (news := [mTodoss a, mIntss _, rInts c]) [221, 222, 223] [] hO c159 ⟨⟨rfl, rfl, rfl, rfl, trivial⟩, trivial⟩ trivial rfl ⟨⟨rfl, rfl⟩, rfl⟩ rfl news_ln rfl rfl ?_)
   | ((with_reducible show LtK _ _ _ _ _); refine LtK.mk k rfl hk ?_)
   | ((with_reducible show ElemK _ _ _ _ _); refine ElemK.mk (eTodos y) (by first | exact todos_get hy | (rw [Nat.zero_add]; exact todos_get hy)) ?_)
   | ((with_reducible refine kQ 218 ?_); refine CallK.new 311 [] hC c218 ⟨rfl, trivial⟩ rfl rfl rfl (outs_todos _) rfl ?_)
   | ((with_reducible show AppK _ _ _ _ _ _ _ _ _ _); first | refine AppK.mk (y.map oTodo) [eTodo ⟨x0, x1, x2, x3, x4, x5, x6, x7, x8, x9⟩] ⟨rfl, hym.symm, rfl⟩ ⟨rfl, rfl, rfl⟩ rfl (by simp; omega) (by simp; omega) ?_ | refine AppK.mk (c.map oInt) [eInt k] ⟨rfl, hcm.symm, rfl⟩ ⟨rfl, rfl, rfl⟩ rfl (by simp; omega) (by simp; omega) ?_)) <;> with_reducible refine wK ?_)
  | apply trivial)
      all_goals first
       | exact frz_set oTodos (y := y ++ [_]) rfl rfl (by rw [Nat.zero_add]) hk rfl noRef_todos2 (frz_todos rfl rfl e3 (by simp))
       | exact frz_intss rfl rfl rfl rfl
       | exact frz_ints rfl rfl e4 (by simp)
       | (simp; done)
     ·rw [if_neg hb]
      obtain ⟨q, hq⟩ : ∃ q, b.length = q + 1 := ⟨b.length - 1, by have := List.length_pos_iff.2 hb; omega⟩
      obtain ⟨s, hs2⟩ : ∃ s, b[q]? = some s := ⟨_, List.getElem?_eq_getElem (by omega)⟩
      have hsl := hst s (List.mem_of_getElem? hs2)
      have hCs := clints_ok s (by omega)
      have hbm : (b.map oInts).length = b.length := List.length_map ..
      have hsm : (s.map oInt).length = s.length := List.length_map ..
      rw [stack_top hq hs2, hq, Nat.add_sub_cancel, decide_eq_false hb, Bool.false_and]
      have e4 : s.map oInt ++ [eInt k] = (s ++ [(k : Int)]).map oInt := by rw [List.map_append]; rfl
      have e5 : (b.length : Int) - 1 = (q : Int) := by omega
      refine FnOK.startC (rvs := [.cell 6 34, .tmp 7, .tmp 8]) G G_good Tryz.func165 rfl Tryz.ntmps165 rfl rfl ?_; with_reducible refine wD ?_
      repeat' (first
  | refine gK ?_ | refine aE ?_ ?_
  | ((first
   | ((with_reducible refine kQ 145 ?_); refine cL hR c145 ?_)
   | ((with_reducible refine kQ 210 ?_); refine cL hI c210 ?_)
   | ((with_reducible refine kQ 159 ?_); refine CallK.lend (news := [mTodoss a, mIntss _, rInts c]) [221, 222, 223] [] hO c159 ⟨⟨rfl, rfl, rfl, rfl, trivial⟩, trivial⟩ trivial rfl ⟨⟨rfl, rfl⟩, rfl⟩ rfl news_ln rfl rfl ?_)
   | ((with_reducible show LtK _ _ _ _ _); refine LtK.mk k rfl hk ?_)
   | ((with_reducible show ElemK _ _ _ _ _); refine ElemK.mk (eTodos y) (by first | exact todos_get hy | (rw [Nat.zero_add]; exact todos_get hy)) ?_)
   | ((with_reducible refine kQ 218 ?_); refine CallK.new 311 [] hC c218 ⟨rfl, trivial⟩ rfl rfl rfl (outs_todos _) rfl ?_)
   | ((with_reducible show AppK _ _ _ _ _ _ _ _ _ _); refine AppK.mk (y.map oTodo) [eTodo ⟨x0, x1, x2, x3, x4, x5, x6, x7, x8, x9⟩] ⟨rfl, hym.symm, rfl⟩ ⟨rfl, rfl, rfl⟩ rfl (by simp; omega) (by simp; omega) ?_)) <;> with_reducible refine wK ?_)
  | apply trivial)
      rw [e5]
      repeat' (first
  | refine gK ?_ | refine aE ?_ ?_
  | ((first
   | ((with_reducible show LtK _ _ _ _ _); refine LtK.mk q rfl (by omega) ?_)
   | ((with_reducible show ElemK _ _ _ _ _); refine ElemK.mk (eInts s) (by first | exact ints_get hs2 | (rw [Nat.zero_add]; exact ints_get hs2)) ?_)
   | ((with_reducible refine kQ 217 ?_); refine CallK.new 501 [] hCs c217 ⟨rfl, trivial⟩ rfl rfl rfl (outs_ints _) rfl ?_)
   | ((with_reducible show AppK _ _ _ _ _ _ _ _ _ _); refine AppK.mk (s.map oInt) [eInt k] ⟨rfl, hsm.symm, rfl⟩ ⟨rfl, rfl, rfl⟩ rfl (by simp; omega) (by simp; omega) ?_)) <;> with_reducible refine wK ?_)
  | apply trivial)
      all_goals first
       | exact frz_set oTodos (y := y ++ [_]) rfl rfl (by rw [Nat.zero_add]) hk rfl noRef_todos2 (frz_todos rfl rfl e3 (by simp))
       | exact frz_set oInts (y := s ++ [_]) rfl rfl (by rw [Nat.zero_add]) (by omega) rfl noRef_stack (frz_ints rfl rfl e4 (by simp))
       | exact frz_ints rfl rfl rfl rfl
       | (simp [hb]; done)
theorem attr_self (a : AttrM) (y z : Operand) (w : World) : ((do eqGuard .neq 179 y z (.agg #[.string a.name, .string a.value]) (.agg #[.string a.name, .string a.value]); binOp .neq 179 (.agg #[.string a.name, .string a.value]) (.agg #[.string a.name, .string a.value]) : Sem Value)).run Tryz.prog w = .ok (.bool false) w := by
 have hS : Tryz.prog.underlying 179 = some (.struct (Tryz.prog.fieldsOf 179)) := by kernel_rfl
 have hp : Tryz.prog.stoodInHeld 179 = false := by kernel_rfl
 have u9 := Tryz.underlying9
 have a9 := Tryz.isAgg9
 have z9 := Tryz.sizeOf9
 rw [Sem.run_bind, run_eqGuard_agg w .neq 179 y z _ _ (by kernel_rfl), Result.andThen_ok, run_neq_struct, show (10000 : Nat) = 9999 + 1 from rfl, run_equalIn_agg w 9999 179 _ _ hS hp]
 simp only [Program.fieldsOf, Tryz.underlying179]
 go_simp
theorem def_self (a : DefM) (y z : Operand) (w : World) : ((do eqGuard .neq 95 y z (.agg #[.string a.name, .string a.locl, .int .i64 a.cls]) (.agg #[.string a.name, .string a.locl, .int .i64 a.cls]); binOp .neq 95 (.agg #[.string a.name, .string a.locl, .int .i64 a.cls]) (.agg #[.string a.name, .string a.locl, .int .i64 a.cls]) : Sem Value)).run Tryz.prog w = .ok (.bool false) w := by
 have hS : Tryz.prog.underlying 95 = some (.struct (Tryz.prog.fieldsOf 95)) := by kernel_rfl
 have hp : Tryz.prog.stoodInHeld 95 = false := by kernel_rfl
 have u3 := Tryz.underlying3
 have a3 := Tryz.isAgg3
 have z3 := Tryz.sizeOf3
 have u9 := Tryz.underlying9
 have a9 := Tryz.isAgg9
 have z9 := Tryz.sizeOf9
 rw [Sem.run_bind, run_eqGuard_agg w .neq 95 y z _ _ (by kernel_rfl), Result.andThen_ok, run_neq_struct, show (10000 : Nat) = 9999 + 1 from rfl, run_equalIn_agg w 9999 95 _ _ hS hp]
 simp only [Program.fieldsOf, Tryz.underlying95]
 go_simp
theorem wait_self (a : WaitM) (y z : Operand) (w : World) : ((do eqGuard .neq 162 y z (.agg #[.string a.name, .int .i64 a.ticket]) (.agg #[.string a.name, .int .i64 a.ticket]); binOp .neq 162 (.agg #[.string a.name, .int .i64 a.ticket]) (.agg #[.string a.name, .int .i64 a.ticket]) : Sem Value)).run Tryz.prog w = .ok (.bool false) w := by
 have hS : Tryz.prog.underlying 162 = some (.struct (Tryz.prog.fieldsOf 162)) := by kernel_rfl
 have hp : Tryz.prog.stoodInHeld 162 = false := by kernel_rfl
 have u3 := Tryz.underlying3
 have a3 := Tryz.isAgg3
 have z3 := Tryz.sizeOf3
 have u9 := Tryz.underlying9
 have a9 := Tryz.isAgg9
 have z9 := Tryz.sizeOf9
 rw [Sem.run_bind, run_eqGuard_agg w .neq 162 y z _ _ (by kernel_rfl), Result.andThen_ok, run_neq_struct, show (10000 : Nat) = 9999 + 1 from rfl, run_equalIn_agg w 9999 162 _ _ hS hp]
 simp only [Program.fieldsOf, Tryz.underlying162]
 go_simp
theorem task_self (a : TaskM) (y z : Operand) (w : World) : ((do eqGuard .neq 73 y z (.agg #[.int .i64 a.kind, .int .i64 a.ticket, .int .i64 a.df]) (.agg #[.int .i64 a.kind, .int .i64 a.ticket, .int .i64 a.df]); binOp .neq 73 (.agg #[.int .i64 a.kind, .int .i64 a.ticket, .int .i64 a.df]) (.agg #[.int .i64 a.kind, .int .i64 a.ticket, .int .i64 a.df]) : Sem Value)).run Tryz.prog w = .ok (.bool false) w := by
 have hS : Tryz.prog.underlying 73 = some (.struct (Tryz.prog.fieldsOf 73)) := by kernel_rfl
 have hp : Tryz.prog.stoodInHeld 73 = false := by kernel_rfl
 have u3 := Tryz.underlying3
 have a3 := Tryz.isAgg3
 have z3 := Tryz.sizeOf3
 rw [Sem.run_bind, run_eqGuard_agg w .neq 73 y z _ _ (by kernel_rfl), Result.andThen_ok, run_neq_struct, show (10000 : Nat) = 9999 + 1 from rfl, run_equalIn_agg w 9999 73 _ _ hS hp]
 simp only [Program.fieldsOf, Tryz.underlying73]
 go_simp
theorem build_self (a : BuildM) (y z : Operand) (w : World) : ((do eqGuard .neq 92 y z (.agg #[.int .i64 a.df, .int .i64 a.node]) (.agg #[.int .i64 a.df, .int .i64 a.node]); binOp .neq 92 (.agg #[.int .i64 a.df, .int .i64 a.node]) (.agg #[.int .i64 a.df, .int .i64 a.node]) : Sem Value)).run Tryz.prog w = .ok (.bool false) w := by
 have hS : Tryz.prog.underlying 92 = some (.struct (Tryz.prog.fieldsOf 92)) := by kernel_rfl
 have hp : Tryz.prog.stoodInHeld 92 = false := by kernel_rfl
 have u3 := Tryz.underlying3
 have a3 := Tryz.isAgg3
 have z3 := Tryz.sizeOf3
 rw [Sem.run_bind, run_eqGuard_agg w .neq 92 y z _ _ (by kernel_rfl), Result.andThen_ok, run_neq_struct, show (10000 : Nat) = 9999 + 1 from rfl, run_equalIn_agg w 9999 92 _ _ hS hp]
 simp only [Program.fieldsOf, Tryz.underlying92]
 go_simp
theorem todo_self (a : TodoM) (y z : Operand) (w : World) : ((do eqGuard .neq 59 y z (.agg #[.int .i64 a.kind, .int .i64 a.df, .string a.name, .bool a.had, .bool a.has, .string a.old, .string a.new, .int .i64 a.src, .int .i64 a.dst, .bool a.on]) (.agg #[.int .i64 a.kind, .int .i64 a.df, .string a.name, .bool a.had, .bool a.has, .string a.old, .string a.new, .int .i64 a.src, .int .i64 a.dst, .bool a.on]); binOp .neq 59 (.agg #[.int .i64 a.kind, .int .i64 a.df, .string a.name, .bool a.had, .bool a.has, .string a.old, .string a.new, .int .i64 a.src, .int .i64 a.dst, .bool a.on]) (.agg #[.int .i64 a.kind, .int .i64 a.df, .string a.name, .bool a.had, .bool a.has, .string a.old, .string a.new, .int .i64 a.src, .int .i64 a.dst, .bool a.on]) : Sem Value)).run Tryz.prog w = .ok (.bool false) w := by
 have hS : Tryz.prog.underlying 59 = some (.struct (Tryz.prog.fieldsOf 59)) := by kernel_rfl
 have hp : Tryz.prog.stoodInHeld 59 = false := by kernel_rfl
 have u3 := Tryz.underlying3
 have a3 := Tryz.isAgg3
 have z3 := Tryz.sizeOf3
 have u4 := Tryz.underlying4
 have a4 := Tryz.isAgg4
 have z4 := Tryz.sizeOf4
 have u9 := Tryz.underlying9
 have a9 := Tryz.isAgg9
 have z9 := Tryz.sizeOf9
 rw [Sem.run_bind, run_eqGuard_agg w .neq 59 y z _ _ (by kernel_rfl), Result.andThen_ok, run_neq_struct, show (10000 : Nat) = 9999 + 1 from rfl, run_equalIn_agg w 9999 59 _ _ hS hp]
 simp only [Program.fieldsOf, Tryz.underlying59]
 go_simp
theorem attrs_same (l : List AttrM) (hl : l.length ≤ 100000) : FnOK Tryz.prog 126 [] [eAttrs l, eAttrs l] [] (eBool true) := by
 have hlm : (l.map oAttr).length = l.length := List.length_map ..
 refine FnOK.startC (rvs := [.tmp 4]) G G_good Tryz.func126 rfl Tryz.ntmps126 rfl rfl ?_; with_reducible refine wD ?_
 (have fct := hlm; (repeat' (first
  | refine gF ?_ | refine aE ?_ ?_
  | apply trivial)); all_goals clear fct)
 refine LoopK.use G G_good (fun (k : Nat) => [(0, eAttrs l), (1, eAttrs l), (5, eInt k)]) (fun _ => []) (fun k => k ≤ l.length) (fun k => l.length - k) 0 (Nat.zero_le _)
  ⟨⟨rfl, rfl⟩, ⟨rfl, rfl, rfl, trivial⟩, trivial⟩ ?_
 intro k hk
 with_reducible refine wK ?_
 refine IfK.mk (fun h1 => ?_) (fun h1 => ?_) <;> (try simp only [castN] at h1) <;> with_reducible refine wK ?_
 ·have hk' : k < l.length := by simp only [decide_eq_true_eq] at h1; omega
  obtain ⟨x, hx⟩ : ∃ x, l[k]? = some x := ⟨_, List.getElem?_eq_getElem hk'⟩
  obtain ⟨x1, x2⟩ := x
  repeat' (first
  | refine gK ?_ | refine aE ?_ ?_
  | ((first
   | ((with_reducible show IdxK _ _ _ _ _); refine IdxK.mk k (eAttr ⟨x1, x2⟩) rfl (attr_get hx) ?_)
   | ((with_reducible show EqK _ _ _ _ _ _ _ _); refine EqK.mk _ (fun y z w => attr_self ⟨x1, x2⟩ y z w) ?_)
   | ((with_reducible show DrawK _ _ _ _); refine dK ?_)
   | ((with_reducible show NextK _ _); refine NextK.mk (k + 1) (by omega) (by omega) ⟨⟨rfl, rfl⟩, ⟨rfl, rfl, by show ((k + 1 : Nat) : Int) = (k : Int) + 1; omega, trivial⟩, trivial⟩)) <;> with_reducible refine wK ?_)
  | apply trivial)
 ·repeat' (first
  | refine gK ?_ | refine aE ?_ ?_
  | apply trivial)
theorem todos_same (l : List TodoM) (hl : l.length ≤ 100000) : FnOK Tryz.prog 43 [] [eTodos l, eTodos l] [] (eBool true) := by
 have hlm : (l.map oTodo).length = l.length := List.length_map ..
 refine FnOK.startC (rvs := [.tmp 4]) G G_good Tryz.func43 rfl Tryz.ntmps43 rfl rfl ?_; with_reducible refine wD ?_
 (have fct := hlm; (repeat' (first
  | refine gF ?_ | refine aE ?_ ?_
  | apply trivial)); all_goals clear fct)
 refine LoopK.use G G_good (fun (k : Nat) => [(0, eTodos l), (1, eTodos l), (5, eInt k)]) (fun _ => []) (fun k => k ≤ l.length) (fun k => l.length - k) 0 (Nat.zero_le _)
  ⟨⟨rfl, rfl⟩, ⟨rfl, rfl, rfl, trivial⟩, trivial⟩ ?_
 intro k hk
 with_reducible refine wK ?_
 refine IfK.mk (fun h1 => ?_) (fun h1 => ?_) <;> (try simp only [castN] at h1) <;> with_reducible refine wK ?_
 ·have hk' : k < l.length := by simp only [decide_eq_true_eq] at h1; omega
  obtain ⟨x, hx⟩ : ∃ x, l[k]? = some x := ⟨_, List.getElem?_eq_getElem hk'⟩
  obtain ⟨x0, x1, x2, x3, x4, x5, x6, x7, x8, x9⟩ := x
  repeat' (first
  | refine gK ?_ | refine aE ?_ ?_
  | ((first
   | ((with_reducible show IdxK _ _ _ _ _); refine IdxK.mk k (eTodo ⟨x0, x1, x2, x3, x4, x5, x6, x7, x8, x9⟩) rfl (todo_get hx) ?_)
   | ((with_reducible show EqK _ _ _ _ _ _ _ _); refine EqK.mk _ (fun y z w => todo_self ⟨x0, x1, x2, x3, x4, x5, x6, x7, x8, x9⟩ y z w) ?_)
   | ((with_reducible show DrawK _ _ _ _); refine dK ?_)
   | ((with_reducible show NextK _ _); refine NextK.mk (k + 1) (by omega) (by omega) ⟨⟨rfl, rfl⟩, ⟨rfl, rfl, by show ((k + 1 : Nat) : Int) = (k : Int) + 1; omega, trivial⟩, trivial⟩)) <;> with_reducible refine wK ?_)
  | apply trivial)
 ·repeat' (first
  | refine gK ?_ | refine aE ?_ ?_
  | apply trivial)
theorem classes_same (l : List ClassM) (hl : l.length ≤ 100000) (hc : SmallC l) : FnOK Tryz.prog 39 [] [eClasses l, eClasses l] [] (eBool true) := by
 have hlm : (l.map oClass).length = l.length := List.length_map ..
 refine FnOK.startC (rvs := [.tmp 4]) G G_good Tryz.func39 rfl Tryz.ntmps39 rfl rfl ?_; with_reducible refine wD ?_
 (have fct := hlm; (repeat' (first
  | refine gF ?_ | refine aE ?_ ?_
  | apply trivial)); all_goals clear fct)
 refine LoopK.use G G_good (fun (k : Nat) => [(0, eClasses l), (1, eClasses l), (5, eInt k)]) (fun _ => []) (fun k => k ≤ l.length) (fun k => l.length - k) 0 (Nat.zero_le _)
  ⟨⟨rfl, rfl⟩, ⟨rfl, rfl, rfl, trivial⟩, trivial⟩ ?_
 intro k hk
 with_reducible refine wK ?_
 refine IfK.mk (fun h1 => ?_) (fun h1 => ?_) <;> (try simp only [castN] at h1) <;> with_reducible refine wK ?_
 ·have hk' : k < l.length := by simp only [decide_eq_true_eq] at h1; omega
  obtain ⟨x, hx⟩ : ∃ x, l[k]? = some x := ⟨_, List.getElem?_eq_getElem hk'⟩
  have hal := f108_ok x x (hc x (List.mem_of_getElem? hx))
  rw [decide_eq_true rfl] at hal
  obtain ⟨x1, x2, x3, x4, x5⟩ := x
  repeat' (first
  | refine gK ?_ | refine aE ?_ ?_
  | ((first
   | ((with_reducible show IdxK _ _ _ _ _); refine IdxK.mk k (eClass ⟨x1, x2, x3, x4, x5⟩) rfl (class_get hx) ?_)
   | ((with_reducible refine kQ 108 ?_); refine cL hal c108 ?_)
   | ((with_reducible show DrawK _ _ _ _); refine dK ?_)
   | ((with_reducible show NextK _ _); refine NextK.mk (k + 1) (by omega) (by omega) ⟨⟨rfl, rfl⟩, ⟨rfl, rfl, by show ((k + 1 : Nat) : Int) = (k : Int) + 1; omega, trivial⟩, trivial⟩)) <;> with_reducible refine wK ?_)
  | apply trivial)
 ·repeat' (first
  | refine gK ?_ | refine aE ?_ ?_
  | apply trivial)
theorem one_same (x : NodeM) (h1 : x.attrs.length ≤ 100000) (h2 : x.kids.length ≤ 100000) : FnOK Tryz.prog 59 [] [eNode x, eNode x] [] (eBool true) := by
 have ha := attrs_same x.attrs h1
 have hk := f44_ok x.kids x.kids h2
 rw [decide_eq_true rfl] at hk
 obtain ⟨x0, x1, x2, x3, x4, x5, x6, x7, x8, x9⟩ := x
 simp only at ha hk
 refine FnOK.startC (rvs := [.tmp 4]) G G_good Tryz.func59 rfl Tryz.ntmps59 rfl rfl ?_; with_reducible refine wD ?_
 dsimp only [List.append]; with_reducible refine wK ?_
 repeat' (first
  | refine gK ?_ | refine aE ?_ ?_
  | ((first
   | ((with_reducible refine kQ 126 ?_); refine cL ha c126 ?_)
   | ((with_reducible refine kQ 44 ?_); refine cL hk c44 ?_)) <;> with_reducible refine wK ?_)
  | apply trivial)
 all_goals first | rfl | (simp; done)
theorem for_same (f : ForM) (hs : SmallN f.nodes) : FnOK Tryz.prog 37 [] [eFor f, eFor f] [] (eBool true) := by
 have hl1 := hs.len
 have hone : ∀ x ∈ f.nodes, FnOK Tryz.prog 59 [] [eNode x, eNode x] [] (eBool true) := fun x hx => one_same x (by have := hs.attrs x hx; omega) (by have := hs.kids x hx; omega)
 obtain ⟨l, m⟩ := f
 have hlm : (l.map oNode).length = l.length := List.length_map ..
 simp only at hone hl1
 refine FnOK.startC (rvs := [.tmp 4]) G G_good Tryz.func37 rfl Tryz.ntmps37 rfl rfl ?_; with_reducible refine wD ?_
 (have fct := hlm; (repeat' (first
  | refine gF ?_ | refine aE ?_ ?_
  | apply trivial)); all_goals clear fct)
 refine LoopK.use G G_good (fun (k : Nat) => [(2, .ptr 20 0 0), (3, .ptr 30 0 0), (5, eInt k)]) (fun _ => [(20, .live 2 [eFor ⟨l, m⟩] false), (30, .live 2 [eFor ⟨l, m⟩] false)]) (fun k => k ≤ l.length) (fun k => l.length - k) 0 (Nat.zero_le _)
  ⟨⟨rfl, rfl⟩, ⟨⟨rfl, rfl⟩, ⟨rfl, rfl⟩, rfl, trivial⟩, ⟨⟨rfl, rfl, trivial⟩, trivial⟩, ⟨⟨rfl, rfl, trivial⟩, trivial⟩, trivial⟩ ?_
 intro k0 hk0
 with_reducible refine wK ?_
 refine IfK.mk (fun h0 => ?_) (fun h0 => ?_) <;> (try simp only [castN] at h0) <;> with_reducible refine wK ?_
 ·have hk' : k0 < l.length := by simp only [decide_eq_true_eq] at h0; omega
  obtain ⟨x, hx⟩ : ∃ x, l[k0]? = some x := ⟨_, List.getElem?_eq_getElem hk'⟩
  have hx1 := hone x (List.mem_of_getElem? hx)
  obtain ⟨y0, y1, y2, y3, y4, y5, y6, y7, y8, y9⟩ := x
  repeat' (first
  | refine gK ?_ | refine aE ?_ ?_
  | ((first
   | ((with_reducible show IdxK _ _ _ _ _); refine IdxK.mk k0 (eNode ⟨y0, y1, y2, y3, y4, y5, y6, y7, y8, y9⟩) rfl (node_get hx) ?_)
   | ((with_reducible refine kQ 59 ?_); refine cL hx1 c59 ?_)
   | ((with_reducible show DrawK _ _ _ _); refine dK ?_)
   | ((with_reducible show NextK _ _); refine NextK.mk (k0 + 1) (by omega) (by omega) ⟨⟨rfl, rfl⟩, ⟨⟨rfl, rfl⟩, ⟨rfl, rfl⟩, by show ((k0 + 1 : Nat) : Int) = (k0 : Int) + 1; omega, trivial⟩, ⟨⟨rfl, rfl, trivial⟩, trivial⟩, ⟨⟨rfl, rfl, trivial⟩, trivial⟩, trivial⟩)) <;> with_reducible refine wK ?_)
  | apply trivial)
 ·repeat' (first
  | refine gK ?_ | refine aE ?_ ?_
  | apply trivial)
theorem desk_same (d : DeskM) (hd : SmallD d) : FnOK Tryz.prog 38 [] [eDesk d, eDesk d] [] (eBool true) := by
 have hl1 := hd.defs
 have hl2 := hd.waits
 obtain ⟨l, ws, nx, bz⟩ := d
 simp only at hl1 hl2
 have hlm : (l.map oDef).length = l.length := List.length_map ..
 have hwm : (ws.map oWait).length = ws.length := List.length_map ..
 refine FnOK.startC (rvs := [.tmp 4]) G G_good Tryz.func38 rfl Tryz.ntmps38 rfl rfl ?_; with_reducible refine wD ?_
 (have fct := And.intro hlm (hwm); (repeat' (first
  | refine gF ?_ | refine aE ?_ ?_
  | apply trivial)); all_goals clear fct)
 refine LoopK.use G G_good (fun (k : Nat) => [(2, .ptr 20 0 0), (3, .ptr 30 0 0), (5, eInt k)]) (fun _ => [(20, .live 4 [eDesk ⟨l, ws, nx, bz⟩] false), (30, .live 4 [eDesk ⟨l, ws, nx, bz⟩] false)]) (fun k => k ≤ l.length) (fun k => l.length - k) 0 (Nat.zero_le _)
  ⟨⟨rfl, rfl⟩, ⟨⟨rfl, rfl⟩, ⟨rfl, rfl⟩, rfl, trivial⟩, ⟨⟨rfl, rfl, rfl, rfl, trivial⟩, trivial⟩, ⟨⟨rfl, rfl, rfl, rfl, trivial⟩, trivial⟩, trivial⟩ ?_
 intro k0 hk0
 with_reducible refine wK ?_
 refine IfK.mk (fun h0 => ?_) (fun h0 => ?_) <;> (try simp only [castN] at h0) <;> with_reducible refine wK ?_
 ·have hk' : k0 < l.length := by simp only [decide_eq_true_eq] at h0; omega
  obtain ⟨x, hx⟩ : ∃ x, l[k0]? = some x := ⟨_, List.getElem?_eq_getElem hk'⟩
  obtain ⟨y1, y2, y3⟩ := x
  repeat' (first
  | refine gK ?_ | refine aE ?_ ?_
  | ((first
   | ((with_reducible show IdxK _ _ _ _ _); refine IdxK.mk k0 (eDef ⟨y1, y2, y3⟩) rfl (def_get hx) ?_)
   | ((with_reducible show EqK _ _ _ _ _ _ _ _); refine EqK.mk _ (fun y z w => def_self ⟨y1, y2, y3⟩ y z w) ?_)
   | ((with_reducible show DrawK _ _ _ _); refine dK ?_)
   | ((with_reducible show NextK _ _); refine NextK.mk (k0 + 1) (by omega) (by omega) ⟨⟨rfl, rfl⟩, ⟨⟨rfl, rfl⟩, ⟨rfl, rfl⟩, by show ((k0 + 1 : Nat) : Int) = (k0 : Int) + 1; omega, trivial⟩, ⟨⟨rfl, rfl, rfl, rfl, trivial⟩, trivial⟩, ⟨⟨rfl, rfl, rfl, rfl, trivial⟩, trivial⟩, trivial⟩)) <;> with_reducible refine wK ?_)
  | apply trivial)
 ·repeat' (first
  | refine gK ?_ | refine aE ?_ ?_
  | apply trivial)
  refine LoopK.use G G_good (fun (k : Nat) => [(2, .ptr 20 0 0), (3, .ptr 30 0 0), (6, eInt k)]) (fun _ => [(20, .live 4 [eDesk ⟨l, ws, nx, bz⟩] false), (30, .live 4 [eDesk ⟨l, ws, nx, bz⟩] false)]) (fun k => k ≤ ws.length) (fun k => ws.length - k) 0 (Nat.zero_le _)
   ⟨⟨rfl, rfl⟩, ⟨⟨rfl, rfl⟩, ⟨rfl, rfl⟩, rfl, trivial⟩, ⟨⟨rfl, rfl, rfl, rfl, trivial⟩, trivial⟩, ⟨⟨rfl, rfl, rfl, rfl, trivial⟩, trivial⟩, trivial⟩ ?_
  intro k1 hk1
  with_reducible refine wK ?_
  refine IfK.mk (fun h1 => ?_) (fun h1 => ?_) <;> (try simp only [castN] at h1) <;> with_reducible refine wK ?_
  ·have hk' : k1 < ws.length := by simp only [decide_eq_true_eq] at h1; omega
   obtain ⟨x, hx⟩ : ∃ x, ws[k1]? = some x := ⟨_, List.getElem?_eq_getElem hk'⟩
   obtain ⟨y1, y2⟩ := x
   repeat' (first
  | refine gK ?_ | refine aE ?_ ?_
  | ((first
   | ((with_reducible show IdxK _ _ _ _ _); refine IdxK.mk k1 (eWait ⟨y1, y2⟩) rfl (wait_get hx) ?_)
   | ((with_reducible show EqK _ _ _ _ _ _ _ _); refine EqK.mk _ (fun y z w => wait_self ⟨y1, y2⟩ y z w) ?_)
   | ((with_reducible show DrawK _ _ _ _); refine dK ?_)
   | ((with_reducible show NextK _ _); refine NextK.mk (k1 + 1) (by omega) (by omega) ⟨⟨rfl, rfl⟩, ⟨⟨rfl, rfl⟩, ⟨rfl, rfl⟩, by show ((k1 + 1 : Nat) : Int) = (k1 : Int) + 1; omega, trivial⟩, ⟨⟨rfl, rfl, rfl, rfl, trivial⟩, trivial⟩, ⟨⟨rfl, rfl, rfl, rfl, trivial⟩, trivial⟩, trivial⟩)) <;> with_reducible refine wK ?_)
  | apply trivial)
  ·repeat' (first
  | refine gK ?_ | refine aE ?_ ?_
  | apply trivial)
theorem line_same (l : LineM) (hs : SmL 99000 l) : FnOK Tryz.prog 78 [] [eLine l, eLine l] [] (eBool true) := by
 have htd : ∀ x ∈ l.todos, FnOK Tryz.prog 43 [] [eTodos x, eTodos x] [] (eBool true) := fun x hx => todos_same x (by have := hs.todo x hx; omega)
 have hin : ∀ x ∈ l.stack, FnOK Tryz.prog 44 [] [eInts x, eInts x] [] (eBool true) := fun x hx => by
  have := f44_ok x x (by have := hs.list x hx; omega)
  rwa [decide_eq_true rfl] at this
 have hbk : FnOK Tryz.prog 44 [] [eInts l.back, eInts l.back] [] (eBool true) := by
  have := f44_ok l.back l.back (by have := hs.back; omega)
  rwa [decide_eq_true rfl] at this
 have hl1 := hs.todos
 have hl2 := hs.stack
 obtain ⟨a, b, c, d⟩ := l
 simp only at htd hin hbk hl1 hl2
 have ham : (a.map oTodos).length = a.length := List.length_map ..
 have hbm : (b.map oInts).length = b.length := List.length_map ..
 refine FnOK.startC (rvs := [.tmp 4]) G G_good Tryz.func78 rfl Tryz.ntmps78 rfl rfl ?_; with_reducible refine wD ?_
 (have fct := And.intro ham (hbm); (repeat' (first
  | refine gF ?_ | refine aE ?_ ?_
  | (((with_reducible refine kQ 44 ?_); refine cL hbk c44 ?_) <;> with_reducible refine wK ?_)
  | apply trivial)); all_goals clear fct)
 refine LoopK.use G G_good (fun (k : Nat) => [(2, .ptr 20 0 0), (3, .ptr 30 0 0), (5, eInt k)]) (fun _ => [(20, .live 4 [eLine ⟨a, b, c, d⟩] false), (30, .live 4 [eLine ⟨a, b, c, d⟩] false)]) (fun k => k ≤ a.length) (fun k => a.length - k) 0 (Nat.zero_le _)
  ⟨⟨rfl, rfl⟩, ⟨⟨rfl, rfl⟩, ⟨rfl, rfl⟩, rfl, trivial⟩, ⟨⟨rfl, rfl, rfl, rfl, trivial⟩, trivial⟩, ⟨⟨rfl, rfl, rfl, rfl, trivial⟩, trivial⟩, trivial⟩ ?_
 intro k0 hk0
 with_reducible refine wK ?_
 refine IfK.mk (fun h0 => ?_) (fun h0 => ?_) <;> (try simp only [castN] at h0) <;> with_reducible refine wK ?_
 ·have hk' : k0 < a.length := by simp only [decide_eq_true_eq] at h0; omega
  obtain ⟨x, hx⟩ : ∃ x, a[k0]? = some x := ⟨_, List.getElem?_eq_getElem hk'⟩
  have hx1 := htd x (List.mem_of_getElem? hx)
  skip
  repeat' (first
  | refine gK ?_ | refine aE ?_ ?_
  | ((first
   | ((with_reducible show IdxK _ _ _ _ _); refine IdxK.mk k0 (eTodos x) rfl (todos_get hx) ?_)
   | ((with_reducible refine kQ 43 ?_); refine cL hx1 c43 ?_)
   | ((with_reducible show DrawK _ _ _ _); refine dK ?_)
   | ((with_reducible show NextK _ _); refine NextK.mk (k0 + 1) (by omega) (by omega) ⟨⟨rfl, rfl⟩, ⟨⟨rfl, rfl⟩, ⟨rfl, rfl⟩, by show ((k0 + 1 : Nat) : Int) = (k0 : Int) + 1; omega, trivial⟩, ⟨⟨rfl, rfl, rfl, rfl, trivial⟩, trivial⟩, ⟨⟨rfl, rfl, rfl, rfl, trivial⟩, trivial⟩, trivial⟩)) <;> with_reducible refine wK ?_)
  | apply trivial)
 ·repeat' (first
  | refine gK ?_ | refine aE ?_ ?_
  | apply trivial)
  refine LoopK.use G G_good (fun (k : Nat) => [(2, .ptr 20 0 0), (3, .ptr 30 0 0), (6, eInt k)]) (fun _ => [(20, .live 4 [eLine ⟨a, b, c, d⟩] false), (30, .live 4 [eLine ⟨a, b, c, d⟩] false)]) (fun k => k ≤ b.length) (fun k => b.length - k) 0 (Nat.zero_le _)
   ⟨⟨rfl, rfl⟩, ⟨⟨rfl, rfl⟩, ⟨rfl, rfl⟩, rfl, trivial⟩, ⟨⟨rfl, rfl, rfl, rfl, trivial⟩, trivial⟩, ⟨⟨rfl, rfl, rfl, rfl, trivial⟩, trivial⟩, trivial⟩ ?_
  intro k1 hk1
  with_reducible refine wK ?_
  refine IfK.mk (fun h1 => ?_) (fun h1 => ?_) <;> (try simp only [castN] at h1) <;> with_reducible refine wK ?_
  ·have hk' : k1 < b.length := by simp only [decide_eq_true_eq] at h1; omega
   obtain ⟨x, hx⟩ : ∃ x, b[k1]? = some x := ⟨_, List.getElem?_eq_getElem hk'⟩
   have hx1 := hin x (List.mem_of_getElem? hx)
   skip
   repeat' (first
  | refine gK ?_ | refine aE ?_ ?_
  | ((first
   | ((with_reducible show IdxK _ _ _ _ _); refine IdxK.mk k1 (eInts x) rfl (ints_get hx) ?_)
   | ((with_reducible refine kQ 44 ?_); refine cL hx1 c44 ?_)
   | ((with_reducible show DrawK _ _ _ _); refine dK ?_)
   | ((with_reducible show NextK _ _); refine NextK.mk (k1 + 1) (by omega) (by omega) ⟨⟨rfl, rfl⟩, ⟨⟨rfl, rfl⟩, ⟨rfl, rfl⟩, by show ((k1 + 1 : Nat) : Int) = (k1 : Int) + 1; omega, trivial⟩, ⟨⟨rfl, rfl, rfl, rfl, trivial⟩, trivial⟩, ⟨⟨rfl, rfl, rfl, rfl, trivial⟩, trivial⟩, trivial⟩)) <;> with_reducible refine wK ?_)
  | apply trivial)
  ·repeat' (first
  | refine gK ?_ | refine aE ?_ ?_
  | apply trivial)
structure SmallW (w : WorldM) : Prop where
 f : SmallN w.f.nodes
 st : w.states.length ≤ 1000
 d : SmallD w.desk
 l : SmL 90000 w.line
 ta : w.tasks.length ≤ 90000
 bu : w.builds.length ≤ 90000
 cl : w.classes.length ≤ 1000
 cs : SmallC w.classes
 nm : ∀ c ∈ w.classes, ∀ s ∈ c.watch, s.size ≤ 300
theorem world_same (w : WorldM) (hs : SmallW w) : FnOK Tryz.prog 23 [] [eWorld w, eWorld w] [] (eBool true) := by
 have h37 := for_same w.f hs.f
 have h42 := f42_ok w.states w.states (by have := hs.st; omega)
 rw [decide_eq_true rfl] at h42
 have h38 := desk_same w.desk hs.d
 have h78 := line_same w.line (hs.l.mono (by omega))
 have h39 := classes_same w.classes (by have := hs.cl; omega) hs.cs
 have hl1 := hs.ta
 have hl2 := hs.bu
 obtain ⟨⟨l, m⟩, st, ⟨d1, d2, d3, d4⟩, ⟨a, b, c, d⟩, ta, bu, cs⟩ := w
 simp only at h37 h42 h38 h78 h39 hl1 hl2
 have ham : (ta.map oTask).length = ta.length := List.length_map ..
 have hbm : (bu.map oBuild).length = bu.length := List.length_map ..
 refine FnOK.startC (rvs := [.tmp 4]) G G_good Tryz.func23 rfl Tryz.ntmps23 rfl rfl ?_; with_reducible refine wD ?_
 (have fct := And.intro ham (hbm); (repeat' (first
  | refine gF ?_ | refine aE ?_ ?_
  | apply trivial)); all_goals clear fct)
 refine LoopK.use G G_good (fun (k : Nat) => [(2, .ptr 20 0 0), (3, .ptr 30 0 0), (5, eInt k)]) (fun _ => [(20, .live 14 [eWorld ⟨⟨l, m⟩, st, ⟨d1, d2, d3, d4⟩, ⟨a, b, c, d⟩, ta, bu, cs⟩] false), (30, .live 14 [eWorld ⟨⟨l, m⟩, st, ⟨d1, d2, d3, d4⟩, ⟨a, b, c, d⟩, ta, bu, cs⟩] false)]) (fun k => k ≤ ta.length) (fun k => ta.length - k) 0 (Nat.zero_le _)
  ⟨⟨rfl, rfl⟩, ⟨⟨rfl, rfl⟩, ⟨rfl, rfl⟩, rfl, trivial⟩, ⟨⟨rfl, rfl, rfl, rfl, rfl, rfl, rfl, rfl, rfl, rfl, rfl, rfl, rfl, rfl, trivial⟩, trivial⟩, ⟨⟨rfl, rfl, rfl, rfl, rfl, rfl, rfl, rfl, rfl, rfl, rfl, rfl, rfl, rfl, trivial⟩, trivial⟩, trivial⟩ ?_
 intro k0 hk0
 with_reducible refine wK ?_
 refine IfK.mk (fun h0 => ?_) (fun h0 => ?_) <;> (try simp only [castN] at h0) <;> with_reducible refine wK ?_
 ·have hk' : k0 < ta.length := by simp only [decide_eq_true_eq] at h0; omega
  obtain ⟨x, hx⟩ : ∃ x, ta[k0]? = some x := ⟨_, List.getElem?_eq_getElem hk'⟩
  obtain ⟨y1, y2, y3⟩ := x
  repeat' (first
  | refine gK ?_ | refine aE ?_ ?_
  | ((first
   | ((with_reducible show IdxK _ _ _ _ _); refine IdxK.mk k0 (eTask ⟨y1, y2, y3⟩) rfl (task_get hx) ?_)
   | ((with_reducible show EqK _ _ _ _ _ _ _ _); refine EqK.mk _ (fun y z w => task_self ⟨y1, y2, y3⟩ y z w) ?_)
   | ((with_reducible show DrawK _ _ _ _); refine dK ?_)
   | ((with_reducible show NextK _ _); refine NextK.mk (k0 + 1) (by omega) (by omega) ⟨⟨rfl, rfl⟩, ⟨⟨rfl, rfl⟩, ⟨rfl, rfl⟩, by show ((k0 + 1 : Nat) : Int) = (k0 : Int) + 1; omega, trivial⟩, ⟨⟨rfl, rfl, rfl, rfl, rfl, rfl, rfl, rfl, rfl, rfl, rfl, rfl, rfl, rfl, trivial⟩, trivial⟩, ⟨⟨rfl, rfl, rfl, rfl, rfl, rfl, rfl, rfl, rfl, rfl, rfl, rfl, rfl, rfl, trivial⟩, trivial⟩, trivial⟩)) <;> with_reducible refine wK ?_)
  | apply trivial)
 ·repeat' (first
  | refine gK ?_ | refine aE ?_ ?_
  | apply trivial)
  refine LoopK.use G G_good (fun (k : Nat) => [(2, .ptr 20 0 0), (3, .ptr 30 0 0), (6, eInt k)]) (fun _ => [(20, .live 14 [eWorld ⟨⟨l, m⟩, st, ⟨d1, d2, d3, d4⟩, ⟨a, b, c, d⟩, ta, bu, cs⟩] false), (30, .live 14 [eWorld ⟨⟨l, m⟩, st, ⟨d1, d2, d3, d4⟩, ⟨a, b, c, d⟩, ta, bu, cs⟩] false)]) (fun k => k ≤ bu.length) (fun k => bu.length - k) 0 (Nat.zero_le _)
   ⟨⟨rfl, rfl⟩, ⟨⟨rfl, rfl⟩, ⟨rfl, rfl⟩, rfl, trivial⟩, ⟨⟨rfl, rfl, rfl, rfl, rfl, rfl, rfl, rfl, rfl, rfl, rfl, rfl, rfl, rfl, trivial⟩, trivial⟩, ⟨⟨rfl, rfl, rfl, rfl, rfl, rfl, rfl, rfl, rfl, rfl, rfl, rfl, rfl, rfl, trivial⟩, trivial⟩, trivial⟩ ?_
  intro k1 hk1
  with_reducible refine wK ?_
  refine IfK.mk (fun h1 => ?_) (fun h1 => ?_) <;> (try simp only [castN] at h1) <;> with_reducible refine wK ?_
  ·have hk' : k1 < bu.length := by simp only [decide_eq_true_eq] at h1; omega
   obtain ⟨x, hx⟩ : ∃ x, bu[k1]? = some x := ⟨_, List.getElem?_eq_getElem hk'⟩
   obtain ⟨y1, y2⟩ := x
   repeat' (first
  | refine gK ?_ | refine aE ?_ ?_
  | ((first
   | ((with_reducible show IdxK _ _ _ _ _); refine IdxK.mk k1 (eBuild ⟨y1, y2⟩) rfl (build_get hx) ?_)
   | ((with_reducible show EqK _ _ _ _ _ _ _ _); refine EqK.mk _ (fun y z w => build_self ⟨y1, y2⟩ y z w) ?_)
   | ((with_reducible show DrawK _ _ _ _); refine dK ?_)
   | ((with_reducible show NextK _ _); refine NextK.mk (k1 + 1) (by omega) (by omega) ⟨⟨rfl, rfl⟩, ⟨⟨rfl, rfl⟩, ⟨rfl, rfl⟩, by show ((k1 + 1 : Nat) : Int) = (k1 : Int) + 1; omega, trivial⟩, ⟨⟨rfl, rfl, rfl, rfl, rfl, rfl, rfl, rfl, rfl, rfl, rfl, rfl, rfl, rfl, trivial⟩, trivial⟩, ⟨⟨rfl, rfl, rfl, rfl, rfl, rfl, rfl, rfl, rfl, rfl, rfl, rfl, rfl, rfl, trivial⟩, trivial⟩, trivial⟩)) <;> with_reducible refine wK ?_)
  | apply trivial)
  ·repeat' (first
  | refine gK ?_ | refine aE ?_ ?_
  | ((first
   | ((with_reducible refine kQ 37 ?_); refine cL h37 c37 ?_)
   | ((with_reducible refine kQ 42 ?_); refine cL h42 c42 ?_)
   | ((with_reducible refine kQ 38 ?_); refine cL h38 c38 ?_)
   | ((with_reducible refine kQ 78 ?_); refine cL h78 c78 ?_)
   | ((with_reducible refine kQ 39 ?_); refine cL h39 c39 ?_)) <;> with_reducible refine wK ?_)
  | apply trivial)
   all_goals first | rfl | (simp; done)
theorem asks_cases {f : ForM} {s : StateM} {d : DeskM} {cs : List ClassM} {x : NoteM} (h : (asksV f s d cs x).2 = true) :
  (s.phase = 1 ∧ x.kind = 1 ∧ fateF f x.node d ≠ -1 ∧ (asksV f s d cs x).1 = ⟨9, fateF f x.node d, ⟨#[]⟩, false, false, ⟨#[]⟩, ⟨#[]⟩, 0, 0, false⟩) ∨
  (s.phase = 3 ∧ (asksV f s d cs x).1 = callT x ∧ classB s d cs = true ∧ hearsC (classV s d cs) x.kind = true ∧ (x.kind = 4 → watchesC (classV s d cs) x.name = true) ∧ 1 ≤ x.kind ∧ x.kind ≤ 4) := by
 unfold asksV at h ⊢
 by_cases h1 : s.phase = 1
 ·rw [if_pos h1] at h ⊢
  simp only [Bool.and_eq_true, decide_eq_true_eq, Bool.not_eq_true', decide_eq_false_iff_not] at h
  exact .inl ⟨h1, h.1, h.2, rfl⟩
 rw [if_neg h1] at h ⊢
 by_cases h3 : s.phase = 3
 ·rw [if_pos h3] at h ⊢
  by_cases k4 : x.kind = 4
  ·rw [if_pos k4] at h ⊢
   simp only [Bool.and_eq_true] at h
   exact .inr ⟨h3, rfl, h.1.1, h.2, fun _ => h.1.2, by omega, by omega⟩
  ·rw [if_neg k4] at h ⊢
   by_cases k : x.kind = 1 ∨ x.kind = 2 ∨ x.kind = 3
   ·rw [if_pos k] at h ⊢
    simp only [Bool.and_eq_true] at h
    exact .inr ⟨h3, rfl, h.1, h.2, fun e => absurd e k4, by omega, by omega⟩
   ·rw [if_neg k] at h; cases h
 ·rw [if_neg h3] at h; cases h
theorem due_cases {f : ForM} {st : List StateM} {d : DeskM} {cs : List ClassM} (hl : st.length = f.nodes.length) (x : NoteM) : dueV f st d cs x = [] ∨ ∃ (i : Nat) (s : StateM) (y : NodeM), x.node = i ∧ st[i]? = some s ∧ f.nodes[i]? = some y ∧ y.kind = 1 ∧ dueV f st d cs x = [⟨x.node, (asksV f s d cs x).1⟩] ∧ (asksV f s d cs x).2 = true := by
 unfold dueV
 by_cases he : elemV f.nodes x.node = true
 ·rw [if_pos he]
  obtain ⟨i, s, hi, hs, hso⟩ := elem_at he hl
  rw [hso]
  by_cases ha : (asksV f s d cs x).2 = true
  ·rw [if_pos ha]
   have hil := (List.getElem?_eq_some_iff.1 hs).1
   have hy : f.nodes[i]? = some f.nodes[i] := List.getElem?_eq_getElem (by omega)
   refine .inr ⟨i, s, _, hi, hs, hy, ?_, rfl, ha⟩
   unfold elemV at he
   rw [hi, nd_get hy] at he
   simp only [Bool.and_eq_true, decide_eq_true_eq] at he
   exact he.2
  ·rw [if_neg ha]; exact .inl rfl
 ·rw [if_neg he]; exact .inl rfl
end Go.Proofs.Heir
namespace Go.Proofs.Heir
open Go Go.Am Go.RowKit Go.Lib
set_option maxRecDepth 100000
set_option maxHeartbeats 8000000
set_option maxHeartbeats 8000000
theorem toldS_again (f : ForM) (d : DeskM) (cs : List ClassM) (n : Int) (s : StateM) : toldS f d cs n (toldS f d cs n s) = toldS f d cs n s ∧ toldD f d cs n (toldS f d cs n s) = [] := by
 cases h : dutyB f d cs n s with
 | false =>
   have e : toldS f d cs n s = s := by unfold toldS; rw [h, if_neg (by simp)]
   rw [e]
   exact ⟨e, by unfold toldD; rw [h, if_neg (by simp)]⟩
 | true =>
   have e : toldS f d cs n s = ⟨s.phase, s.df, ownN f.nodes n, barN f.nodes n⟩ := by unfold toldS; rw [h, if_pos rfl]
   rw [e]
   have h' : dutyB f d cs n ⟨s.phase, s.df, ownN f.nodes n, barN f.nodes n⟩ = true := h
   constructor
   ·unfold toldS; rw [h', if_pos rfl]
   ·unfold toldD; rw [h', if_pos rfl, if_pos rfl, if_pos rfl]; rfl
theorem told_get {f : ForM} {st : List StateM} {d : DeskM} {cs : List ClassM} (h : lookV f st d = true) {n : Nat} (hn : n < st.length) : (toldSt f st d cs)[n]? = some (toldS f d cs (n : Int) (sAt st n)) := by
 unfold toldSt
 rw [if_pos h, tSt_get hn, if_pos hn]
theorem told_len {f : ForM} {st : List StateM} {d : DeskM} {cs : List ClassM} : (toldSt f st d cs).length = st.length := by
 unfold toldSt
 split
 ·exact tSt_len ..
 ·rfl
theorem told_again {f : ForM} {st : List StateM} {d : DeskM} {cs : List ClassM} (h : lookV f st d = true) : toldSt f (toldSt f st d cs) d cs = toldSt f st d cs ∧ toldDu f (toldSt f st d cs) d cs = [] := by
 have h2 : lookV f (toldSt f st d cs) d = true := by
  unfold lookV at h ⊢
  rw [told_len]; exact h
 have ha : ∀ n, n < st.length → sAt (toldSt f st d cs) n = toldS f d cs (n : Int) (sAt st n) := fun n hn => sAt_of (told_get h hn)
 constructor
 ·apply List.ext_getElem?
  intro n
  by_cases hn : n < st.length
  ·rw [told_get h2 (by rw [told_len]; exact hn), told_get h hn, ha n hn, (toldS_again f d cs n _).1]
  ·rw [List.getElem?_eq_none (by rw [told_len, told_len]; omega), List.getElem?_eq_none (by rw [told_len]; omega)]
 ·unfold toldDu tDu
  rw [if_pos h2, List.flatMap_eq_nil_iff]
  intro n hn
  rw [told_len, List.mem_range] at hn
  rw [ha n hn, (toldS_again f d cs n _).2]
theorem enl_nil (w : WorldM) : enlW w [] = w := rfl
theorem enl_cons (w : WorldM) (d : DueN) (r : List DueN) : enlW w (d :: r) = enlW (enl1 w d) r := rfl
theorem enl_app (w : WorldM) (a b : List DueN) : enlW w (a ++ b) = enlW (enlW w a) b := List.foldl_append
theorem enl_step {w : WorldM} {due : List DueN} {k : Nat} {x : DueN} (h : due[k]? = some x) : enlW w (due.take (k + 1)) = enl1 (enlW w (due.take k)) x := by rw [take_snocI h, enl_app]; rfl
theorem enl_f (due : List DueN) : ∀ w, (enlW w due).f = w.f := by induction due with
 | nil => intro w; rfl
 | cons d r ih => intro w; rw [enl_cons, ih]; rfl
theorem enl_states (due : List DueN) : ∀ w, (enlW w due).states = w.states := by induction due with
 | nil => intro w; rfl
 | cons d r ih => intro w; rw [enl_cons, ih]; rfl
theorem enl_desk (due : List DueN) : ∀ w, (enlW w due).desk = w.desk := by induction due with
 | nil => intro w; rfl
 | cons d r ih => intro w; rw [enl_cons, ih]; rfl
theorem enl_builds (due : List DueN) : ∀ w, (enlW w due).builds = w.builds := by induction due with
 | nil => intro w; rfl
 | cons d r ih => intro w; rw [enl_cons, ih]; rfl
theorem enl_classes (due : List DueN) : ∀ w, (enlW w due).classes = w.classes := by induction due with
 | nil => intro w; rfl
 | cons d r ih => intro w; rw [enl_cons, ih]; rfl
theorem enl_tlen (due : List DueN) : ∀ w, (enlW w due).line.todos.length = w.line.todos.length := by induction due with
 | nil => intro w; rfl
 | cons d r ih => intro w; rw [enl_cons, ih]; show (lnAdd w.line d.node d.todo).todos.length = _; rw [lnAdd_todos, List.length_set]
theorem enl_slen (due : List DueN) : ∀ w, (enlW w due).line.stack.length = w.line.stack.length := by induction due with
 | nil => intro w; rfl
 | cons d r ih => intro w; rw [enl_cons, ih]; show (lnAdd w.line d.node d.todo).stack.length = _; rw [lnAdd_stack, List.length_set]
theorem stack_nil {l : LineM} {n : Int} {t : TodoM} : (lnAdd l n t).stack = [] ↔ l.stack = [] := by rw [lnAdd_stack, ← List.length_eq_zero_iff, List.length_set, List.length_eq_zero_iff]
theorem lnTell_add (l : LineM) (n : Int) (t : TodoM) : lnTell (lnAdd l n t) = false := by
 unfold lnTell
 rw [lnAdd_busy]
 by_cases h : l.stack = []
 ·rw [decide_eq_true h]; simp
 ·rw [decide_eq_false (fun e => h (stack_nil.1 e))]; rfl
theorem enl_tasks (due : List DueN) : ∀ w, (enlW w due).tasks = w.tasks ++ (if due ≠ [] ∧ lnTell w.line = true then [drainT] else []) := by
 induction due with
 | nil => intro w; rw [if_neg (fun h => h.1 rfl), List.append_nil]; rfl
 | cons d r ih =>
  intro w
  rw [enl_cons, ih]
  rw [if_neg (fun h => by have := h.2; rw [show (enl1 w d).line = lnAdd w.line d.node d.todo from rfl, lnTell_add] at this; cases this), List.append_nil]
  show (if lnTell w.line = true then w.tasks ++ [drainT] else w.tasks) = _
  by_cases h : lnTell w.line = true
  ·rw [if_pos h, if_pos ⟨List.cons_ne_nil _ _, h⟩]
  ·rw [if_neg h, if_neg (fun e => h e.2), List.append_nil]
theorem enl_tell (due : List DueN) : ∀ w, due ≠ [] → lnTell (enlW w due).line = false := by
 induction due with
 | nil => intro w h; exact absurd rfl h
 | cons d r ih =>
  intro w _
  rw [enl_cons]
  by_cases h : r = []
  ·subst h; exact lnTell_add ..
  ·exact ih _ h
theorem tdAt_add {l : LineM} {m n : Int} (t : TodoM) (hm : inLn l m = true) (hn : inLn l n = true) : tdAt (lnAdd l m t) n = tdAt l n ++ if m = n then [t] else [] := by
 obtain ⟨i, a, rfl, hi, ha, _⟩ := in_get hm
 obtain ⟨j, b, rfl, hj, hb, _⟩ := in_get hn
 unfold tdAt
 rw [lnAdd_todos, List.getElem?_set]
 simp only [Int.toNat_natCast]
 by_cases e : i = j
 ·subst e; rw [if_pos rfl, if_pos hi, if_pos rfl]; rfl
 ·rw [if_neg e, if_neg (by omega), List.append_nil]
theorem in_enl {w : WorldM} {d : DueN} {n : Int} : inLn (enl1 w d).line n = inLn w.line n := by
 unfold inLn
 show (_ && decide (n < ((lnAdd w.line d.node d.todo).todos.length : Int))) = _
 rw [lnAdd_todos, List.length_set]
theorem enl_td (due : List DueN) : ∀ (w : WorldM) (n : Int), (∀ d ∈ due, inLn w.line d.node = true) → inLn w.line n = true → tdAt (enlW w due).line n = tdAt w.line n ++ (due.filter fun d => decide (d.node = n)).map DueN.todo := by
 induction due with
 | nil => intro w n _ _; simp [enl_nil]
 | cons d r ih =>
  intro w n hd hn
  rw [enl_cons, ih _ n (fun e he => by rw [in_enl]; exact hd e (List.mem_cons_of_mem _ he)) (by rw [in_enl]; exact hn)]
  show tdAt (lnAdd w.line d.node d.todo) n ++ _ = _
  rw [tdAt_add _ (hd d List.mem_cons_self) hn, List.filter_cons]
  by_cases e : d.node = n
  ·rw [if_pos e, if_pos (decide_eq_true e)]; simp
  ·rw [if_neg e, if_neg (by simp [e])]; simp
theorem enl_sm (due : List DueN) : ∀ (w : WorldM) (B : Nat), SmL B w.line → SmL (B + due.length) (enlW w due).line := by
 induction due with
 | nil => intro w B h; exact h
 | cons d r ih =>
  intro w B h
  rw [enl_cons]
  have := ih (enl1 w d) (B + 1) (lnAdd_sm h _ _)
  rw [List.length_cons]
  exact this.mono (by omega)
structure RightG (w : WorldM) : Prop where
 sl : w.states.length = w.f.nodes.length
 tl : w.line.todos.length = w.f.nodes.length
 cl : classesG w = true
 rf : rightF w.f = true
 rd : rightD w.desk = true
 ln : lnR w.line = true
 st : ∀ (n : Nat) (x : NodeM) (s : StateM), w.f.nodes[n]? = some x → w.states[n]? = some s → stateOK w x s = true
 td : ∀ l ∈ w.line.todos, ∀ t ∈ l, todoG w t = true
 ta : ∀ t ∈ w.tasks, taskG w t = true
 bu : ∀ b ∈ w.builds, buildG w b = true
theorem stOf_get {st : List StateM} {n : Nat} {s : StateM} (h : st[n]? = some s) : stOf st (n : Int) = s := by unfold stOf; rw [Int.toNat_natCast, h]; rfl
theorem any_not {α : Type} {p : α → Bool} {l : List α} : (!(l.any fun t => !p t)) = true ↔ ∀ t ∈ l, p t = true := by
 rw [Bool.not_eq_true', List.any_eq_false]
 constructor
 ·intro h t ht
  have := h t ht
  simpa using this
 ·intro h t ht
  rw [h t ht]; simp
theorem rightG_iff {w : WorldM} : rightG w = true ↔ RightG w := by
 unfold rightG headG tailG
 rw [Bool.and_eq_true, Bool.and_eq_true, Bool.and_eq_true, Bool.and_eq_true, Bool.and_eq_true, Bool.and_eq_true, Bool.and_eq_true, Bool.and_eq_true, any_not, any_not, decide_eq_true_eq, decide_eq_true_eq, List.all_eq_true]
 constructor
 ·rintro ⟨⟨⟨⟨⟨⟨h1, h2⟩, h3⟩, h4⟩, h5⟩, h6⟩, h7, h8, h9⟩
  have key : ∀ n : Nat, n < w.f.nodes.length → stateG w n = true ∧ ∀ t ∈ tdAt w.line n, todoG w t = true := fun n hn => by
   have h := h7 n (List.mem_range.2 (by omega))
   unfold nodeG at h
   rw [Bool.and_eq_true, any_not] at h
   exact h
  refine ⟨h1, h2, h3, h4, h5, h6, ?_, ?_, h8, h9⟩
  ·intro n x s hx hs
   have hn := (List.getElem?_eq_some_iff.1 hx).1
   have h := (key n hn).1
   unfold stateG at h
   rwa [nd_get hx, stOf_get hs] at h
  ·intro l hl t ht
   obtain ⟨n, hn⟩ := List.getElem?_of_mem hl
   have hn' := (List.getElem?_eq_some_iff.1 hn).1
   refine (key n (by omega)).2 t ?_
   rw [tdAt_get rfl hn]; exact ht
 ·rintro ⟨h1, h2, h3, h4, h5, h6, h7, h8, h9, h10⟩
  refine ⟨⟨⟨⟨⟨⟨h1, h2⟩, h3⟩, h4⟩, h5⟩, h6⟩, ?_, h9, h10⟩
  intro n hn
  rw [List.mem_range] at hn
  unfold nodeG
  rw [Bool.and_eq_true, any_not]
  have hx : w.f.nodes[n]? = some w.f.nodes[n] := List.getElem?_eq_getElem (by omega)
  have hs : w.states[n]? = some w.states[n] := List.getElem?_eq_getElem (by omega)
  have ht : w.line.todos[n]? = some w.line.todos[n] := List.getElem?_eq_getElem (by omega)
  refine ⟨?_, ?_⟩
  ·unfold stateG; rw [nd_get hx, stOf_get hs]; exact h7 n _ _ hx hs
  ·rw [tdAt_get rfl ht]; exact h8 _ (List.getElem_mem _)
theorem in_node {w : WorldM} (R : RightG w) (n : Int) : inLn w.line n = thereN w.f.nodes n := by unfold inLn thereN; rw [R.tl]
theorem stTop_mem {l : LineM} (h : l.stack ≠ []) : stTop l ∈ l.stack := by
 have hp : 0 < l.stack.length := List.length_pos_iff.2 h
 unfold stTop
 rw [List.getElem?_eq_getElem (by omega)]
 exact List.getElem_mem _
theorem lnR_add {l : LineM} {n : Int} {t : TodoM} (h : lnR l = true) (hn : inLn l n = true) : lnR (lnAdd l n t) = true := by
 unfold lnR at h ⊢
 rw [Bool.and_eq_true, List.all_eq_true, List.all_eq_true] at h ⊢
 have hi : ∀ m, inLn (lnAdd l n t) m = inLn l m := fun m => by unfold inLn; rw [lnAdd_todos, List.length_set]
 refine ⟨fun s hs => ?_, fun m hm => ?_⟩
 ·rw [List.all_eq_true]
  intro m hm
  rw [hi]
  rw [lnAdd_stack] at hs
  by_cases hz : l.stack = []
  ·rw [hz] at hs; cases hs
  rcases mem_setL hs with e | e
  ·exact (List.all_eq_true.1 (h.1 s e)) m hm
  ·subst e
   rcases List.mem_append.1 hm with e | e
   ·exact (List.all_eq_true.1 (h.1 _ (stTop_mem hz))) m e
   ·rw [List.mem_singleton.1 e]; exact hn
 ·rw [hi]
  rw [lnAdd_back] at hm
  split at hm
  ·rcases List.mem_append.1 hm with e | e
   ·exact h.2 m e
   ·rw [List.mem_singleton.1 e]; exact hn
  ·exact h.2 m hm
theorem enl1_right {w : WorldM} {d : DueN} (R : RightG w) (h : dueOK w d = true) : RightG (enl1 w d) := by
 unfold dueOK at h
 rw [Bool.and_eq_true] at h
 have hi : inLn w.line d.node = true := by rw [in_node R]; exact h.1
 refine ⟨R.sl, ?_, R.cl, R.rf, R.rd, lnR_add R.ln hi, R.st, ?_, ?_, R.bu⟩
 ·show (lnAdd w.line d.node d.todo).todos.length = _
  rw [lnAdd_todos, List.length_set]; exact R.tl
 ·intro l hl t ht
  have hl : l ∈ (lnAdd w.line d.node d.todo).todos := hl
  rw [lnAdd_todos] at hl
  rcases mem_setL hl with e | e
  ·exact R.td l e t ht
  ·subst e
   rcases List.mem_append.1 ht with e | e
   ·obtain ⟨k, b, hk, _, hb, e2⟩ := in_get hi
    rw [e2] at e
    exact R.td b (List.mem_of_getElem? hb) t e
   ·rw [List.mem_singleton.1 e]; exact h.2
 ·intro t ht
  have ht : t ∈ (if lnTell w.line = true then w.tasks ++ [drainT] else w.tasks) := ht
  split at ht
  ·rcases List.mem_append.1 ht with e | e
   ·exact R.ta t e
   ·rw [List.mem_singleton.1 e]; rfl
  ·exact R.ta t ht
theorem dueOK_enl (w : WorldM) (d e : DueN) : dueOK (enl1 w d) e = dueOK w e := rfl
theorem enl_right (due : List DueN) : ∀ w, RightG w → (∀ d ∈ due, dueOK w d = true) → RightG (enlW w due) := by
 induction due with
 | nil => intro w R _; exact R
 | cons d r ih =>
  intro w R h
  rw [enl_cons]
  exact ih _ (enl1_right R (h d List.mem_cons_self)) (fun e he => by rw [dueOK_enl]; exact h e (List.mem_cons_of_mem _ he))
theorem enlistOK_iff {w : WorldM} {due : List DueN} : enlistOK w due = true ↔ RightG w ∧ ∀ d ∈ due, dueOK w d = true := by
 unfold enlistOK; rw [Bool.and_eq_true, any_not, rightG_iff]
end Go.Proofs.Heir
namespace Go.Proofs.Heir
open Go Go.Am Go.RowKit Go.Lib
set_option maxRecDepth 100000
set_option maxHeartbeats 8000000
@[reducible] def mW (w : WorldM) : MS := .live 14 [eWorld w] false
theorem whBadC_ok (c : ClassM) (h1 : c.watch.length ≤ 100000) (h2 : c.hooks.length ≤ 100000) (h3 : ∀ s ∈ c.watch, s.size ≤ 300) : FnOK Tryz.prog 205 [] [eClass c] [] (eBool (!allowedC c)) := by
 have ha := wAllowed_ok c h1 h2 h3
 obtain ⟨c1, c2, c3, c4, c5⟩ := c
 refine FnOK.startC (rvs := [.tmp 2]) G G_good Tryz.func205 rfl Tryz.ntmps205 rfl rfl ?_; with_reducible refine wD ?_
 repeat' (first
  | refine gK ?_ | refine aE ?_ ?_
  | (((with_reducible refine kQ 26 ?_); refine cL ha c26 ?_) <;> with_reducible refine wK ?_)
  | apply trivial)
 all_goals rfl
theorem whFar_ok (w : WorldM) (x : DefM) : FnOK Tryz.prog 206 [] [eDef x, .fptr (eWorld w) 0] [] (eBool (decide ((w.classes.length : Int) ≤ x.cls))) := by
 obtain ⟨⟨l, m⟩, st, ⟨d1, d2, d3, d4⟩, ⟨a, b, c, d⟩, ta, bu, cs⟩ := w
 have hlm : (cs.map oClass).length = cs.length := List.length_map ..
 obtain ⟨x1, x2, x3⟩ := x
 refine FnOK.startC (rvs := [.tmp 3]) G G_good Tryz.func206 rfl Tryz.ntmps206 rfl rfl ?_; with_reducible refine wD ?_
 (have fct := hlm; (repeat' (first
  | refine gF ?_ | refine aE ?_ ?_
  | apply trivial)); all_goals clear fct)
 all_goals first | (simp; done)
theorem whClasses_ok (w : WorldM) (hs : SmallW w) : FnOK Tryz.prog 143 [] [eWorld w] [] (eBool (classesG w)) := by
 have a1 := FnOK.fn1 (cfCl_ok 205 c205 [] rfl (fun c => !allowedC c) w.classes (by have := hs.cl; omega) (fun c hc => whBadC_ok c (hs.cs c hc).watch (hs.cs c hc).hooks (hs.nm c hc)))
 have hnr : noRefL [AV.fptr (eWorld w) 0] = true := rfl
 have a2 := cfDf_ok 206 c206 [.fptr (eWorld w) 0] hnr (fun x => decide ((w.classes.length : Int) ≤ x.cls)) w.desk.defs (by have := hs.d.defs; omega) (fun x _ => whFar_ok w x)
 unfold classesG
 obtain ⟨⟨l, m⟩, st, ⟨d1, d2, d3, d4⟩, ⟨a, b, c, d⟩, ta, bu, cs⟩ := w
 simp only at a1 a2 ⊢
 have hlm : (cs.map oClass).length = cs.length := List.length_map ..
 generalize (cs.any fun c => !allowedC c) = p1 at *
 generalize (d1.any fun x => decide ((cs.length : Int) ≤ x.cls)) = p2 at *
 by_cases e1 : (cs.length : Int) ≤ 12
 ·rw [decide_eq_true (show cs.length ≤ 12 by omega)]
  have g1 : decide (((cs.map oClass).length : Int) ≤ 12) = true := decide_eq_true (by rw [hlm]; exact e1)
  cases p1 <;> cases p2 <;>
  ·refine FnOK.startC (rvs := [.tmp 2]) G G_good Tryz.func143 rfl Tryz.ntmps143 rfl rfl ?_; with_reducible refine wD ?_
   repeat' (first
  | refine gK ?_ | refine aE ?_ ?_
  | ((first
   | ((with_reducible refine kQ 207 ?_); refine cL a1 c207 ?_)
   | ((with_reducible refine kQ 208 ?_); refine CallK.lit [10] a2 c208 ⟨rfl, ⟨rfl, trivial, ⟨_, _, _, _, _, rfl, rfl, rfl, rfl, rfl, ⟨rfl, rfl, rfl, rfl, rfl, rfl, rfl, rfl, rfl, rfl, rfl, rfl, rfl, rfl, trivial⟩⟩, trivial⟩, trivial⟩ rfl rfl ?_)) <;> with_reducible refine wK ?_)
  | apply trivial)
   all_goals first | rfl | (simp; done)
 ·rw [decide_eq_false (show ¬ cs.length ≤ 12 by omega)]
  have g1 : decide (((cs.map oClass).length : Int) ≤ 12) = false := decide_eq_false (by rw [hlm]; exact e1)
  refine FnOK.startC (rvs := [.tmp 2]) G G_good Tryz.func143 rfl Tryz.ntmps143 rfl rfl ?_; with_reducible refine wD ?_
  repeat' (first
  | refine gK ?_ | refine aE ?_ ?_
  | apply trivial)
  all_goals first | rfl | (simp; done)
theorem whBadT_ok (w : WorldM) (t : TodoM) : FnOK Tryz.prog 148 [] [eTodo t, .fptr (eWorld w) 0] [] (eBool (!todoG w t)) := by
 have h := whTodo_ok w t
 generalize todoG w t = g at *
 obtain ⟨⟨l, m⟩, st, ⟨d1, d2, d3, d4⟩, ⟨a, b, c, d⟩, ta, bu, cs⟩ := w
 obtain ⟨x0, x1, x2, x3, x4, x5, x6, x7, x8, x9⟩ := t
 refine FnOK.startC (rvs := [.tmp 3]) G G_good Tryz.func148 rfl Tryz.ntmps148 rfl rfl ?_; with_reducible refine wD ?_
 repeat' (first
  | refine gK ?_ | refine aE ?_ ?_
  | (((with_reducible refine kQ 96 ?_); refine cL h c96 ?_) <;> with_reducible refine wK ?_)
  | apply trivial)
 all_goals rfl
theorem whBadK_ok (w : WorldM) (t : TaskM) : FnOK Tryz.prog 150 [] [eTask t, .fptr (eWorld w) 0] [] (eBool (!taskG w t)) := by
 have h := whTask_ok w t
 generalize taskG w t = g at *
 obtain ⟨⟨l, m⟩, st, ⟨d1, d2, d3, d4⟩, ⟨a, b, c, d⟩, ta, bu, cs⟩ := w
 obtain ⟨x0, x1, x2⟩ := t
 refine FnOK.startC (rvs := [.tmp 3]) G G_good Tryz.func150 rfl Tryz.ntmps150 rfl rfl ?_; with_reducible refine wD ?_
 repeat' (first
  | refine gK ?_ | refine aE ?_ ?_
  | (((with_reducible refine kQ 151 ?_); refine cL h c151 ?_) <;> with_reducible refine wK ?_)
  | apply trivial)
 all_goals rfl
theorem whBadB_ok (w : WorldM) (t : BuildM) : FnOK Tryz.prog 153 [] [eBuild t, .fptr (eWorld w) 0] [] (eBool (!buildG w t)) := by
 have h := whBuild_ok w t
 generalize buildG w t = g at *
 obtain ⟨⟨l, m⟩, st, ⟨d1, d2, d3, d4⟩, ⟨a, b, c, d⟩, ta, bu, cs⟩ := w
 obtain ⟨x0, x1⟩ := t
 refine FnOK.startC (rvs := [.tmp 3]) G G_good Tryz.func153 rfl Tryz.ntmps153 rfl rfl ?_; with_reducible refine wD ?_
 repeat' (first
  | refine gK ?_ | refine aE ?_ ?_
  | (((with_reducible refine kQ 154 ?_); refine cL h c154 ?_) <;> with_reducible refine wK ?_)
  | apply trivial)
 all_goals rfl
theorem rightG_no {w : WorldM} (h : headG w = false) : rightG w = false := by unfold rightG; rw [h]; rfl
theorem rightG_node {w : WorldM} {k : Nat} (hk : k < w.line.todos.length) (h : nodeG w k = false) : rightG w = false := by
 unfold rightG
 have : (List.range w.line.todos.length).all (fun n : Nat => nodeG w n) = false := by
  rw [List.all_eq_false]
  exact ⟨k, List.mem_range.2 hk, by rw [h]; simp⟩
 rw [this]; simp
theorem rightG_yes {w : WorldM} (h : headG w = true) (h2 : ∀ k : Nat, k < w.line.todos.length → nodeG w k = true) : rightG w = tailG w := by
 unfold rightG
 have : (List.range w.line.todos.length).all (fun n : Nat => nodeG w n) = true := by
  rw [List.all_eq_true]
  exact fun n hn => h2 n (List.mem_range.1 hn)
 rw [this, h]; simp
theorem whRight_ok (w : WorldM) (hs : SmallW w) : FnOK Tryz.prog 75 [] [eWorld w] [] (eBool (rightG w)) := by
 have h143 := whClasses_ok w hs
 have h100 := f100_ok w.f hs.f
 have h144 := f144_ok w.desk hs.d
 have h145 := lnRight_ok w.line (hs.l.mono (by omega))
 have hnode := fun k => rightG_node (w := w) (k := k)
 have hyes := rightG_yes (w := w)
 have hno := rightG_no (w := w)
 obtain ⟨hg, hhg⟩ : ∃ g, headG w = g := ⟨_, rfl⟩
 rw [hhg] at hyes hno
 have hh := hhg
 unfold headG at hh
 cases hg with
 | false =>
   rw [hno rfl]
   clear hno hyes hnode hhg
   generalize classesG w = g1 at *
   generalize rightF w.f = g2 at *
   generalize rightD w.desk = g3 at *
   generalize lnR w.line = g4 at *
   obtain ⟨⟨l, m⟩, st, ⟨d1, d2, d3, d4⟩, ⟨a, b, c, d⟩, ta, bu, cs⟩ := w
   simp only at h100 h144 h145 hh
   have n1 : (l.map oNode).length = l.length := List.length_map ..
   have n2 : (st.map oState).length = st.length := List.length_map ..
   have n3 : (a.map oTodos).length = a.length := List.length_map ..
   by_cases e1 : (st.length : Int) = (l.length : Int)
   ·by_cases e2 : (a.length : Int) = (l.length : Int)
    ·rw [decide_eq_true (show st.length = l.length by omega), decide_eq_true (show a.length = l.length by omega)] at hh
     cases g1 <;> cases g2 <;> cases g3 <;> cases g4 <;> first
      | (exfalso; revert hh; decide)
      | (refine FnOK.startC (rvs := [.tmp 2]) G G_good Tryz.func75 rfl Tryz.ntmps75 rfl rfl ?_; with_reducible refine wD ?_
         (have fct := And.intro n1 (And.intro n2 (And.intro n3 (And.intro (eq_true e1) ((eq_true e2))))); (repeat' (first
  | refine gF ?_ | refine aE ?_ ?_
  | ((first
   | ((with_reducible refine kQ 143 ?_); refine cL h143 c143 ?_)
   | ((with_reducible refine kQ 100 ?_); refine cL h100 c100 ?_)
   | ((with_reducible refine kQ 144 ?_); refine cL h144 c144 ?_)
   | ((with_reducible refine kQ 145 ?_); refine cL h145 c145 ?_)) <;> with_reducible refine wK ?_)
  | apply trivial)); all_goals clear fct))
    ·refine FnOK.startC (rvs := [.tmp 2]) G G_good Tryz.func75 rfl Tryz.ntmps75 rfl rfl ?_; with_reducible refine wD ?_
     (have fct := And.intro n1 (And.intro n2 (And.intro n3 (And.intro (eq_true e1) ((eq_false e2))))); (repeat' (first
  | refine gF ?_ | refine aE ?_ ?_
  | apply trivial)); all_goals clear fct)
   ·refine FnOK.startC (rvs := [.tmp 2]) G G_good Tryz.func75 rfl Tryz.ntmps75 rfl rfl ?_; with_reducible refine wD ?_
    (have fct := And.intro n1 (And.intro n2 ((eq_false e1))); (repeat' (first
  | refine gF ?_ | refine aE ?_ ?_
  | apply trivial)); all_goals clear fct)
 | true =>
   have hyes := hyes rfl
   clear hno hhg
   simp only [Bool.and_eq_true, decide_eq_true_eq] at hh
   obtain ⟨⟨⟨⟨⟨q1, q2⟩, q3⟩, q4⟩, q5⟩, q6⟩ := hh
   rw [q3] at h143
   rw [q4] at h100
   rw [q5] at h144
   rw [q6] at h145
   have hst := fun k x s => whState_ok w k x s
   have hnr : noRefL [AV.fptr (eWorld w) 0] = true := rfl
   have hcf := fun y (hy : y ∈ w.line.todos) => cfTd_ok 148 c148 [.fptr (eWorld w) 0] hnr (fun t => !todoG w t) y (by have := hs.l.todo y hy; omega) (fun t _ => whBadT_ok w t)
   have htk := cfTk_ok 150 c150 [.fptr (eWorld w) 0] hnr (fun t => !taskG w t) w.tasks (by have := hs.ta; omega) (fun t _ => whBadK_ok w t)
   have hbk := cfBu_ok 153 c153 [.fptr (eWorld w) 0] hnr (fun t => !buildG w t) w.builds (by have := hs.bu; omega) (fun t _ => whBadB_ok w t)
   have hnG : ∀ (k : Nat) x s y, w.f.nodes[k]? = some x → w.states[k]? = some s → w.line.todos[k]? = some y → nodeG w k = (stateOK w x s && !(y.any fun t => !todoG w t)) := fun k x s y hx hs hy => by
    unfold nodeG stateG; rw [nd_get hx, stOf_get hs, tdAt_get rfl hy]
   unfold tailG at hyes
   generalize rightG w = res at *
   have hlen := hs.f.len
   generalize (w.tasks.any fun t => !taskG w t) = p1 at *
   generalize (w.builds.any fun t => !buildG w t) = p2 at *
   generalize hN : nodeG w = N at *
   clear hN
   obtain ⟨⟨l, m⟩, st, ⟨d1, d2, d3, d4⟩, ⟨a, b, c, d⟩, ta, bu, cs⟩ := w
   simp only at h100 h144 h145 q1 q2 hst hcf htk hbk hnG hlen hyes hnode
   have n1 : (l.map oNode).length = l.length := List.length_map ..
   have n2 : (st.map oState).length = st.length := List.length_map ..
   have n3 : (a.map oTodos).length = a.length := List.length_map ..
   have e1 : (st.length : Int) = (l.length : Int) := by omega
   have e2 : (a.length : Int) = (l.length : Int) := by omega
   refine FnOK.startC (rvs := [.tmp 2]) G G_good Tryz.func75 rfl Tryz.ntmps75 rfl rfl ?_; with_reducible refine wD ?_
   (have fct := And.intro n1 (And.intro n2 (And.intro n3 (And.intro (eq_true e1) ((eq_true e2))))); (repeat' (first
  | refine gF ?_ | refine aE ?_ ?_
  | ((first
   | ((with_reducible refine kQ 143 ?_); refine cL h143 c143 ?_)
   | ((with_reducible refine kQ 100 ?_); refine cL h100 c100 ?_)
   | ((with_reducible refine kQ 144 ?_); refine cL h144 c144 ?_)
   | ((with_reducible refine kQ 145 ?_); refine cL h145 c145 ?_)) <;> with_reducible refine wK ?_)
  | apply trivial)); all_goals clear fct)
   refine LoopK.use G G_good (fun (k : Nat) => [(1, .ptr 10 0 0), (55, eTodoss a), (56, eInt a.length), (57, eInt k)]) (fun _ => [(10, mW ⟨⟨l, m⟩, st, ⟨d1, d2, d3, d4⟩, ⟨a, b, c, d⟩, ta, bu, cs⟩)])
    (fun k => k ≤ a.length ∧ ∀ j : Nat, j < k → N j = true) (fun k => a.length - k) 0 ⟨Nat.zero_le _, fun j h => by omega⟩ ?_ ?_
   ·(refine fK ?_; (with_reducible repeat' (first | exact trivial | (show _ ∧ _; refine aK ?_ ?_))); (all_goals try rfl))
    all_goals first | (show (a.length : Int) = _; rw [n3])
   rintro k ⟨hk, hok⟩
   with_reducible refine wK ?_
   refine IfK.mk (fun h1 => ?_) (fun h1 => ?_) <;> (try simp only [castN] at h1) <;> with_reducible refine wK ?_
   ·have hk' : k < a.length := by simp only [decide_eq_true_eq] at h1; omega
    obtain ⟨x, hx⟩ : ∃ x, l[k]? = some x := ⟨_, List.getElem?_eq_getElem (by omega)⟩
    obtain ⟨s, hsx⟩ : ∃ x, st[k]? = some x := ⟨_, List.getElem?_eq_getElem (by omega)⟩
    obtain ⟨y, hy⟩ : ∃ x, a[k]? = some x := ⟨_, List.getElem?_eq_getElem hk'⟩
    have hstk := hst k x s hx hsx
    have hcfk := hcf y (List.mem_of_getElem? hy)
    have hnk := hnG k x s y hx hsx hy
    generalize stateOK ⟨⟨l, m⟩, st, ⟨d1, d2, d3, d4⟩, ⟨a, b, c, d⟩, ta, bu, cs⟩ x s = v1 at *
    generalize (y.any fun t => !todoG ⟨⟨l, m⟩, st, ⟨d1, d2, d3, d4⟩, ⟨a, b, c, d⟩, ta, bu, cs⟩ t) = v2 at *
    have hbadk := fun h => hnode k hk' (hnk.trans h)
    clear h1
    cases v1 <;> cases v2
    case true.false =>
     repeat' (first
  | refine gK ?_ | refine aE ?_ ?_
  | ((first
   | ((with_reducible refine kQ 146 ?_); refine cL hstk c146 ?_)
   | ((with_reducible show IdxK _ _ _ _ _); refine IdxK.mk k (eTodos y) rfl (todos_get hy) ?_)
   | ((with_reducible refine kQ 147 ?_); refine CallK.lit [10] hcfk c147
       ⟨rfl, ⟨rfl, trivial, ⟨_, _, _, _, _, rfl, rfl, rfl, rfl, rfl, ⟨rfl, rfl, rfl, rfl, rfl, rfl, rfl, rfl, rfl, rfl, rfl, rfl, rfl, rfl, trivial⟩⟩, trivial⟩, trivial⟩
       rfl rfl ?_)) <;> with_reducible refine wK ?_)
  | apply trivial)
     refine NextK.mk (k + 1) ⟨by omega, fun j hj => ?_⟩ (by omega) ?_
     ·rcases Nat.lt_or_ge j k with h6 | h6
      ·exact hok j h6
      ·have : j = k := by omega
       subst this
       exact hnk
     (refine fK ?_; (with_reducible repeat' (first | exact trivial | (show _ ∧ _; refine aK ?_ ?_))); (all_goals try rfl))
     all_goals first | (simp; done)
    all_goals
     have hr := hbadk rfl
     repeat' (first
  | refine gK ?_ | refine aE ?_ ?_
  | ((first
   | ((with_reducible refine kQ 146 ?_); refine cL hstk c146 ?_)
   | ((with_reducible show IdxK _ _ _ _ _); refine IdxK.mk k (eTodos y) rfl (todos_get hy) ?_)
   | ((with_reducible refine kQ 147 ?_); refine CallK.lit [10] hcfk c147
       ⟨rfl, ⟨rfl, trivial, ⟨_, _, _, _, _, rfl, rfl, rfl, rfl, rfl, ⟨rfl, rfl, rfl, rfl, rfl, rfl, rfl, rfl, rfl, rfl, rfl, rfl, rfl, rfl, trivial⟩⟩, trivial⟩, trivial⟩
       rfl rfl ?_)) <;> with_reducible refine wK ?_)
  | apply trivial)
     all_goals first | exact hr | exact hr.symm
   ·have hkl : k = a.length := by simp only [decide_eq_false_iff_not] at h1; omega
    have hr := hyes fun j hj => hok j (by omega)
    clear h1
    rw [hr]
    cases p1 <;> cases p2
    all_goals
     repeat' (first
  | refine gK ?_ | refine aE ?_ ?_
  | ((first
   | ((with_reducible refine kQ 149 ?_); refine CallK.lit [10] htk c149
       ⟨rfl, ⟨rfl, trivial, ⟨_, _, _, _, _, rfl, rfl, rfl, rfl, rfl, ⟨rfl, rfl, rfl, rfl, rfl, rfl, rfl, rfl, rfl, rfl, rfl, rfl, rfl, rfl, trivial⟩⟩, trivial⟩, trivial⟩
       rfl rfl ?_)
   | ((with_reducible refine kQ 152 ?_); refine CallK.lit [10] hbk c152
       ⟨rfl, ⟨rfl, trivial, ⟨_, _, _, _, _, rfl, rfl, rfl, rfl, rfl, ⟨rfl, rfl, rfl, rfl, rfl, rfl, rfl, rfl, rfl, rfl, rfl, rfl, rfl, rfl, trivial⟩⟩, trivial⟩, trivial⟩
       rfl rfl ?_)) <;> with_reducible refine wK ?_)
  | apply trivial)
     all_goals first | rfl | (simp; done)
theorem wRight_ok (w : WorldM) (hs : SmallW w) : FnOK Tryz.prog 19 [] [eWorld w] [] (eBool (rightG w)) := by
 have h := whRight_ok w hs
 generalize rightG w = g at *
 obtain ⟨⟨l, m⟩, st, ⟨d1, d2, d3, d4⟩, ⟨a, b, c, d⟩, ta, bu, cs⟩ := w
 refine FnOK.startC (rvs := [.tmp 2]) G G_good Tryz.func19 rfl Tryz.ntmps19 rfl rfl ?_; with_reducible refine wD ?_
 repeat' (first
  | refine gK ?_ | refine aE ?_ ?_
  | (((with_reducible refine kQ 75 ?_); refine cL h c75 ?_) <;> with_reducible refine wK ?_)
  | apply trivial)
 all_goals rfl

theorem RightG.cls {w : WorldM} (R : RightG w) : w.classes.length ≤ 12 ∧ (∀ c ∈ w.classes, allowedC c = true) ∧ ∀ x ∈ w.desk.defs, x.cls < (w.classes.length : Int) := by
 have h := R.cl
 unfold classesG at h
 simp only [Bool.and_eq_true, decide_eq_true_eq, Bool.not_eq_true', List.any_eq_false, decide_eq_true_eq] at h
 refine ⟨h.1.1, fun c hc => ?_, fun x hx => ?_⟩
 ·have := h.1.2 c hc
  simpa using this
 ·have := h.2 x hx
  omega
@[reducible] def eWorldT (w : WorldM) (t : AV) : AV := .agg [eNodes w.f.nodes, eInt w.f.most, eStates w.states, eDefs w.desk.defs, eWaits w.desk.waits, eInt w.desk.next, eBool w.desk.busy, eTodoss w.line.todos, eIntss w.line.stack, eInts w.line.back, eBool w.line.busy, t, eBuilds w.builds, eClasses w.classes]
theorem wBorn_ok (x : NodeM) : FnOK Tryz.prog 89 [] [eNode x] [] (eState (bornS x)) := by
 have h := f41_ok x.name x.is
 unfold bornS
 obtain ⟨y0, y1, y2, y3, y4, y5, y6, y7, y8, y9⟩ := x
 simp only at h ⊢
 by_cases e : y0 = 1
 ·rw [if_pos e]
  refine FnOK.startC (rvs := [.cell 2 75]) G G_good Tryz.func89 rfl Tryz.ntmps89 rfl rfl ?_; with_reducible refine wD ?_
  (have fct := e; (repeat' (first
  | refine gF ?_ | refine aE ?_ ?_
  | (((with_reducible refine kQ 41 ?_); refine cL h c41 ?_) <;> with_reducible refine wK ?_)
  | apply trivial)); all_goals clear fct)
 ·rw [if_neg e]
  refine FnOK.startC (rvs := [.cell 2 75]) G G_good Tryz.func89 rfl Tryz.ntmps89 rfl rfl ?_; with_reducible refine wD ?_
  (have fct := (eq_false e); (repeat' (first
  | refine gF ?_ | refine aE ?_ ?_
  | apply trivial)); all_goals clear fct)
theorem whBadD_ok (w : WorldM) (x : DueN) : FnOK Tryz.prog 94 [] [eDueN x, .fptr (eWorld w) 0] [] (eBool (!dueOK w x)) := by
 have h1 := whNode_ok w x.node
 have h2 := whTodo_ok w x.todo
 unfold dueOK
 obtain ⟨n, x0, x1, x2, x3, x4, x5, x6, x7, x8, x9⟩ := x
 simp only at h1 h2 ⊢
 generalize thereN w.f.nodes n = g1 at *
 generalize todoG w ⟨x0, x1, x2, x3, x4, x5, x6, x7, x8, x9⟩ = g2 at *
 obtain ⟨⟨l, m⟩, st, ⟨d1, d2, d3, d4⟩, ⟨a, b, c, d⟩, ta, bu, cs⟩ := w
 cases g1 <;> cases g2
 all_goals
  refine FnOK.startC (rvs := [.tmp 3]) G G_good Tryz.func94 rfl Tryz.ntmps94 rfl rfl ?_; with_reducible refine wD ?_
  repeat' (first
  | refine gK ?_ | refine aE ?_ ?_
  | ((first
   | ((with_reducible refine kQ 95 ?_); refine cL h1 c95 ?_)
   | ((with_reducible refine kQ 96 ?_); refine cL h2 c96 ?_)) <;> with_reducible refine wK ?_)
  | apply trivial)
  all_goals first | rfl
theorem enl_at {w : WorldM} {due : List DueN} (R : RightG w) (h : ∀ d ∈ due, dueOK w d = true) (k : Nat) : RightG (enlW w (due.take k)) := enl_right _ w R fun d hd => h d (List.mem_of_mem_take hd)
theorem enl_in {w : WorldM} {due : List DueN} (R : RightG w) (h : ∀ d ∈ due, dueOK w d = true) {k : Nat} {x : DueN} (hx : due[k]? = some x) : (lnR (enlW w (due.take k)).line && inLn (enlW w (due.take k)).line x.node) = true := by
 have R2 := enl_at R h k
 rw [R2.ln, in_node R2, Bool.true_and, enl_f]
 have := h x (List.mem_of_getElem? hx)
 unfold dueOK at this
 rw [Bool.and_eq_true] at this
 exact this.1
theorem enl_tlen2 (w : WorldM) (due : List DueN) : (enlW w due).tasks.length ≤ w.tasks.length + 1 := by
 rw [enl_tasks, List.length_append]
 split <;> simp
theorem whEnlist_ok (w : WorldM) (hs : SmallW w) (due : List DueN) (hd : due.length ≤ 5000) (R : RightG w) (hdue : ∀ d ∈ due, dueOK w d = true) : FnOK Tryz.prog 98 [mW w] [.ptr 0 0 0, eDuesN due] [mW (enlW w due)] (.tup []) := by
 have hcl := cltasks_ok w.tasks (by have := hs.ta; omega)
 obtain ⟨L, hL⟩ : ∃ L : Nat → LineM, L = fun k => (enlW w (due.take k)).line := ⟨_, rfl⟩
 obtain ⟨T, hT⟩ : ∃ T : Nat → List TaskM, T = fun k => (enlW w (due.take k)).tasks := ⟨_, rfl⟩
 have hadd : ∀ (k : Nat) x, due[k]? = some x → FnOK Tryz.prog 165 [] [eLine (L k), eInt x.node, eTodo x.todo] [] (.tup [eLine (L (k + 1)), eBool (lnTell (L k)), eInt 0]) := fun k x hx => by
  have hk := (List.getElem?_eq_some_iff.1 hx).1
  have := lnAdd_ok (L k) (by rw [hL]; exact (enl_sm _ w 90000 hs.l).mono (by rw [List.length_take]; omega)) x.node x.todo
  rw [addW_yes (by rw [hL]; exact enl_in R hdue hx)] at this
  have e : L (k + 1) = lnAdd (L k) x.node x.todo := by rw [hL]; show (enlW w (due.take (k + 1))).line = _; rw [enl_step hx]; rfl
  rw [e]; exact this
 have hTs : ∀ (k : Nat) x, due[k]? = some x → T (k + 1) = if lnTell (L k) = true then T k ++ [drainT] else T k := fun k x hx => by
  rw [hT, hL]; show (enlW w (due.take (k + 1))).tasks = _; rw [enl_step hx]; rfl
 have hTl : ∀ k, (T k).length ≤ 90001 := fun k => by
  rw [hT]; have := enl_tlen2 w (due.take k); have := hs.ta; show (enlW w (due.take k)).tasks.length ≤ _; omega
 have hL0 : L 0 = w.line := by rw [hL]; rfl
 have hT0 : T 0 = w.tasks := by rw [hT]; rfl
 have hend : enlW w due = { w with line := L due.length, tasks := T due.length } := by
  rw [hL, hT]
  simp only [List.take_length]
  have e1 := enl_f due w
  have e2 := enl_states due w
  have e3 := enl_desk due w
  have e4 := enl_builds due w
  have e5 := enl_classes due w
  generalize enlW w due = v at *
  obtain ⟨v1, v2, v3, v4, v5, v6, v7⟩ := v
  simp only at e1 e2 e3 e4 e5
  subst e1; subst e2; subst e3; subst e4; subst e5; rfl
 rw [hend]
 clear hend hL hT
 have hdm : (due.map oDueN).length = due.length := List.length_map ..
 obtain ⟨⟨l, m⟩, st, ⟨d1, d2, d3, d4⟩, ⟨a, b, c, d⟩, ta, bu, cs⟩ := w
 simp only at hcl hL0 hT0 ⊢
 refine FnOK.startC (rvs := []) G G_good Tryz.func98 rfl Tryz.ntmps98 rfl rfl ?_; with_reducible refine wD ?_
 repeat' (first
  | refine gK ?_ | refine aE ?_ ?_
  | (((with_reducible refine kQ 164 ?_); refine CallK.new 151 [] hcl c164 ⟨rfl, trivial⟩ rfl rfl rfl (outs_tasks _) rfl ?_) <;> with_reducible refine wK ?_)
  | apply trivial)
 refine LoopK.use G G_good (fun (k : Nat) => [(0, .ptr 0 0 0), (19, eDuesN due), (20, eInt due.length), (21, eInt k)])
  (fun k => [(0, .live 14 [eWorldT ⟨⟨l, m⟩, st, ⟨d1, d2, d3, d4⟩, L k, ta, bu, cs⟩ (.own 151 0 (T k).length)] false), (151, mTasks (T k))])
  (fun k => k ≤ due.length) (fun k => due.length - k) 0 (Nat.zero_le _) ?_ ?_
 ·rw [hL0, hT0]
  (refine fK ?_; (with_reducible repeat' (first | exact trivial | (show _ ∧ _; refine aK ?_ ?_))); (all_goals try rfl))
  all_goals first
   | (show (due.length : Int) = _; rw [hdm])
   | exact ⟨.refl (noRef_tasks _), noRef_tasks _⟩
 intro k hk
 with_reducible refine wK ?_
 refine IfK.mk (fun h1 => ?_) (fun h1 => ?_) <;> (try simp only [castN] at h1) <;> with_reducible refine wK ?_
 ·have hk' : k < due.length := by simp only [decide_eq_true_eq] at h1; omega
  obtain ⟨x, hx⟩ : ∃ x, due[k]? = some x := ⟨_, List.getElem?_eq_getElem hk'⟩
  have hadd := hadd k x hx
  have hTs := hTs k x hx
  have hTl := hTl k
  clear h1
  obtain ⟨n, x0, x1, x2, x3, x4, x5, x6, x7, x8, x9⟩ := x
  generalize hLn : L (k + 1) = L2 at *
  generalize hTn : T (k + 1) = T2 at *
  simp only at hadd
  cases ht : lnTell (L k) with
  | false =>
    rw [ht] at hadd hTs
    rw [if_neg (by simp)] at hTs
    repeat' (first
  | refine gK ?_ | refine aE ?_ ?_
  | ((first
   | ((with_reducible show IdxK _ _ _ _ _); refine IdxK.mk k (eDueN ⟨n, ⟨x0, x1, x2, x3, x4, x5, x6, x7, x8, x9⟩⟩) rfl (dueN_get hx) ?_)
   | ((with_reducible refine kQ 165 ?_); refine cV hadd c165 ?_)) <;> with_reducible refine wK ?_)
  | apply trivial)
    refine NextK.mk (k + 1) (by omega) (by omega) ?_
    rw [hLn, hTn, hTs]
    (refine fK ?_; (with_reducible repeat' (first | exact trivial | (show _ ∧ _; refine aK ?_ ?_))); (all_goals try rfl))
    all_goals first
     | exact ⟨.refl (noRef_tasks _), noRef_tasks _⟩
     | (simp; done)
  | true =>
    rw [ht] at hadd hTs
    rw [if_pos rfl] at hTs
    have htm : ((T k).map oTask).length = (T k).length := List.length_map ..
    have e3 : (T k).map oTask ++ [eTask drainT] = T2.map oTask := by rw [hTs, List.map_append]; rfl
    have e4 : T2.length = (T k).length + 1 := by rw [hTs]; simp
    repeat' (first
  | refine gK ?_ | refine aE ?_ ?_
  | ((first
   | ((with_reducible show IdxK _ _ _ _ _); refine IdxK.mk k (eDueN ⟨n, ⟨x0, x1, x2, x3, x4, x5, x6, x7, x8, x9⟩⟩) rfl (dueN_get hx) ?_)
   | ((with_reducible refine kQ 165 ?_); refine cV hadd c165 ?_)
   | ((with_reducible show AppK _ _ _ _ _ _ _ _ _ _); refine AppK.mk ((T k).map oTask) [eTask drainT] ⟨rfl, htm.symm, rfl⟩ ⟨rfl, rfl, rfl⟩ rfl (by simp; omega) (by simp; omega) ?_)) <;> with_reducible refine wK ?_)
  | apply trivial)
    refine NextK.mk (k + 1) (by omega) (by omega) ?_
    rw [hLn, hTn, e4, e3]
    (refine fK ?_; (with_reducible repeat' (first | exact trivial | (show _ ∧ _; refine aK ?_ ?_))); (all_goals try rfl))
    all_goals first
     | exact ⟨.refl (noRef_tasks _), noRef_tasks _⟩
     | (rw [List.length_map, e4]; done)
     | (simp; done)
 ·have hjl : k = due.length := by simp only [decide_eq_false_iff_not] at h1; omega
  subst hjl
  clear h1
  repeat' (first
  | refine gK ?_ | refine aE ?_ ?_
  | apply trivial)
  all_goals first
   | exact frz_tasks rfl rfl rfl rfl
theorem enlistW_no {w : WorldM} {due : List DueN} (h : enlistOK w due = false) : enlistW w due = (w, 1) := by unfold enlistW; rw [h]; rfl
theorem enlistW_yes {w : WorldM} {due : List DueN} (h : enlistOK w due = true) : enlistW w due = (enlW w due, 0) := by unfold enlistW; rw [h]; rfl
theorem wEnlist_ok (w : WorldM) (hs : SmallW w) (due : List DueN) (hd : due.length ≤ 5000) : FnOK Tryz.prog 31 [] [eWorld w, eDuesN due] [] (.tup [eWorld (enlistW w due).1, eInt (enlistW w due).2]) := by
 have h75 := whRight_ok w hs
 have hnr : noRefL [AV.fptr (eWorld w) 0] = true := rfl
 have hcf := cfDu_ok 94 c94 [.fptr (eWorld w) 0] hnr (fun x => !dueOK w x) due (by omega) (fun x _ => whBadD_ok w x)
 have hen := fun R h => whEnlist_ok w hs due hd R h
 cases e1 : rightG w with
 | false =>
   rw [e1] at h75
   rw [enlistW_no (by unfold enlistOK; rw [e1]; rfl)]
   clear hen hcf
   obtain ⟨⟨l, m⟩, st, ⟨d1, d2, d3, d4⟩, ⟨a, b, c, d⟩, ta, bu, cs⟩ := w
   refine FnOK.startC (rvs := [.cell 4 39, .tmp 5]) G G_good Tryz.func31 rfl Tryz.ntmps31 rfl rfl ?_; with_reducible refine wD ?_
   repeat' (first
  | refine gK ?_ | refine aE ?_ ?_
  | (((with_reducible refine kQ 75 ?_); refine cL h75 c75 ?_) <;> with_reducible refine wK ?_)
  | apply trivial)
 | true =>
   rw [e1] at h75
   cases e2 : (due.any fun x => !dueOK w x) with
   | true =>
     rw [e2] at hcf
     rw [enlistW_no (by unfold enlistOK; rw [e2, e1]; rfl)]
     clear hen
     obtain ⟨⟨l, m⟩, st, ⟨d1, d2, d3, d4⟩, ⟨a, b, c, d⟩, ta, bu, cs⟩ := w
     refine FnOK.startC (rvs := [.cell 4 39, .tmp 5]) G G_good Tryz.func31 rfl Tryz.ntmps31 rfl rfl ?_; with_reducible refine wD ?_
     repeat' (first
  | refine gK ?_ | refine aE ?_ ?_
  | ((first
   | ((with_reducible refine kQ 75 ?_); refine cL h75 c75 ?_)
   | ((with_reducible refine kQ 97 ?_); refine CallK.lit [60] hcf c97 ⟨rfl, ⟨rfl, trivial, ⟨_, _, _, _, _, rfl, rfl, rfl, rfl, rfl, ⟨rfl, rfl, rfl, rfl, rfl, rfl, rfl, rfl, rfl, rfl, rfl, rfl, rfl, rfl, trivial⟩⟩, trivial⟩, trivial⟩ rfl rfl ?_)) <;> with_reducible refine wK ?_)
  | apply trivial)
   | false =>
     rw [e2] at hcf
     have ok : enlistOK w due = true := by unfold enlistOK; rw [e2, e1]; rfl
     rw [enlistW_yes ok]
     have hen := hen (enlistOK_iff.1 ok).1 (enlistOK_iff.1 ok).2
     clear ok e1 e2
     generalize enlW w due = v at *
     obtain ⟨⟨l, m⟩, st, ⟨d1, d2, d3, d4⟩, ⟨a, b, c, d⟩, ta, bu, cs⟩ := w
     obtain ⟨⟨l', m'⟩, st', ⟨d1', d2', d3', d4'⟩, ⟨a', b', c', d'⟩, ta', bu', cs'⟩ := v
     refine FnOK.startC (rvs := [.cell 4 39, .tmp 5]) G G_good Tryz.func31 rfl Tryz.ntmps31 rfl rfl ?_; with_reducible refine wD ?_
     repeat' (first
  | refine gK ?_ | refine aE ?_ ?_
  | ((first
   | ((with_reducible refine kQ 75 ?_); refine cL h75 c75 ?_)
   | ((with_reducible refine kQ 97 ?_); refine CallK.lit [60] hcf c97 ⟨rfl, ⟨rfl, trivial, ⟨_, _, _, _, _, rfl, rfl, rfl, rfl, rfl, ⟨rfl, rfl, rfl, rfl, rfl, rfl, rfl, rfl, rfl, rfl, rfl, rfl, rfl, rfl, trivial⟩⟩, trivial⟩, trivial⟩ rfl rfl ?_)
   | ((with_reducible refine kQ 98 ?_); refine CallK.lend (news := [mW ⟨⟨l', m'⟩, st', ⟨d1', d2', d3', d4'⟩, ⟨a', b', c', d'⟩, ta', bu', cs'⟩]) [60] [] hen c98 ⟨⟨rfl, rfl⟩, rfl, trivial⟩ ⟨⟨rfl, .inr ⟨⟨⟨rfl, rfl, rfl, rfl, rfl, rfl, rfl, rfl, rfl, rfl, rfl, rfl, rfl, rfl, trivial⟩, trivial⟩, rfl⟩⟩, trivial⟩ rfl ⟨⟨rfl, rfl⟩, rfl⟩ rfl ⟨⟨rfl, .inr ⟨rfl, rfl, rfl⟩⟩, trivial⟩ rfl rfl ?_)) <;> with_reducible refine wK ?_)
  | apply trivial)

end Go.Proofs.Heir
namespace Go.Proofs.Heir
open Go Go.Am Go.RowKit Go.Lib
set_option maxRecDepth 100000
set_option maxHeartbeats 8000000
set_option maxHeartbeats 8000000
theorem follows_iff {w : WorldM} {f : ForM} : followsW w f = true ↔ f.most = w.f.most ∧ w.f.nodes.length ≤ f.nodes.length ∧ ∀ (n : Nat) (x y : NodeM), w.f.nodes[n]? = some x → f.nodes[n]? = some y → y.kind = x.kind := by
 unfold followsW
 rw [Bool.and_eq_true, Bool.and_eq_true, decide_eq_true_eq, decide_eq_true_eq, List.all_eq_true]
 constructor
 ·rintro ⟨⟨h1, h2⟩, h3⟩
  refine ⟨h1, h2, fun n x y hx hy => ?_⟩
  have := h3 n (List.mem_range.2 (List.getElem?_eq_some_iff.1 hx).1)
  rwa [decide_eq_true_eq, nd_get hx, nd_get hy] at this
 ·rintro ⟨h1, h2, h3⟩
  refine ⟨⟨h1, h2⟩, fun n hn => ?_⟩
  rw [List.mem_range] at hn
  have hx : w.f.nodes[n]? = some w.f.nodes[n] := List.getElem?_eq_getElem hn
  have hy : f.nodes[n]? = some f.nodes[n] := List.getElem?_eq_getElem (by omega)
  rw [decide_eq_true_eq, nd_get hx, nd_get hy]; exact h3 n _ _ hx hy
theorem now_st (w : WorldM) (f : ForM) : (nowW w f).states = w.states ++ (f.nodes.drop w.f.nodes.length).map bornS := by
 show w.states ++ ((f.nodes.drop w.f.nodes.length).take _).map bornS = _
 rw [List.take_of_length_le (by rw [List.length_drop]; exact Nat.le_refl _)]
theorem now_old {w : WorldM} {f : ForM} {n : Nat} (h : n < w.states.length) : (nowW w f).states[n]? = w.states[n]? := by rw [now_st, List.getElem?_append_left h]
theorem now_new {w : WorldM} {f : ForM} (hl : w.states.length = w.f.nodes.length) {n : Nat} {x : NodeM} (h : w.states.length ≤ n) (hx : f.nodes[n]? = some x) : (nowW w f).states[n]? = some (bornS x) := by
 rw [now_st, List.getElem?_append_right h, List.getElem?_map, List.getElem?_drop, hl, show w.f.nodes.length + (n - w.f.nodes.length) = n from by omega, hx]; rfl
theorem now_len {w : WorldM} {f : ForM} (hl : w.states.length = w.f.nodes.length) (hf : w.f.nodes.length ≤ f.nodes.length) : (nowW w f).states.length = f.nodes.length := by
 rw [now_st, List.length_append, List.length_map, List.length_drop]; omega
theorem born_cases (s i : ByteArray) : bornM s i = 0 ∨ bornM s i = 1 := by unfold bornM; split <;> simp
theorem now_right {w : WorldM} {f : ForM} (R : RightG w) (hf : rightF f = true) (hw : followsW w f = true) : RightG (nowW w f) := by
 obtain ⟨h1, h2, h3⟩ := follows_iff.1 hw
 have sl := R.sl
 have tl := R.tl
 have tm : ∀ m, thereN w.f.nodes m = true → thereN f.nodes m = true := fun m hm => by
  unfold thereN at hm ⊢
  simp only [Bool.and_eq_true, decide_eq_true_eq] at hm ⊢
  omega
 refine ⟨?_, ?_, R.cl, hf, R.rd, ?_, ?_, ?_, R.ta, ?_⟩
 ·exact now_len sl h2
 ·show (w.line.todos ++ List.replicate _ []).length = f.nodes.length
  rw [List.length_append, List.length_replicate]; omega
 ·have hn := R.ln
  unfold lnR at hn ⊢
  rw [Bool.and_eq_true, List.all_eq_true, List.all_eq_true] at hn ⊢
  have im : ∀ m, inLn w.line m = true → inLn (nowW w f).line m = true := fun m hm => by
   unfold inLn at hm ⊢
   show (_ && decide (m < ((w.line.todos ++ List.replicate _ []).length : Int))) = true
   rw [List.length_append]
   simp only [Bool.and_eq_true, decide_eq_true_eq] at hm ⊢
   omega
  refine ⟨fun s hs => ?_, fun m hm => im m (hn.2 m hm)⟩
  rw [List.all_eq_true]
  exact fun m hm => im m ((List.all_eq_true.1 (hn.1 s hs)) m hm)
 ·intro n x s hx hs
  have hx : f.nodes[n]? = some x := hx
  by_cases hn : n < w.states.length
  ·rw [now_old hn] at hs
   have hy : w.f.nodes[n]? = some w.f.nodes[n] := List.getElem?_eq_getElem (by omega)
   have h := R.st n _ s hy hs
   have hk := h3 n _ x hy hx
   unfold stateOK at h ⊢
   rw [hk]
   split at h
   ·rename_i e
    rw [if_pos e]
    rw [Bool.and_eq_true, Bool.or_eq_true] at h ⊢
    exact ⟨h.1.imp id (tm _), h.2⟩
   ·rename_i e
    rw [if_neg e]; exact h
  ·rw [now_new sl (by omega) hx] at hs
   have e := Option.some.inj hs
   subst e
   unfold stateOK bornS
   by_cases e : x.kind = 1
   ·rw [if_pos e, if_pos e]
    rcases born_cases x.name x.is with q | q <;> rw [q] <;> simp
   ·rw [if_neg e, if_neg e]; rfl
 ·intro l hl t ht
  have hl : l ∈ w.line.todos ++ List.replicate _ [] := hl
  rcases List.mem_append.1 hl with e | e
  ·exact R.td l e t ht
  ·rw [(List.mem_replicate.1 e).2] at ht; cases ht
 ·intro b hb
  have h := R.bu b hb
  unfold buildG at h ⊢
  rw [Bool.and_eq_true, Bool.or_eq_true] at h ⊢
  refine ⟨h.1, h.2.imp id fun q => ?_⟩
  unfold elemV at q ⊢
  rw [Bool.and_eq_true] at q ⊢
  obtain ⟨i, x, hi, hx, hxe⟩ := there_iff.1 q.1
  have hil := (List.getElem?_eq_some_iff.1 hx).1
  have hy : f.nodes[i]? = some f.nodes[i] := List.getElem?_eq_getElem (by omega)
  refine ⟨tm _ q.1, ?_⟩
  rw [hi]
  show decide ((nd f.nodes (i : Int)).kind = 1) = true
  rw [nd_get hy, h3 i x _ hx hy, ← hxe]; exact q.2
theorem fate_in {f : ForM} {n : Int} {d : DeskM} (h : fateF f n d ≠ -1) : 0 ≤ fateF f n d ∧ fateF f n d < (d.defs.length : Int) := by
 unfold fateF at h ⊢
 split at h
 ·rename_i e
  rw [if_pos e]
  unfold fateD at h ⊢
  split at h
  ·rename_i e2
   rw [if_pos e2]
   unfold findD at h ⊢
   split at h
   ·rename_i e3
    rw [if_pos e3]
    rcases findR_cases d.defs (nd f.nodes n).name (nd f.nodes n).is with q | ⟨k, x, q, hk, _⟩
    ·exact absurd q.1 h
    ·have := (List.getElem?_eq_some_iff.1 hk).1
     omega
   ·exact absurd rfl h
  ·exact absurd rfl h
 ·exact absurd rfl h
theorem dueL_ok {w : WorldM} (R : RightG w) (ns : List NoteM) : ∀ d ∈ dueL w.f w.states w.desk w.classes ns, dueOK w d = true := by
 intro d hd
 unfold dueL at hd
 split at hd
 ·obtain ⟨x, _, hx⟩ := List.mem_flatMap.1 hd
  rcases due_cases R.sl x (d := w.desk) (cs := w.classes) with e | ⟨i, s, y, hi, hs, hy, hk, e, ha⟩
  ·rw [e] at hx; cases hx
  ·rw [e] at hx
   rw [List.mem_singleton.1 hx]
   unfold dueOK todoG defG
   rw [Bool.and_eq_true, Bool.or_eq_true, Bool.and_eq_true, Bool.and_eq_true, Bool.and_eq_true]
   simp only [decide_eq_true_eq]
   refine ⟨by rw [hi]; exact there_get hy, ?_⟩
   rcases asks_cases ha with ⟨_, _, h3, h4⟩ | ⟨_, h2, _, _, _, h5, h6⟩
   ·rw [h4]; exact .inr ⟨rfl, fate_in h3⟩
   ·rw [h2]; exact .inl ⟨h5, by show x.kind < 9; omega⟩
 ·cases hd
theorem tellD_ok {w : WorldM} {c : ClassM} {n : Int} {t : TodoM} (hn : thereN w.f.nodes n = true) (ht : todoG w t = true) : ∀ d ∈ tellD c n t, dueOK w d = true := by
 intro d hd
 unfold tellD at hd
 split at hd
 ·rw [List.mem_singleton.1 hd]; unfold dueOK; rw [hn, ht]; rfl
 ·cases hd
theorem toldDu_ok {w : WorldM} (R : RightG w) : ∀ d ∈ toldDu w.f w.states w.desk w.classes, dueOK w d = true := by
 intro d hd
 unfold toldDu at hd
 split at hd
 ·unfold tDu at hd
  obtain ⟨n, hn, hd⟩ := List.mem_flatMap.1 hd
  rw [List.mem_range] at hn
  have ht : thereN w.f.nodes (n : Int) = true := by have := R.sl; unfold thereN; simp; omega
  unfold toldD at hd
  split at hd
  ·rcases List.mem_append.1 hd with e | e
   ·split at e
    ·cases e
    ·exact tellD_ok ht (by rfl) d e
   ·split at e
    ·cases e
    ·exact tellD_ok ht (by rfl) d e
  ·cases hd
 ·cases hd
theorem look_of {w : WorldM} (R : RightG w) : lookV w.f w.states w.desk = true := by unfold lookV; rw [decide_eq_true R.sl, R.rf, R.rd]; rfl
theorem told_right {w : WorldM} (R : RightG w) : RightG { w with states := toldSt w.f w.states w.desk w.classes } := by
 refine ⟨by rw [← R.sl]; exact told_len, R.tl, R.cl, R.rf, R.rd, R.ln, ?_, R.td, R.ta, R.bu⟩
 intro n x s hx hs
 have hx : w.f.nodes[n]? = some x := hx
 have hs : (toldSt w.f w.states w.desk w.classes)[n]? = some s := hs
 have hn : n < w.states.length := by have := (List.getElem?_eq_some_iff.1 hx).1; have := R.sl; omega
 rw [told_get (look_of R) hn] at hs
 have e := Option.some.inj hs
 subst e
 have hg : w.states[n]? = some w.states[n] := List.getElem?_eq_getElem hn
 have h := R.st n x _ hx hg
 rw [sAt_of hg]
 unfold toldS
 split
 ·rename_i hd
  unfold dutyB at hd
  simp only [Bool.and_eq_true, decide_eq_true_eq] at hd
  have hk : x.kind = 1 := by have := hd.2; rwa [nd_get hx] at this
  unfold stateOK at h ⊢
  rw [if_pos hk] at h ⊢
  rw [Bool.and_eq_true] at h ⊢
  refine ⟨?_, h.2⟩
  rw [Bool.or_eq_true, decide_eq_true_eq]
  by_cases q : ownN w.f.nodes (n : Int) = -1
  ·exact .inl q
  ·exact .inr (own_form (tree_of R.rf) (there_get hx) q).1
 ·exact h
theorem told_enl {x : WorldM} {due : List DueN} (N : RightG x) (h : ∀ d ∈ due, dueOK x d = true) : RightG (enlW { enlW x due with states := toldSt x.f x.states x.desk x.classes } (toldDu x.f x.states x.desk x.classes)) := by
 have e := enl_right due x N h
 have hf := enl_f due x
 have hs := enl_states due x
 have hd := enl_desk due x
 have hc := enl_classes due x
 generalize enlW x due = y at *
 rw [← hf, ← hs, ← hd, ← hc]
 exact enl_right _ _ (told_right e) (fun d hd => toldDu_ok e d hd)
theorem tell_right {w : WorldM} {f : ForM} (R : RightG w) (hf : rightF f = true) (hw : followsW w f = true) (ns : List NoteM) : RightG (tellG w f ns) := told_enl (now_right R hf hw) (dueL_ok (now_right R hf hw) ns)
theorem tellOK_iff {w : WorldM} {f : ForM} : tellOK w f = true ↔ RightG w ∧ rightF f = true ∧ followsW w f = true := by
 unfold tellOK; rw [Bool.and_eq_true, Bool.and_eq_true, rightG_iff, and_assoc]
theorem tell_f (w : WorldM) (f : ForM) (ns : List NoteM) : (tellG w f ns).f = f := by unfold tellG; rw [enl_f]; exact enl_f ..
theorem tell_desk (w : WorldM) (f : ForM) (ns : List NoteM) : (tellG w f ns).desk = w.desk := by unfold tellG; rw [enl_desk]; exact enl_desk ..
theorem tell_builds (w : WorldM) (f : ForM) (ns : List NoteM) : (tellG w f ns).builds = w.builds := by unfold tellG; rw [enl_builds]; exact enl_builds ..
theorem tell_classes (w : WorldM) (f : ForM) (ns : List NoteM) : (tellG w f ns).classes = w.classes := by unfold tellG; rw [enl_classes]; exact enl_classes ..
theorem tell_slen (w : WorldM) (f : ForM) (ns : List NoteM) : (tellG w f ns).line.stack.length = w.line.stack.length := by unfold tellG; rw [enl_slen]; exact enl_slen ..
theorem tell_states (w : WorldM) (f : ForM) (ns : List NoteM) : (tellG w f ns).states = toldSt f (nowW w f).states w.desk w.classes := by unfold tellG; rw [enl_states]; rfl
theorem tell_tasks (w : WorldM) (f : ForM) (ns : List NoteM) : ∃ r, (tellG w f ns).tasks = w.tasks ++ r ∧ r.length ≤ 1 := by
 unfold tellG
 rw [enl_tasks]
 show ∃ r, (enlW (nowW w f) (dueL f (nowW w f).states w.desk w.classes ns)).tasks ++ _ = w.tasks ++ r ∧ _
 rw [enl_tasks]
 show ∃ r, w.tasks ++ _ ++ _ = w.tasks ++ r ∧ _
 rw [List.append_assoc]
 refine ⟨_, rfl, ?_⟩
 by_cases h : dueL f (nowW w f).states w.desk w.classes ns = []
 ·rw [if_neg (fun q => q.1 h), List.nil_append]; split <;> simp
 ·have := enl_tell _ (nowW w f) h
  rw [List.length_append]
  have l1 : ∀ (p : Prop) [Decidable p], (if p then [drainT] else []).length ≤ 1 := fun p _ => by split <;> simp
  have l2 : ∀ (p : Prop) [Decidable p], ¬ p → (if p then [drainT] else []).length = 0 := fun p _ hp => by rw [if_neg hp]; rfl
  refine Nat.le_trans (Nat.add_le_add (l1 _) (Nat.le_of_eq (l2 _ ?_))) (by decide)
  intro q
  have q2 : lnTell (enlW (nowW w f) (dueL f (nowW w f).states w.desk w.classes ns)).line = true := q.2
  rw [this] at q2; cases q2
theorem toldS_keep (f : ForM) (d : DeskM) (cs : List ClassM) (n : Int) (s : StateM) : (toldS f d cs n s).phase = s.phase ∧ (toldS f d cs n s).df = s.df := by unfold toldS; split <;> exact ⟨rfl, rfl⟩
theorem toldS_born (f : ForM) (d : DeskM) (cs : List ClassM) (n : Int) (x : NodeM) : toldS f d cs n (bornS x) = bornS x := by
 unfold toldS
 rw [if_neg]
 unfold dutyB bornS
 intro h
 simp only [Bool.and_eq_true, decide_eq_true_eq] at h
 have := h.1.2
 split at this
 ·rcases born_cases x.name x.is with q | q <;> rw [q] at this <;> cases this
 ·cases this
theorem look_now {w : WorldM} {f : ForM} (R : RightG w) (hf : rightF f = true) (hw : followsW w f = true) : lookV f (nowW w f).states w.desk = true := look_of (now_right R hf hw)
theorem tell_old {w : WorldM} {f : ForM} (R : RightG w) (hf : rightF f = true) (hw : followsW w f = true) (ns : List NoteM) {n : Nat} {s : StateM} (hs : w.states[n]? = some s) : ∃ t, (tellG w f ns).states[n]? = some t ∧ t.phase = s.phase ∧ t.df = s.df := by
 have hn := (List.getElem?_eq_some_iff.1 hs).1
 have hl := now_len R.sl (follows_iff.1 hw).2.1
 have h2 := (follows_iff.1 hw).2.1
 have sl := R.sl
 rw [tell_states, told_get (look_now R hf hw) (by omega)]
 refine ⟨_, rfl, ?_⟩
 rw [sAt_of ((now_old hn).trans hs)]
 exact toldS_keep ..
theorem tell_new {w : WorldM} {f : ForM} (R : RightG w) (hf : rightF f = true) (hw : followsW w f = true) (ns : List NoteM) {n : Nat} {x : NodeM} (h : w.states.length ≤ n) (hx : f.nodes[n]? = some x) : (tellG w f ns).states[n]? = some (bornS x) := by
 have hn := (List.getElem?_eq_some_iff.1 hx).1
 have hl := now_len R.sl (follows_iff.1 hw).2.1
 rw [tell_states, told_get (look_now R hf hw) (by omega), sAt_of (now_new R.sl h hx), toldS_born]
theorem tell_td {w : WorldM} {f : ForM} (R : RightG w) (hf : rightF f = true) (hw : followsW w f = true) (ns : List NoteM) {n : Int} (hn : thereN w.f.nodes n = true) : ∃ r, tdAt (tellG w f ns).line n = tdAt w.line n ++ r := by
 have N := now_right R hf hw
 have h2 := (follows_iff.1 hw).2.1
 have tl := R.tl
 have hi : inLn (nowW w f).line n = true := by
  rw [in_node N]
  show thereN f.nodes n = true
  unfold thereN at hn ⊢
  simp only [Bool.and_eq_true, decide_eq_true_eq] at hn ⊢
  omega
 have i2 : ∀ (due : List DueN) (m : Int), inLn (enlW (nowW w f) due).line m = inLn (nowW w f).line m := fun due m => by unfold inLn; rw [enl_tlen]
 have d1 : ∀ d ∈ dueL f (nowW w f).states w.desk w.classes ns, inLn (nowW w f).line d.node = true := fun d hd => by
  have := dueL_ok N ns d hd
  unfold dueOK at this
  rw [Bool.and_eq_true] at this
  rw [in_node N]; exact this.1
 have d2 : ∀ d ∈ toldDu f (nowW w f).states w.desk w.classes, inLn (nowW w f).line d.node = true := fun d hd => by
  have := toldDu_ok N d hd
  unfold dueOK at this
  rw [Bool.and_eq_true] at this
  rw [in_node N]; exact this.1
 unfold tellG
 rw [enl_td _ _ n (fun d hd => by show inLn (enlW (nowW w f) _).line d.node = true; rw [i2]; exact d2 d hd) (by show inLn (enlW (nowW w f) _).line n = true; rw [i2]; exact hi)]
 show ∃ r, tdAt (enlW (nowW w f) (dueL f (nowW w f).states w.desk w.classes ns)).line n ++ _ = _
 rw [enl_td _ _ n d1 hi, List.append_assoc]
 refine ⟨_, congrArg (· ++ _) ?_⟩
 obtain ⟨k, t, hk, _, ht, e⟩ := in_get (l := w.line) (n := n) (by rw [in_node R]; exact hn)
 rw [e]
 exact tdAt_get hk (by show (w.line.todos ++ List.replicate _ [])[k]? = some t; rw [List.getElem?_append_left (List.getElem?_eq_some_iff.1 ht).1]; exact ht)
theorem now_self {v : WorldM} : nowW v v.f = v := by
 obtain ⟨⟨ns, mo⟩, st, d, ⟨a, b, c, e⟩, ta, bu, cs⟩ := v
 unfold nowW growW
 simp
theorem tell_again {w : WorldM} {f : ForM} (R : RightG w) (hf : rightF f = true) (hw : followsW w f = true) (ns : List NoteM) : tellG (tellG w f ns) f [] = tellG w f ns := by
 have V := tell_right R hf hw ns
 have vf := tell_f w f ns
 have vd := tell_desk w f ns
 have vc := tell_classes w f ns
 have vs := tell_states w f ns
 have ag := told_again (cs := w.classes) (look_now R hf hw)
 rw [← vs] at ag
 have e : nowW (tellG w f ns) f = tellG w f ns := by
  have := now_self (v := tellG w f ns)
  rwa [vf] at this
 generalize tellG w f ns = v at *
 have d0 : dueL f v.states v.desk v.classes [] = [] := by unfold dueL; split <;> rfl
 have eq : tellG v f [] = enlW { enlW (nowW v f) (dueL f (nowW v f).states (nowW v f).desk (nowW v f).classes []) with states := toldSt f (nowW v f).states (nowW v f).desk (nowW v f).classes } (toldDu f (nowW v f).states (nowW v f).desk (nowW v f).classes) := rfl
 rw [eq, e, d0, enl_nil]
 show enlW { v with states := toldSt f v.states v.desk v.classes } (toldDu f v.states v.desk v.classes) = v
 rw [← vd, ← vc] at ag
 rw [ag.1, ag.2]
 rfl
theorem tellOK_again {w : WorldM} {f : ForM} (R : RightG w) (hf : rightF f = true) (hw : followsW w f = true) (ns : List NoteM) : tellOK (tellG w f ns) f = true := by
 refine tellOK_iff.2 ⟨tell_right R hf hw ns, hf, follows_iff.2 ?_⟩
 rw [tell_f]
 exact ⟨rfl, Nat.le_refl _, fun n x y hx hy => by rw [hx] at hy; rw [Option.some.inj hy]⟩
theorem clear_right {w : WorldM} (R : RightG w) : RightG (clearW w) := by
 refine ⟨R.sl, ?_, R.cl, R.rf, ?_, rfl, R.st, ?_, (fun t ht => by cases ht), (fun t ht => by cases ht)⟩
 ·show (List.replicate _ _).length = _; rw [List.length_replicate]; exact R.tl
 ·have := R.rd; unfold rightD at this ⊢; exact this
 ·intro l hl t ht
  have hl : l ∈ List.replicate w.line.todos.length [] := hl
  rw [(List.mem_replicate.1 hl).2] at ht; cases ht
theorem clear_idle (w : WorldM) : lnIdle (clearW w).line = true := by
 unfold lnIdle
 show (((!false && decide (0 = 0)) && decide (0 = 0)) && !((List.replicate w.line.todos.length []).any fun t => decide (0 < t.length))) = true
 rw [Bool.and_eq_true, Bool.not_eq_true', List.any_eq_false]
 refine ⟨rfl, fun t ht => ?_⟩
 rw [(List.mem_replicate.1 ht).2]; simp
theorem clear_rest (w : WorldM) : restG (clearW w) = true := by unfold restG; rw [clear_idle]; rfl
theorem clear_clear (w : WorldM) : clearW (clearW w) = clearW w := by
 unfold clearW
 simp
end Go.Proofs.Heir
namespace Go.Proofs.Heir
open Go Go.Am Go.RowKit Go.Lib
set_option maxRecDepth 100000
set_option maxHeartbeats 8000000
@[reducible] def zW : AV := .agg [.lit (.slice none 0 0), eInt 0, .lit (.slice none 0 0), .lit (.slice none 0 0), .lit (.slice none 0 0), eInt 0, eBool false, .lit (.slice none 0 0), .lit (.slice none 0 0), .lit (.slice none 0 0), eBool false, .lit (.slice none 0 0), .lit (.slice none 0 0), .lit (.slice none 0 0)]
@[reducible] def mZ : MS := .live 14 [zW] false
theorem whFollows_ok (w : WorldM) (h60 : w.f.nodes.length ≤ 1000) (f : ForM) : FnOK Tryz.prog 101 [] [eWorld w, eFor f] [] (eBool (followsW w f)) := by
 have hno := fun h => (Bool.eq_false_iff.2 (mt (follows_iff (w := w) (f := f)).1 h))
 have hyes := (follows_iff (w := w) (f := f)).2
 obtain ⟨r, hr⟩ : ∃ r, followsW w f = r := ⟨_, rfl⟩
 rw [hr] at hno hyes ⊢
 clear hr
 obtain ⟨⟨l, m⟩, st, ⟨d1, d2, d3, d4⟩, ⟨a, b, c, d⟩, ta, bu, cs⟩ := w
 obtain ⟨l', m'⟩ := f
 simp only at h60 hno hyes
 have n1 : (l.map oNode).length = l.length := List.length_map ..
 have n2 : (l'.map oNode).length = l'.length := List.length_map ..
 refine FnOK.startC (rvs := [.tmp 4]) G G_good Tryz.func101 rfl Tryz.ntmps101 rfl rfl ?_; with_reducible refine wD ?_
 by_cases e2 : m' = m
 case neg =>
  rw [hno (fun q => e2 q.1)]
  (have fct := (eq_false e2); (repeat' (first
  | refine gF ?_ | refine aE ?_ ?_
  | apply trivial)); all_goals clear fct)
 subst e2
 by_cases e1 : (l'.length : Int) < (l.length : Int)
 ·rw [hno (by omega)]
  (have fct := And.intro n1 (And.intro n2 (e1)); (repeat' (first
  | refine gF ?_ | refine aE ?_ ?_
  | apply trivial)); all_goals clear fct)
 (have fct := And.intro n1 (And.intro n2 ((eq_false e1))); (repeat' (first
  | refine gF ?_ | refine aE ?_ ?_
  | apply trivial)); all_goals clear fct)
 refine LoopK.use G G_good (fun (k : Nat) => [(2, .ptr 20 0 0), (3, .ptr 30 0 0), (28, eNodes l), (29, eInt l.length), (30, eInt k)]) (fun _ => [(20, mW ⟨⟨l, m'⟩, st, ⟨d1, d2, d3, d4⟩, ⟨a, b, c, d⟩, ta, bu, cs⟩), (30, .live 2 [eFor ⟨l', m'⟩] false)])
  (fun k => k ≤ l.length ∧ ∀ (j : Nat) x y, j < k → l[j]? = some x → l'[j]? = some y → y.kind = x.kind) (fun k => l.length - k) 0 ⟨Nat.zero_le _, fun j x y h => by omega⟩ ?_ ?_
 ·(refine fK ?_; (with_reducible repeat' (first | exact trivial | (show _ ∧ _; refine aK ?_ ?_))); (all_goals try rfl))
  all_goals first | (show (l.length : Int) = _; rw [n1])
 rintro k ⟨hk, hok⟩
 with_reducible refine wK ?_
 refine IfK.mk (fun h1 => ?_) (fun h1 => ?_) <;> (try simp only [castN] at h1) <;> with_reducible refine wK ?_
 ·have hk' : k < l.length := by simp only [decide_eq_true_eq] at h1; omega
  obtain ⟨x, hx⟩ : ∃ x, l[k]? = some x := ⟨_, List.getElem?_eq_getElem hk'⟩
  obtain ⟨y, hy⟩ : ∃ x, l'[k]? = some x := ⟨_, List.getElem?_eq_getElem (by omega)⟩
  clear h1
  by_cases e : y.kind = x.kind
  ·have hnx : ∀ (j : Nat) x y, j < k + 1 → l[j]? = some x → l'[j]? = some y → y.kind = x.kind := fun j x' y' hj hx' hy' => by
    rcases Nat.lt_or_ge j k with h6 | h6
    ·exact hok j x' y' h6 hx' hy'
    ·have : j = k := by omega
     subst this
     rw [hx] at hx'; rw [hy] at hy'; cases hx'; cases hy'; exact e
   obtain ⟨x0, x1, x2, x3, x4, x5, x6, x7, x8, x9⟩ := x
   obtain ⟨y0, y1, y2, y3, y4, y5, y6, y7, y8, y9⟩ := y
   simp only at e
   subst e
   repeat' (first
  | refine gK ?_ | refine aE ?_ ?_
  | (((with_reducible show IdxK _ _ _ _ _); first | refine IdxK.mk k (eNode ⟨y0, x1, x2, x3, x4, x5, x6, x7, x8, x9⟩) rfl (node_get hx) ?_ | refine IdxK.mk k (eNode ⟨y0, y1, y2, y3, y4, y5, y6, y7, y8, y9⟩) rfl (node_get hy) ?_) <;> with_reducible refine wK ?_)
  | apply trivial)
   refine NextK.mk (k + 1) ⟨by omega, hnx⟩ (by omega) ?_
   (refine fK ?_; (with_reducible repeat' (first | exact trivial | (show _ ∧ _; refine aK ?_ ?_))); (all_goals try rfl))
   all_goals first | (simp; done)
  ·rw [hno (fun q => e (q.2.2 k x y hx hy))]
   obtain ⟨x0, x1, x2, x3, x4, x5, x6, x7, x8, x9⟩ := x
   obtain ⟨y0, y1, y2, y3, y4, y5, y6, y7, y8, y9⟩ := y
   simp only at e
   (have fct := (eq_false e); (repeat' (first
  | refine gF ?_ | refine aE ?_ ?_
  | (((with_reducible show IdxK _ _ _ _ _); first | refine IdxK.mk k (eNode ⟨x0, x1, x2, x3, x4, x5, x6, x7, x8, x9⟩) rfl (node_get hx) ?_ | refine IdxK.mk k (eNode ⟨y0, y1, y2, y3, y4, y5, y6, y7, y8, y9⟩) rfl (node_get hy) ?_) <;> with_reducible refine wK ?_)
  | apply trivial)); all_goals clear fct)
 ·have hkl : l.length ≤ k := by simp only [decide_eq_false_iff_not] at h1; omega
  rw [hyes ⟨rfl, by omega, fun j x y hx hy => hok j x y (by have := (List.getElem?_eq_some_iff.1 hx).1; omega) hx hy⟩]
  clear h1
  repeat' (first
  | refine gK ?_ | refine aE ?_ ?_
  | apply trivial)
@[reducible] def eWorldS (w : WorldM) (t : AV) : AV := .agg [eNodes w.f.nodes, eInt w.f.most, t, eDefs w.desk.defs, eWaits w.desk.waits, eInt w.desk.next, eBool w.desk.busy, eTodoss w.line.todos, eIntss w.line.stack, eInts w.line.back, eBool w.line.busy, eTasks w.tasks, eBuilds w.builds, eClasses w.classes]
theorem tellW_no {w : WorldM} {f : ForM} {ns : List NoteM} (h : tellOK w f = false) : tellW w f ns = (w, 1) := by unfold tellW; rw [h]; rfl
theorem tellW_yes {w : WorldM} {f : ForM} {ns : List NoteM} (h : tellOK w f = true) : tellW w f ns = (tellG w f ns, 0) := by unfold tellW; rw [h]; rfl
theorem grow_zero (w : WorldM) (f : ForM) : growW w f 0 = w := by
 obtain ⟨f0, st, d, ⟨a, b, c, e⟩, ta, bu, cs⟩ := w
 unfold growW
 simp
theorem grow_step {w : WorldM} {f : ForM} {k : Nat} {y : NodeM} (h : (f.nodes.drop w.f.nodes.length)[k]? = some y) : (growW w f (k + 1)).states = (growW w f k).states ++ [bornS y] ∧ (growW w f (k + 1)).line = lnGrow (growW w f k).line := by
 unfold growW lnGrow
 constructor
 ·show w.states ++ ((f.nodes.drop w.f.nodes.length).take (k + 1)).map bornS = w.states ++ ((f.nodes.drop w.f.nodes.length).take k).map bornS ++ [bornS y]
  rw [take_snocI h, List.map_append, List.append_assoc]; rfl
 ·show LineM.mk (w.line.todos ++ List.replicate (k + 1) []) _ _ _ = LineM.mk (w.line.todos ++ List.replicate k [] ++ [[]]) _ _ _
  rw [List.replicate_succ', List.append_assoc]
theorem grow_states_len (w : WorldM) (f : ForM) (k : Nat) : (growW w f k).states.length ≤ w.states.length + k := by
 unfold growW
 show (w.states ++ ((f.nodes.drop w.f.nodes.length).take k).map bornS).length ≤ _
 rw [List.length_append, List.length_map, List.length_take]; omega
theorem grow_line_sm {w : WorldM} (f : ForM) {B k : Nat} (h : SmL B w.line) : SmL (B + k) (growW w f k).line := by
 unfold growW
 refine ⟨?_, ?_, Nat.le_trans h.3 (by omega), fun t ht => Nat.le_trans (h.4 t ht) (by omega), Nat.le_trans h.5 (by omega)⟩
 ·show (w.line.todos ++ List.replicate k []).length ≤ _
  rw [List.length_append, List.length_replicate]; have := h.1; omega
 ·intro t ht
  have ht : t ∈ w.line.todos ++ List.replicate k [] := ht
  rcases List.mem_append.1 ht with e | e
  ·exact Nat.le_trans (h.2 t e) (by omega)
  ·rw [(List.mem_replicate.1 e).2]; exact Nat.zero_le _
structure TellF (w : WorldM) (f : ForM) (ns : List NoteM) : Prop where
 X : RightG (nowW w f)
 Y : RightG { enlW (nowW w f) (dueL f (nowW w f).states w.desk w.classes ns) with states := toldSt f (nowW w f).states w.desk w.classes }
 d1 : ∀ d ∈ dueL f (nowW w f).states w.desk w.classes ns, dueOK (nowW w f) d = true
 d2 : ∀ d ∈ toldDu f (nowW w f).states w.desk w.classes, dueOK { enlW (nowW w f) (dueL f (nowW w f).states w.desk w.classes ns) with states := toldSt f (nowW w f).states w.desk w.classes } d = true
 l1 : (dueL f (nowW w f).states w.desk w.classes ns).length ≤ ns.length
 l2 : (toldDu f (nowW w f).states w.desk w.classes).length ≤ 2 * f.nodes.length
theorem tellF {w : WorldM} {f : ForM} (R : RightG w) (hf : rightF f = true) (hw : followsW w f = true) (ns : List NoteM) : TellF w f ns := by
 have X := now_right R hf hw
 have hx : (nowW w f).states.length = f.nodes.length := X.sl
 have D1 := dueL_ok X ns
 have e := enl_right _ (nowW w f) X D1
 have hff := enl_f (dueL f (nowW w f).states w.desk w.classes ns) (nowW w f)
 have hss := enl_states (dueL f (nowW w f).states w.desk w.classes ns) (nowW w f)
 have hdd := enl_desk (dueL f (nowW w f).states w.desk w.classes ns) (nowW w f)
 have hcc := enl_classes (dueL f (nowW w f).states w.desk w.classes ns) (nowW w f)
 have e : RightG (enlW (nowW w f) (dueL f (nowW w f).states w.desk w.classes ns)) := e
 refine ⟨X, ?_, D1, ?_, dueL_len .., ?_⟩
 ·have t := told_right e
  have q : toldSt (enlW (nowW w f) (dueL f (nowW w f).states w.desk w.classes ns)).f (enlW (nowW w f) (dueL f (nowW w f).states w.desk w.classes ns)).states (enlW (nowW w f) (dueL f (nowW w f).states w.desk w.classes ns)).desk (enlW (nowW w f) (dueL f (nowW w f).states w.desk w.classes ns)).classes = toldSt f (nowW w f).states w.desk w.classes := by
   rw [hff, hss, hdd, hcc]; rfl
  rw [q] at t
  exact t
 ·have t := toldDu_ok e
  rw [hff, hss, hdd, hcc] at t
  exact t
 ·unfold toldDu
  split
  ·rw [hx]; exact tDu_len ..
  ·simp
theorem small_now {w : WorldM} (hs : SmallW w) (hl : SmL 80000 w.line) {f : ForM} (hf : SmallN f.nodes) (R : RightG w) : SmallW (nowW w f) := by
 have hst := grow_states_len w f (f.nodes.length - w.f.nodes.length)
 have := hf.len
 have h2 := R.sl
 have h3 := hs.f.len
 exact ⟨hf, by show (growW w f _).states.length ≤ _; omega, hs.d, (grow_line_sm f hl).mono (by omega), hs.ta, hs.bu, hs.cl, hs.cs, hs.nm⟩
theorem small_enl {w : WorldM} {B : Nat} (hs : SmallW w) (hl : SmL B w.line) (ht : w.tasks.length ≤ 89000) (due : List DueN) (hb : B + due.length ≤ 90000) : SmallW (enlW w due) := by
 have hT := enl_tlen2 w due
 refine ⟨by rw [enl_f]; exact hs.f, by rw [enl_states]; exact hs.st, by rw [enl_desk]; exact hs.d, (enl_sm due w B hl).mono hb, by omega, by rw [enl_builds]; exact hs.bu, by rw [enl_classes]; exact hs.cl, by rw [enl_classes]; exact hs.cs, by rw [enl_classes]; exact hs.nm⟩
theorem wTell_ok (w : WorldM) (hs : SmallW w) (hl : SmL 80000 w.line) (hta : w.tasks.length ≤ 80000) (f : ForM) (hf : SmallN f.nodes) (ns : List NoteM) (hn : ns.length ≤ 1000) : FnOK Tryz.prog 33 [] [eWorld w, eFor f, eNotes ns] [] (.tup [eWorld (tellW w f ns).1, eInt (tellW w f ns).2]) := by
 have h75 := whRight_ok w hs
 have h100 := f100_ok f hf
 have h101 := whFollows_ok w (by have := hs.f.len; omega) f
 cases e1 : rightG w with
 | false =>
   rw [e1] at h75
   rw [tellW_no (by unfold tellOK; rw [e1]; rfl)]
   clear h100 h101
   obtain ⟨⟨l, m⟩, st, ⟨d1, d2, d3, d4⟩, ⟨a, b, c, d⟩, ta, bu, cs⟩ := w
   obtain ⟨l', m'⟩ := f
   refine FnOK.startC (rvs := [.cell 6 39, .tmp 7]) G G_good Tryz.func33 rfl Tryz.ntmps33 rfl rfl ?_; with_reducible refine wD ?_
   repeat' (first
  | refine gK ?_ | refine aE ?_ ?_
  | (((with_reducible refine kQ 75 ?_); refine CallK.lit [] h75 c75 ⟨
   ⟨rfl, rfl, rfl, rfl, rfl, rfl, rfl, rfl, rfl, rfl, rfl, rfl, rfl, rfl, trivial⟩
   , trivial⟩ rfl rfl ?_) <;> with_reducible refine wK ?_)
  | apply trivial)
 | true =>
 rw [e1] at h75
 cases e2 : rightF f with
 | false =>
   rw [e2] at h100
   rw [tellW_no (by unfold tellOK; rw [e1, e2]; rfl)]
   clear h101
   obtain ⟨⟨l, m⟩, st, ⟨d1, d2, d3, d4⟩, ⟨a, b, c, d⟩, ta, bu, cs⟩ := w
   obtain ⟨l', m'⟩ := f
   refine FnOK.startC (rvs := [.cell 6 39, .tmp 7]) G G_good Tryz.func33 rfl Tryz.ntmps33 rfl rfl ?_; with_reducible refine wD ?_
   repeat' (first
  | refine gK ?_ | refine aE ?_ ?_
  | ((first
   | ((with_reducible refine kQ 75 ?_); refine CallK.lit [] h75 c75 ⟨
   ⟨rfl, rfl, rfl, rfl, rfl, rfl, rfl, rfl, rfl, rfl, rfl, rfl, rfl, rfl, trivial⟩
   , trivial⟩ rfl rfl ?_)
   | ((with_reducible refine kQ 100 ?_); refine cL h100 c100 ?_)) <;> with_reducible refine wK ?_)
  | apply trivial)
 | true =>
 rw [e2] at h100
 cases e3 : followsW w f with
 | false =>
   rw [e3] at h101
   rw [tellW_no (by unfold tellOK; rw [e1, e2, e3]; rfl)]
   obtain ⟨⟨l, m⟩, st, ⟨d1, d2, d3, d4⟩, ⟨a, b, c, d⟩, ta, bu, cs⟩ := w
   obtain ⟨l', m'⟩ := f
   refine FnOK.startC (rvs := [.cell 6 39, .tmp 7]) G G_good Tryz.func33 rfl Tryz.ntmps33 rfl rfl ?_; with_reducible refine wD ?_
   repeat' (first
  | refine gK ?_ | refine aE ?_ ?_
  | ((first
   | ((with_reducible refine kQ 75 ?_); refine CallK.lit [] h75 c75 ⟨
   ⟨rfl, rfl, rfl, rfl, rfl, rfl, rfl, rfl, rfl, rfl, rfl, rfl, rfl, rfl, trivial⟩
   , trivial⟩ rfl rfl ?_)
   | ((with_reducible refine kQ 100 ?_); refine cL h100 c100 ?_)
   | ((with_reducible refine kQ 101 ?_); refine CallK.lit [] h101 c101 ⟨
   ⟨rfl, rfl, rfl, rfl, rfl, rfl, rfl, rfl, rfl, rfl, rfl, rfl, rfl, rfl, trivial⟩
   , ⟨rfl, rfl, trivial⟩, trivial⟩ rfl rfl ?_)) <;> with_reducible refine wK ?_)
  | apply trivial)
 | true =>
 rw [e3] at h101
 rw [tellW_yes (by unfold tellOK; rw [e1, e2, e3]; rfl)]
 have R := rightG_iff.1 e1
 have TF := tellF R e2 e3 ns
 have hsl := R.sl
 have hfl := hf.len
 have hwl := hs.f.len
 have hle := (follows_iff.1 e3).2.1
 have hX := small_now hs hl hf R
 have hXl : SmL 80100 (nowW w f).line := (grow_line_sm f hl).mono (by omega)
 have hcl := f102_ok w.states (by have := hs.st; omega)
 have hbn := fun x => wBorn_ok x
 have hgr := fun k (hk : k ≤ f.nodes.length) => lnGrow_ok (growW w f k).line ((grow_line_sm f hl).mono (by omega))
 have hst := fun k y h => grow_step (w := w) (f := f) (k := k) (y := y) h
 have h103 := f103_ok f hf (nowW w f).states w.desk hs.d w.classes hs.cs ns (by omega)
 have h104 := f104_ok f hf (nowW w f).states hX.st w.desk hs.d w.classes (fun c hc => (hs.cs c hc).hooks)
 have hE1 := whEnlist_ok (nowW w f) hX (dueL f (nowW w f).states w.desk w.classes ns) (by have := TF.l1; omega) TF.X TF.d1
 have hY0 : SmallW (enlW (nowW w f) (dueL f (nowW w f).states w.desk w.classes ns)) := small_enl hX hXl (by show w.tasks.length ≤ _; omega) _ (by have := TF.l1; omega)
 have hY : SmallW { enlW (nowW w f) (dueL f (nowW w f).states w.desk w.classes ns) with states := toldSt f (nowW w f).states w.desk w.classes } := ⟨hY0.f, by show (toldSt f (nowW w f).states w.desk w.classes).length ≤ _; rw [told_len]; exact hX.st, hY0.d, hY0.l, hY0.ta, hY0.bu, hY0.cl, hY0.cs, hY0.nm⟩
 have hE2 := whEnlist_ok _ hY (toldDu f (nowW w f).states w.desk w.classes) (by have := TF.l2; omega) TF.Y TF.d2
 have hY1 : enlW (nowW w f) (dueL f (nowW w f).states w.desk w.classes ns) = ⟨f, (nowW w f).states, w.desk, (enlW (nowW w f) (dueL f (nowW w f).states w.desk w.classes ns)).line, (enlW (nowW w f) (dueL f (nowW w f).states w.desk w.classes ns)).tasks, w.builds, w.classes⟩ := by
  have q1 := enl_f (dueL f (nowW w f).states w.desk w.classes ns) (nowW w f)
  have q2 := enl_states (dueL f (nowW w f).states w.desk w.classes ns) (nowW w f)
  have q3 := enl_desk (dueL f (nowW w f).states w.desk w.classes ns) (nowW w f)
  have q4 := enl_builds (dueL f (nowW w f).states w.desk w.classes ns) (nowW w f)
  have q5 := enl_classes (dueL f (nowW w f).states w.desk w.classes ns) (nowW w f)
  generalize enlW (nowW w f) (dueL f (nowW w f).states w.desk w.classes ns) = v at *
  obtain ⟨v1, v2, v3, v4, v5, v6, v7⟩ := v
  simp only at q1 q2 q3 q4 q5
  subst q1; subst q2; subst q3; subst q4; subst q5; rfl
 have hT : tellG w f ns = enlW { enlW (nowW w f) (dueL f (nowW w f).states w.desk w.classes ns) with states := toldSt f (nowW w f).states w.desk w.classes } (toldDu f (nowW w f).states w.desk w.classes) := rfl
 rw [hT]
 clear hT hY hY0 TF e1 e2 e3 hX hXl
 rw [hY1] at hE1 hE2 ⊢
 clear hY1
 simp only at hE2 ⊢
 generalize hLy : (enlW (nowW w f) (dueL f (nowW w f).states w.desk w.classes ns)).line = Ly at *
 generalize hTy : (enlW (nowW w f) (dueL f (nowW w f).states w.desk w.classes ns)).tasks = Ty at *
 clear hLy hTy
 generalize dueL f (nowW w f).states w.desk w.classes ns = D1 at *
 generalize toldSt f (nowW w f).states w.desk w.classes = S2 at *
 generalize toldDu f (nowW w f).states w.desk w.classes = D2 at *
 generalize hZ : enlW ⟨f, S2, w.desk, Ly, Ty, w.builds, w.classes⟩ D2 = Z at *
 clear hZ
 obtain ⟨nf, hnf⟩ : ∃ nf, nf = f.nodes.drop w.f.nodes.length := ⟨_, rfl⟩
 have hnl : nf.length = f.nodes.length - w.f.nodes.length := by rw [hnf, List.length_drop]
 have hg0 := grow_zero w f
 have hge : (nowW w f).states = (growW w f nf.length).states ∧ (nowW w f).line = (growW w f nf.length).line ∧ nowW w f = ⟨f, (growW w f nf.length).states, w.desk, (growW w f nf.length).line, w.tasks, w.builds, w.classes⟩ := by rw [hnl]; exact ⟨rfl, rfl, rfl⟩
 rw [hge.1] at h103 h104
 rw [hge.2.2] at hE1
 have hslen := fun k => grow_states_len w f k
 rw [← hnf] at hst
 have hcut : nf.map oNode = ((f.nodes.map oNode).drop w.f.nodes.length).take (f.nodes.length - w.f.nodes.length) := by rw [← List.map_drop, ← hnf, List.take_of_length_le (by rw [List.length_map]; omega)]
 have g1 : ∀ k, (growW w f k).f = w.f ∧ (growW w f k).desk = w.desk ∧ (growW w f k).tasks = w.tasks := fun k => ⟨rfl, rfl, rfl⟩
 have hgs : (growW w f 0).states = w.states ∧ (growW w f 0).line = w.line := by rw [hg0]; exact ⟨rfl, rfl⟩
 clear hge hnf hg0 hs hl R hf g1
 generalize hGs : (fun k => (growW w f k).states) = Gs at *
 generalize hGl : (fun k => (growW w f k).line) = Gl at *
 have hGs' : ∀ k, (growW w f k).states = Gs k := fun k => by rw [← hGs]
 have hGl' : ∀ k, (growW w f k).line = Gl k := fun k => by rw [← hGl]
 simp only [hGs', hGl'] at hst hslen hgr h103 h104 hE1 hgs
 clear hGs hGl hGs' hGl'
 have hnm : (nf.map oNode).length = nf.length := List.length_map ..
 obtain ⟨⟨zl, zm⟩, zst, ⟨zd1, zd2, zd3, zd4⟩, ⟨za, zb, zc, zd⟩, zta, zbu, zcs⟩ := Z
 obtain ⟨⟨l, m⟩, st, ⟨d1, d2, d3, d4⟩, ⟨a, b, c, d⟩, ta, bu, cs⟩ := w
 obtain ⟨l', m'⟩ := f
 obtain ⟨la, lb, lc, ld⟩ := Ly
 simp only at hcl h100 h101 h103 h104 hE1 hE2 hsl hfl hwl hle hnl hslen hcut hgs hta hgr ⊢
 have n1 : (l.map oNode).length = l.length := List.length_map ..
 have n2 : (l'.map oNode).length = l'.length := List.length_map ..
 refine FnOK.startC (rvs := [.cell 6 39, .tmp 7]) G G_good Tryz.func33 rfl Tryz.ntmps33 rfl rfl ?_; with_reducible refine wD ?_
 repeat' (first
  | refine gK ?_ | refine aE ?_ ?_
  | ((first
   | ((with_reducible refine kQ 75 ?_); refine CallK.lit [] h75 c75 ⟨
   ⟨rfl, rfl, rfl, rfl, rfl, rfl, rfl, rfl, rfl, rfl, rfl, rfl, rfl, rfl, trivial⟩
   , trivial⟩ rfl rfl ?_)
   | ((with_reducible refine kQ 100 ?_); refine cL h100 c100 ?_)
   | ((with_reducible refine kQ 101 ?_); refine CallK.lit [] h101 c101 ⟨
   ⟨rfl, rfl, rfl, rfl, rfl, rfl, rfl, rfl, rfl, rfl, rfl, rfl, rfl, rfl, trivial⟩
   , ⟨rfl, rfl, trivial⟩, trivial⟩ rfl rfl ?_)
   | ((with_reducible refine kQ 102 ?_); refine CallK.new 321 [] hcl c102 ⟨rfl, trivial⟩ rfl rfl rfl (states_outs _) rfl ?_)
   | ((with_reducible show CutFK _ _ _ _ _ _); refine CutFK.mk l.length (l'.length - l.length) (nf.map oNode) (by (try simp only [castN]); omega) (by (try simp only [castN]); omega) (by omega) hcut ?_)) <;> with_reducible refine wK ?_)
  | apply trivial)
 refine LoopK.use G G_good (fun (k : Nat) => [(2, eNotes ns), (3, .ptr 30 0 0), (4, .ptr 40 0 0), (6, .ptr 60 0 0), (8, .ptr 80 0 0), (41, eNodes nf), (42, eInt nf.length), (43, eInt k)])
  (fun k => [(30, mW ⟨⟨l, m⟩, st, ⟨d1, d2, d3, d4⟩, ⟨a, b, c, d⟩, ta, bu, cs⟩), (40, .live 2 [eFor ⟨l', m'⟩] false), (60, mZ), (80, .live 14 [eWorldS ⟨⟨l, m⟩, st, ⟨d1, d2, d3, d4⟩, Gl k, ta, bu, cs⟩ (.own 321 0 (Gs k).length)] false), (321, mStates (Gs k))])
  (fun k => k ≤ nf.length) (fun k => nf.length - k) 0 (Nat.zero_le _) ?_ ?_
 ·rw [hgs.1, hgs.2]
  (refine fK ?_; (with_reducible repeat' (first | exact trivial | (show _ ∧ _; refine aK ?_ ?_))); (all_goals try rfl))
  all_goals first
   | (show (nf.length : Int) = _; rw [hnm])
   | exact ⟨.refl (noRef_states _), noRef_states _⟩
   | exact .inl rfl
   | (simp; omega)
 intro k hk
 with_reducible refine wK ?_
 refine IfK.mk (fun h1 => ?_) (fun h1 => ?_) <;> (try simp only [castN] at h1) <;> with_reducible refine wK ?_
 ·have hk' : k < nf.length := by simp only [decide_eq_true_eq] at h1; omega
  obtain ⟨y, hy⟩ : ∃ x, nf[k]? = some x := ⟨_, List.getElem?_eq_getElem hk'⟩
  obtain ⟨q1, q2⟩ := hst k y hy
  have hgr := hgr k (by omega)
  have hbn := hbn y
  have hslk := hslen k
  clear h1 hst hslen hcl h75 h100 h101 h103 h104 hE1 hE2
  rw [← q2] at hgr
  have e3 : (Gs k).map oState ++ [eState (bornS y)] = (Gs (k + 1)).map oState := by rw [q1, List.map_append]; rfl
  have e4 : (Gs (k + 1)).length = (Gs k).length + 1 := by rw [q1]; simp
  clear q1 q2
  generalize bornS y = s at *
  obtain ⟨s1, s2, s3, s4⟩ := s
  obtain ⟨y0, y1, y2, y3, y4, y5, y6, y7, y8, y9⟩ := y
  generalize hLn : Gl (k + 1) = L2 at *
  generalize hTn : Gs (k + 1) = T2 at *
  repeat' (first
  | refine gK ?_ | refine aE ?_ ?_
  | ((first
   | ((with_reducible show IdxK _ _ _ _ _); refine IdxK.mk k (eNode ⟨y0, y1, y2, y3, y4, y5, y6, y7, y8, y9⟩) rfl (node_get hy) ?_)
   | ((with_reducible refine kQ 89 ?_); refine cL hbn c89 ?_)
   | ((with_reducible refine kQ 90 ?_); refine cV hgr c90 ?_)
   | ((with_reducible show AppK _ _ _ _ _ _ _ _ _ _); refine AppK.mk ((Gs k).map oState) [eState ⟨s1, s2, s3, s4⟩] ⟨rfl, by simp, rfl⟩ ⟨rfl, rfl, rfl⟩ rfl (by simp; omega) (by simp; omega) ?_)) <;> with_reducible refine wK ?_)
  | apply trivial)
  refine NextK.mk (k + 1) (by omega) (by omega) ?_
  rw [hLn, hTn, e4, e3]
  (refine fK ?_; (with_reducible repeat' (first | exact trivial | (show _ ∧ _; refine aK ?_ ?_))); (all_goals try rfl))
  all_goals first
   | exact ⟨.refl (noRef_states _), noRef_states _⟩
   | exact .inl rfl
   | (rw [List.length_map, e4]; done)
   | (simp; done)
 ·have hkl : k = nf.length := by simp only [decide_eq_false_iff_not] at h1; omega
  subst hkl
  clear h1 hst hslen hcl h75 h100 h101
  repeat' (first
  | refine gK ?_ | refine aE ?_ ?_
  | ((first
   | ((with_reducible refine kQ 103 ?_); refine CallK.val [321] h103 c103 ⟨⟨rfl, rfl, trivial⟩, frz_states rfl rfl rfl rfl, ⟨rfl, rfl, rfl, rfl, trivial⟩, rfl, rfl, trivial⟩ rfl rfl rfl ?_)
   | ((with_reducible refine kQ 104 ?_); refine cV h104 c104 ?_)
   | ((with_reducible refine kQ 98 ?_); first
     | refine CallK.lend (news := [mW ⟨⟨l', m'⟩, Gs nf.length, ⟨d1, d2, d3, d4⟩, ⟨la, lb, lc, ld⟩, Ty, bu, cs⟩]) [80] [321] hE1 c98 ⟨⟨rfl, rfl⟩, rfl, trivial⟩ ⟨⟨rfl, .inr ⟨⟨⟨rfl, rfl, frz_states rfl rfl rfl rfl, rfl, rfl, rfl, rfl, rfl, rfl, rfl, rfl, rfl, rfl, rfl, trivial⟩, trivial⟩, rfl⟩⟩, trivial⟩ rfl ⟨⟨rfl, rfl⟩, rfl⟩ rfl ⟨⟨rfl, .inr ⟨rfl, rfl, rfl⟩⟩, trivial⟩ rfl rfl ?_
     | refine CallK.lend (news := [mW ⟨⟨zl, zm⟩, zst, ⟨zd1, zd2, zd3, zd4⟩, ⟨za, zb, zc, zd⟩, zta, zbu, zcs⟩]) [80] [] hE2 c98 ⟨⟨rfl, rfl⟩, rfl, trivial⟩ ⟨⟨rfl, .inr ⟨⟨⟨rfl, rfl, rfl, rfl, rfl, rfl, rfl, rfl, rfl, rfl, rfl, rfl, rfl, rfl, trivial⟩, trivial⟩, rfl⟩⟩, trivial⟩ rfl ⟨⟨rfl, rfl⟩, rfl⟩ rfl ⟨⟨rfl, .inr ⟨rfl, rfl, rfl⟩⟩, trivial⟩ rfl rfl ?_)) <;> with_reducible refine wK ?_)
  | apply trivial)
  all_goals trace_state



end Go.Proofs.Heir
namespace Go.Proofs.Heir
open Go Go.Am Go.RowKit Go.Lib
set_option maxRecDepth 100000
set_option maxHeartbeats 8000000
set_option maxHeartbeats 8000000
def bareN (k d : Int) : NodeM := ⟨k, ⟨#[]⟩, ⟨#[]⟩, ⟨#[]⟩, [], -1, [], -1, -1, d⟩
def madeN (f : ForM) (x : NodeM) : NodeM := ⟨x.kind, x.name, x.is, x.data, x.attrs, -1, [], -1, -1, if x.kind = 0 then (f.nodes.length : Int) else x.doc⟩
def makeOK (f : ForM) (x : NodeM) : Bool := (rightF f && namedN (madeN f x)) && (!decide (x.kind = 4) && (decide (x.kind = 0) || isN f.nodes x.doc 0))
def makeF (f : ForM) (x : NodeM) : ForM × Int × Int :=
 if makeOK f x = true then (if (f.nodes.length : Int) = f.most then (f, -1, 8) else (⟨f.nodes ++ [madeN f x], f.most⟩, f.nodes.length, 0)) else (f, -1, 1)
end Go.Proofs.Heir
