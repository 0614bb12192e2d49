/- Models, plain laws and contracts of functions of the given program; conditions as stated in each theorem. By an AI agent. -/
import Derived.Test.YtpogpigciaajoaaGreatDoorW5
set_option linter.unusedSimpArgs false
set_option linter.unusedVariables false
namespace Go.Proofs.Heir
open Go Go.Am Go.RowKit Go.Lib
set_option maxRecDepth 100000
set_option maxHeartbeats 8000000
theorem fiveR {cb c1 : Bool} {p q : Prop} {w : Bool} [Decidable p] [Decidable q] (h : ((((cb && c1) && decide p) && !decide q) && w) = false) : cb = false ∨ (cb = true ∧ c1 = false) ∨ (cb = true ∧ c1 = true ∧ ¬ p) ∨ (cb = true ∧ c1 = true ∧ p ∧ q) ∨ (cb = true ∧ c1 = true ∧ p ∧ ¬ q ∧ w = false) := by
  cases cb <;> cases c1 <;> by_cases hp : p <;> by_cases hq : q <;> cases w <;> simp [hp, hq] at h ⊢
theorem todoN_neq (a b : TodoM) (y z : Operand) (w : World) : ((do eqGuard .neq 70 y z (vTodo a) (vTodo b); binOp .neq 70 (vTodo a) (vTodo b) : Sem Value)).run Tryz.prog w = .ok (.bool (!decide (a = b))) w := by
  rw [Sem.run_bind, run_eqGuard_agg w .neq 70 y z _ _ (by kernel_rfl), Result.andThen_ok, run_neq_struct, todoN_eq 9998]; rfl
theorem set_ints (l : List Int) (k : Nat) (v : Int) : (l.map oInt).set k (eInt v) = (l.set k v).map oInt := by rw [List.map_set]; rfl
theorem f7_ok (f : ForM) (st : List StateM) (d : DeskM) (cs : List ClassM) : FnOK Tryz.prog 7 [] [eFor f, eStates st, eDesk d, eClasses cs] [] (eBool true) := by
  have h22 := f22_ok
  have h35 := f35_ok f st d cs
  cases b1 : rightW f st d cs with
  | false =>
    rw [b1] at h35
    obtain ⟨l, m⟩ := f
    obtain ⟨d1, d2, d3, d4⟩ := d
    refine FnOK.startC (rvs := [.tmp 8]) G G_good Tryz.func7 rfl Tryz.ntmps7 rfl rfl ?_; with_reducible refine wD ?_
    repeat' (first
    | refine gK ?_
    | ((first
      | ((with_reducible show CallK _ _ 22 _ _ _ _); refine CallK.lit [] h22 c22 trivial rfl rfl ?_)
      | ((with_reducible show CallK _ _ 35 _ _ _ _); refine CallK.lit [] h35 c35 ⟨⟨rfl, rfl, trivial⟩, rfl, ⟨rfl, rfl, rfl, rfl, trivial⟩, rfl, trivial⟩ rfl rfl ?_)) <;> with_reducible refine wK ?_)
    | ((with_reducible show (_ ∧ _) ∧ _ ∧ _); (refine eK ?_ ?_ <;> with_reducible repeat' (first | exact trivial | (show _ ∧ _; refine aK ?_ ?_)))))
    all_goals rfl
  | true =>
  have R := rightW_of b1
  have hs := R.hs
  have T := tree_of R.rf
  have hcs : ∀ c ∈ cs, c.hooks.length ≤ 100000 := fun c hc => (R.hc c hc).hooks
  rw [b1] at h35
  have h60 := hs.len
  have h60' : f.nodes.length ≤ 60 := hs.len
  have hlf := R.len
  have htn : ∀ k : Nat, k < f.nodes.length → thereN f.nodes (k : Int) = true := fun k hk => there_get (List.getElem?_eq_getElem hk)
  have h25 : ∀ x : Nat, x < f.nodes.length → FnOK Tryz.prog 25 [] [eFor f, eStates st, eDesk d, eClasses cs, eInt x] [] (eDuesN ((rsN f d cs st x).map fun n => (⟨n, clearedT⟩ : DueN))) := fun x hx => by
    have := f25_ok f hs st (by omega) d R.hd cs hcs (x : Int)
    rwa [resetDu_rs R.look (htn x hx)] at this
  have h38 : ∀ n : Nat, n < f.nodes.length → FnOK Tryz.prog 38 [] [eFor f, eInt n] [] (eInt (ownN f.nodes (n : Int))) := fun n hn => by
    have := f38_ok f hs (n : Int)
    unfold ownF at this
    rwa [htn n hn, R.rf, if_pos (by rfl)] at this
  have hfac : ∀ x : Nat, x < f.nodes.length → ∀ i c, (rsN f d cs st x)[i]? = some c → ∃ k : Nat, c = (k : Int) ∧ k < f.nodes.length ∧ ownN f.nodes (k : Int) = (x : Int) := fun x hx i c h => by
    obtain ⟨a1, a2⟩ := rs_facts T (htn x hx) (List.mem_of_getElem? h)
    obtain ⟨k, y, hk, hy, _⟩ := there_iff.1 a1
    subst hk
    exact ⟨k, rfl, (List.getElem?_eq_some_iff.1 hy).1, a2⟩
  have h40 : ∀ x : Nat, x < f.nodes.length → ∀ i a b, (rsN f d cs st x)[i]? = some a → (rsN f d cs st x)[i + 1]? = some b → FnOK Tryz.prog 40 [] [eFor f, eInt a, eInt b] [] (eBool true) := fun x hx i a b ha hb => by
    have := f40_ok f hs a b
    have e : aheadF f a b = true := by
      unfold aheadF
      rw [R.rf, (rs_facts T (htn x hx) (List.mem_of_getElem? ha)).1, (rs_facts T (htn x hx) (List.mem_of_getElem? hb)).1, rs_ahead T (htn x hx) ha hb]; rfl
    rwa [e] at this
  have hrl : ∀ x : Nat, x < f.nodes.length → (rsN f d cs st x).length ≤ f.nodes.length := fun x hx => rs_len T (htn x hx)
  have hst := fun x => aN_step (f := f) (d := d) (cs := cs) (st := st) x
  have hall : ∀ n : Nat, n < f.nodes.length → ((aN f d cs st f.nodes.length).count (n : Int) : Int) = cond ((((classB (sAt st n) d cs && (classV (sAt st n) d cs).form) && decide ((sAt st n).phase = 3)) && !decide (ownN f.nodes (n : Int) = -1)) && hearsC (classV (sAt st n) d cs) 7) 1 0 := fun n hn => by
    have h := aN_all (d := d) (cs := cs) (st := st) T (htn n hn)
    rw [Int.toNat_natCast] at h
    rw [h, Bool.cond_eq_ite]
  have h36 := fun s => f36_ok s d cs
  have h37 := fun s n => f37_ok (classV s d cs) (classV_hooks hcs s d) n
  have hsA : ∀ k, k < st.length → st[k]? = some (sAt st k) := fun k hk => by
    unfold sAt; rw [List.getElem?_eq_getElem hk]; rfl
  have ha0 : aN f d cs st 0 = [] := rfl
  have hAl := fun x hx => aN_len (d := d) (cs := cs) (st := st) T h60' x hx
  generalize aN f d cs st = A at *
  obtain ⟨rs, hrs⟩ : ∃ rs : Nat → List Int, rs = fun x : Nat => rsN f d cs st (x : Int) := ⟨_, rfl⟩
  have hrs' : ∀ x : Nat, rsN f d cs st (x : Int) = rs x := fun x => by rw [hrs]
  simp only [hrs'] at h25 hfac h40 hrl hst
  clear hrs hrs' T b1 R hcs hs
  have hsm : (st.map oState).length = st.length := List.length_map ..
  obtain ⟨l, m⟩ := f
  obtain ⟨d1, d2, d3, d4⟩ := d
  have hlf' : st.length = l.length := hlf
  have hnm : (l.map oNode).length = l.length := List.length_map ..
  refine FnOK.startC (rvs := [.tmp 8]) G G_good Tryz.func7 rfl Tryz.ntmps7 rfl rfl ?_; with_reducible refine wD ?_
  (have fct := And.intro hsm (hnm); (repeat' (first
    | refine gF ?_
    | ((first
      | ((with_reducible show CallK _ _ 22 _ _ _ _); refine CallK.lit [] h22 c22 trivial rfl rfl ?_)
      | ((with_reducible show CallK _ _ 35 _ _ _ _); refine CallK.lit [] h35 c35 ⟨⟨rfl, rfl, trivial⟩, rfl, ⟨rfl, rfl, rfl, rfl, trivial⟩, rfl, trivial⟩ rfl rfl ?_)) <;> with_reducible refine wK ?_)
    | ((with_reducible show (_ ∧ _) ∧ _ ∧ _); (refine eK ?_ ?_ <;> with_reducible repeat' (first | exact trivial | (show _ ∧ _; refine aK ?_ ?_)))))); all_goals clear fct)
  refine LoopK.use G G_good (fun (x : Nat) => [(1, eStates st), (3, eClasses cs), (4, .ptr 40 0 0), (6, .ptr 60 0 0), (9, .ptr 91 0 0), (10, eInt x)])
    (fun x => [(40, .live 2 [eFor ⟨l, m⟩] false), (60, .live 4 [eDesk ⟨d1, d2, d3, d4⟩] false), (91, rInts (tL (A x)))])
    (fun x => x ≤ l.length) (fun x => l.length - x) 0 (Nat.zero_le _) ?_ ?_
  · rw [ha0, tL_zero]
    (refine fK ?_; (with_reducible repeat' (first | exact trivial | (show _ ∧ _; refine aK ?_ ?_))); (all_goals try rfl))
    all_goals first
      | exact ⟨.refl rfl, rfl⟩
      | trace_state
  intro x hx
  with_reducible refine wK ?_
  refine IfK.mk (fun h1 => ?_) (fun h1 => ?_) <;> (try simp only [castN] at h1) <;> with_reducible refine wK ?_
  · have hx' : x < l.length := by simp only [hnm, decide_eq_true_eq, castN] at h1; omega
    have h25 := h25 x hx'
    have hfac := hfac x hx'
    have h40 := h40 x hx'
    have hrl := hrl x hx'
    have hst := hst x
    have hAl := hAl x (by omega)
    clear hall h36 h37 hsA
    generalize rs x = r at *
    generalize A x = L at *
    have hdm : ((r.map fun n => (⟨n, clearedT⟩ : DueN)).map oDueN).length = r.length := by simp
    repeat' (first
    | refine gK ?_
    | (((with_reducible show CallK _ _ 25 _ _ _ _); refine CallK.val [] h25 c25 ⟨⟨rfl, rfl, trivial⟩, rfl, ⟨rfl, rfl, rfl, rfl, trivial⟩, rfl, rfl, trivial⟩ rfl rfl rfl ?_) <;> with_reducible refine wK ?_)
    | ((with_reducible show (_ ∧ _) ∧ _ ∧ _); (refine eK ?_ ?_ <;> with_reducible repeat' (first | exact trivial | (show _ ∧ _; refine aK ?_ ?_)))))
    refine LoopK.use G G_good (fun (i : Nat) => [(1, eStates st), (3, eClasses cs), (4, .ptr 40 0 0), (6, .ptr 60 0 0), (9, .ptr 91 0 0), (10, eInt x), (11, eDuesN (r.map fun n => (⟨n, clearedT⟩ : DueN))), (12, eInt i)])
      (fun i => [(40, .live 2 [eFor ⟨l, m⟩] false), (60, .live 4 [eDesk ⟨d1, d2, d3, d4⟩] false), (91, rInts (tL (L ++ r.take i)))])
      (fun i => i ≤ r.length) (fun i => r.length - i) 0 (Nat.zero_le _) ?_ ?_
    · rw [List.take_zero, List.append_nil]
      (refine fK ?_; (with_reducible repeat' (first | exact trivial | (show _ ∧ _; refine aK ?_ ?_))); (all_goals try rfl))
      all_goals first
        | exact ⟨.refl rfl, rfl⟩
        | exact ⟨.refl (noRef_ints _), noRef_ints _⟩
        | trace_state
    intro i hi
    with_reducible refine wK ?_
    refine IfK.mk (fun h2 => ?_) (fun h2 => ?_) <;> (try simp only [castN] at h2) <;> with_reducible refine wK ?_
    · have hi' : i < r.length := by simp only [hdm, decide_eq_true_eq, castN] at h2; omega
      obtain ⟨c, hc⟩ : ∃ c, r[i]? = some c := ⟨_, List.getElem?_eq_getElem hi'⟩
      obtain ⟨k, hck, hkl, hko⟩ := hfac i c hc
      subst hck
      have hk60 : k < 60 := by omega
      have h38k := h38 k hkl
      rw [show ownN (ForM.mk l m).nodes (k : Int) = (x : Int) from hko] at h38k
      have hti : r.take (i + 1) = r.take i ++ [(k : Int)] := by rw [List.take_add_one, hc]; rfl
      have hdi : (r.map fun n => (⟨n, clearedT⟩ : DueN))[i]? = some ⟨(k : Int), clearedT⟩ := by rw [List.getElem?_map, hc]; rfl
      have htg := tL_get (L ++ r.take i) hk60
      have hts := tL_snoc (L ++ r.take i) hk60
      rw [List.append_assoc, ← hti] at hts
      have hcl : ((L ++ r.take i).count (k : Int) : Int) ≤ 4000 := by
        have h1 : (L ++ r.take i).count (k : Int) ≤ (L ++ r.take i).length := List.count_le_length
        rw [List.length_append, List.length_take] at h1
        omega
      have hc0 : (0 : Int) ≤ ((L ++ r.take i).count (k : Int) : Int) := by omega
      generalize ((L ++ r.take i).count (k : Int) : Int) = v at *
      have hk0 : (0 : Int) ≤ (k : Int) := by omega
      have hkl' : (k : Int) < (l.length : Int) := by have : k < l.length := hkl; omega
      have h40j : ∀ j p, i = j + 1 → r[j]? = some p → FnOK Tryz.prog 40 [] [eFor ⟨l, m⟩, eInt p, eInt k] [] (eBool true) := fun j p e hp => h40 j p k hp (by rw [← e]; exact hc)
      clear h40 hfac hti hc h25
      rcases Nat.eq_zero_or_pos i with hi0 | hi0
      · subst hi0
        (have fct := And.intro hnm (And.intro hk0 (hkl')); (repeat' (first
    | refine gF ?_
    | ((first
      | (refine IdxK.mk 0 (eDueN ⟨(k : Int), clearedT⟩) rfl (dueN_get hdi) ?_)
      | ((with_reducible show LtK _ _ _ _ _); refine LtK.mk k rfl hk60 ?_)
      | ((with_reducible show ElemK _ _ _ _ _); first | refine ElemK.mk (eInt v) (by first | exact int_get htg | (rw [Nat.zero_add]; exact int_get htg)) ?_ | refine ElemK.mk _ rfl ?_)
      | ((with_reducible show EqK _ _ _ _ _ _ _ _); refine EqK.mk _ (fun y z w => todoN_neq clearedT clearedT y z w) ?_)
      | ((with_reducible show CallK _ _ 38 _ _ _ _); refine CallK.lit [] h38k c38 ⟨⟨rfl, rfl, trivial⟩, rfl, trivial⟩ rfl rfl ?_)) <;> with_reducible refine wK ?_)
    | ((with_reducible show (_ ∧ _) ∧ _ ∧ _); (refine eK ?_ ?_ <;> with_reducible repeat' (first | exact trivial | (show _ ∧ _; refine aK ?_ ?_)))))); all_goals clear fct)
        refine NextK.mk (0 + 1) (by omega) (by omega) ?_
        rw [hts]
        (refine fK ?_; (with_reducible repeat' (first | exact trivial | (show _ ∧ _; refine aK ?_ ?_))); (all_goals try rfl))
        all_goals first
          | exact ⟨.refl rfl, rfl⟩
          | (rw [set_ints]; exact ⟨.refl (noRef_ints _), noRef_ints _⟩)
          | (simp; done)
          | trace_state
      · obtain ⟨j, rfl⟩ : ∃ j, i = j + 1 := ⟨i - 1, by omega⟩
        obtain ⟨p, hp⟩ : ∃ p, r[j]? = some p := ⟨_, List.getElem?_eq_getElem (by omega)⟩
        have h40p := h40j j p rfl hp
        have hdj : (r.map fun n => (⟨n, clearedT⟩ : DueN))[j]? = some ⟨p, clearedT⟩ := by rw [List.getElem?_map, hp]; rfl
        have hj0 : (0 : Int) < ((j + 1 : Nat) : Int) := by omega
        (have fct := And.intro hnm (And.intro hk0 (And.intro hkl' (hj0))); (repeat' (first
    | refine gF ?_
    | ((first
      | (first | refine IdxK.mk (j + 1) (eDueN ⟨(k : Int), clearedT⟩) rfl (dueN_get hdi) ?_ | refine IdxK.mk j (eDueN ⟨p, clearedT⟩) (by (try simp only [castN]); omega) (dueN_get hdj) ?_)
      | ((with_reducible show LtK _ _ _ _ _); refine LtK.mk k rfl hk60 ?_)
      | ((with_reducible show ElemK _ _ _ _ _); first | refine ElemK.mk (eInt v) (by first | exact int_get htg | (rw [Nat.zero_add]; exact int_get htg)) ?_ | refine ElemK.mk _ rfl ?_)
      | ((with_reducible show EqK _ _ _ _ _ _ _ _); refine EqK.mk _ (fun y z w => todoN_neq clearedT clearedT y z w) ?_)
      | ((with_reducible show CallK _ _ 38 _ _ _ _); refine CallK.lit [] h38k c38 ⟨⟨rfl, rfl, trivial⟩, rfl, trivial⟩ rfl rfl ?_)
      | ((with_reducible show CallK _ _ 40 _ _ _ _); refine CallK.lit [] h40p c40 ⟨⟨rfl, rfl, trivial⟩, rfl, rfl, trivial⟩ rfl rfl ?_)) <;> with_reducible refine wK ?_)
    | ((with_reducible show (_ ∧ _) ∧ _ ∧ _); (refine eK ?_ ?_ <;> with_reducible repeat' (first | exact trivial | (show _ ∧ _; refine aK ?_ ?_)))))); all_goals clear fct)
        refine NextK.mk (j + 1 + 1) (by omega) (by omega) ?_
        rw [hts]
        (refine fK ?_; (with_reducible repeat' (first | exact trivial | (show _ ∧ _; refine aK ?_ ?_))); (all_goals try rfl))
        all_goals first
          | exact ⟨.refl rfl, rfl⟩
          | (rw [set_ints]; exact ⟨.refl (noRef_ints _), noRef_ints _⟩)
          | (simp; done)
          | trace_state
    · have hjl : i = r.length := by simp only [hdm, decide_eq_false_iff_not, castN] at h2; omega
      subst hjl
      rw [List.take_length, ← hst]
      repeat' (first
    | refine gK ?_
    | (((with_reducible show DrawK _ _ _ _); refine dK ?_) <;> with_reducible refine wK ?_)
    | ((with_reducible show (_ ∧ _) ∧ _ ∧ _); (refine eK ?_ ?_ <;> with_reducible repeat' (first | exact trivial | (show _ ∧ _; refine aK ?_ ?_)))))
      refine NextK.mk (x + 1) (by omega) (by omega) ?_
      (refine fK ?_; (with_reducible repeat' (first | exact trivial | (show _ ∧ _; refine aK ?_ ?_))); (all_goals try rfl))
      all_goals first
        | exact ⟨.refl rfl, rfl⟩
        | exact ⟨.refl (noRef_ints _), noRef_ints _⟩
        | (simp; done)
        | trace_state
  · have hjl : x = l.length := by simp only [hnm, decide_eq_false_iff_not, castN] at h1; omega
    subst hjl
    clear h25 hfac h40 hrl hst hAl
    generalize A l.length = L at *
    repeat' (first
    | refine gK ?_
    | (((with_reducible show DrawK _ _ _ _); refine dK ?_) <;> with_reducible refine wK ?_)
    | ((with_reducible show (_ ∧ _) ∧ _ ∧ _); (refine eK ?_ ?_ <;> with_reducible repeat' (first | exact trivial | (show _ ∧ _; refine aK ?_ ?_)))))
    refine LoopK.use G G_good (fun (n : Nat) => [(1, eStates st), (3, eClasses cs), (4, .ptr 40 0 0), (6, .ptr 60 0 0), (9, .ptr 91 0 0), (14, eInt n)])
      (fun _ => [(40, .live 2 [eFor ⟨l, m⟩] false), (60, .live 4 [eDesk ⟨d1, d2, d3, d4⟩] false), (91, rInts (tL L))])
      (fun n => n ≤ l.length) (fun n => l.length - n) 0 (Nat.zero_le _) ?_ ?_
    · (refine fK ?_; (with_reducible repeat' (first | exact trivial | (show _ ∧ _; refine aK ?_ ?_))); (all_goals try rfl))
      all_goals first
        | exact ⟨.refl rfl, rfl⟩
        | exact ⟨.refl (noRef_ints _), noRef_ints _⟩
        | trace_state
    intro n hn
    with_reducible refine wK ?_
    refine IfK.mk (fun h3 => ?_) (fun h3 => ?_) <;> (try simp only [castN] at h3) <;> with_reducible refine wK ?_
    · have hn' : n < l.length := by simp only [hnm, decide_eq_true_eq, castN] at h3; omega
      have hk60 : n < 60 := by omega
      have hsn := hsA n (by omega)
      have h38n := h38 n hn'
      have hcn := hall n hn'
      have htg := tL_get L hk60
      rw [hcn] at htg
      clear hall hsA h38 hcn
      generalize sAt st n = s at *
      have h36 := h36 s
      have h37 := h37 s 7
      clear h35 h22
      generalize classV s ⟨d1, d2, d3, d4⟩ cs = cv at *
      generalize classB s ⟨d1, d2, d3, d4⟩ cs = cb at *
      generalize ho : ownN (ForM.mk l m).nodes (n : Int) = o at *
      obtain ⟨c1, c2, c3, c4, c5⟩ := cv
      obtain ⟨s1, s2, s3, s4⟩ := s
      generalize hearsC ⟨c1, c2, c3, c4, c5⟩ 7 = wh at *
      simp only at htg
      obtain ⟨q, hq⟩ : ∃ q, ((((cb && c1) && decide (s1 = 3)) && !decide (o = -1)) && wh) = q := ⟨_, rfl⟩
      rw [hq] at htg
      cases q with
      | true =>
        obtain ⟨⟨⟨⟨g1, g2⟩, g3⟩, g4⟩, g5⟩ : (((cb = true ∧ c1 = true) ∧ s1 = 3) ∧ ¬ o = -1) ∧ wh = true := by simpa using hq
        change (tL L)[n]? = some 1 at htg
        subst g1 g2 g5
        (have fct := And.intro g3 ((eq_false g4)); (repeat' (first
    | refine gF ?_
    | ((first
      | (first | refine IdxK.mk n (eState ⟨s1, s2, s3, s4⟩) rfl (state_get hsn) ?_)
      | ((with_reducible show LtK _ _ _ _ _); refine LtK.mk n rfl hk60 ?_)
      | ((with_reducible show ElemK _ _ _ _ _); first | refine ElemK.mk (eInt 1) (by first | exact int_get htg | (rw [Nat.zero_add]; exact int_get htg)) ?_ | refine ElemK.mk _ rfl ?_)
      | ((with_reducible show CallK _ _ 36 _ _ _ _); refine CallK.val [] h36 c36 ⟨⟨rfl, rfl, rfl, rfl, trivial⟩, ⟨rfl, rfl, rfl, rfl, trivial⟩, rfl, trivial⟩ rfl rfl rfl ?_)
      | ((with_reducible show CallK _ _ 37 _ _ _ _); refine CallK.lit [] h37 c37 ⟨⟨rfl, rfl, rfl, rfl, rfl, trivial⟩, rfl, trivial⟩ rfl rfl ?_)
      | ((with_reducible show CallK _ _ 38 _ _ _ _); refine CallK.lit [] h38n c38 ⟨⟨rfl, rfl, trivial⟩, rfl, trivial⟩ rfl rfl ?_)
      | ((with_reducible show DrawK _ _ _ _); refine dK ?_)) <;> with_reducible refine wK ?_)
    | ((with_reducible show (_ ∧ _) ∧ _ ∧ _); (refine eK ?_ ?_ <;> with_reducible repeat' (first | exact trivial | (show _ ∧ _; refine aK ?_ ?_)))))); all_goals clear fct)
        refine NextK.mk (n + 1) (by omega) (by omega) ?_
        (refine fK ?_; (with_reducible repeat' (first | exact trivial | (show _ ∧ _; refine aK ?_ ?_))); (all_goals try rfl))
        all_goals first
          | exact ⟨.refl rfl, rfl⟩
          | exact ⟨.refl (noRef_ints _), noRef_ints _⟩
          | (simp; done)
          | trace_state
      | false =>
        change (tL L)[n]? = some 0 at htg
        have h5 := fiveR hq
        clear hq
        rcases h5 with h5 | h5 | h5 | h5 | h5
        all_goals
          (have fct := h5; (repeat' (first
    | refine gF ?_
    | ((first
      | (first | refine IdxK.mk n (eState ⟨s1, s2, s3, s4⟩) rfl (state_get hsn) ?_)
      | ((with_reducible show LtK _ _ _ _ _); refine LtK.mk n rfl hk60 ?_)
      | ((with_reducible show ElemK _ _ _ _ _); first | refine ElemK.mk (eInt 0) (by first | exact int_get htg | (rw [Nat.zero_add]; exact int_get htg)) ?_ | refine ElemK.mk _ rfl ?_)
      | ((with_reducible show CallK _ _ 36 _ _ _ _); refine CallK.val [] h36 c36 ⟨⟨rfl, rfl, rfl, rfl, trivial⟩, ⟨rfl, rfl, rfl, rfl, trivial⟩, rfl, trivial⟩ rfl rfl rfl ?_)
      | ((with_reducible show CallK _ _ 37 _ _ _ _); refine CallK.lit [] h37 c37 ⟨⟨rfl, rfl, rfl, rfl, rfl, trivial⟩, rfl, trivial⟩ rfl rfl ?_)
      | ((with_reducible show CallK _ _ 38 _ _ _ _); refine CallK.lit [] h38n c38 ⟨⟨rfl, rfl, trivial⟩, rfl, trivial⟩ rfl rfl ?_)
      | ((with_reducible show DrawK _ _ _ _); refine dK ?_)) <;> with_reducible refine wK ?_)
    | ((with_reducible show (_ ∧ _) ∧ _ ∧ _); (refine eK ?_ ?_ <;> with_reducible repeat' (first | exact trivial | (show _ ∧ _; refine aK ?_ ?_)))))); all_goals clear fct)
          refine NextK.mk (n + 1) (by omega) (by omega) ?_
          (refine fK ?_; (with_reducible repeat' (first | exact trivial | (show _ ∧ _; refine aK ?_ ?_))); (all_goals try rfl))
          all_goals first
            | exact ⟨.refl rfl, rfl⟩
            | exact ⟨.refl (noRef_ints _), noRef_ints _⟩
            | (simp; done)
            | trace_state
    · have hjl : n = l.length := by simp only [hnm, decide_eq_false_iff_not, castN] at h3; omega
      subst hjl
      repeat' (first
    | refine gK ?_
    | (((with_reducible show DrawK _ _ _ _); refine dK ?_) <;> with_reducible refine wK ?_)
    | ((with_reducible show (_ ∧ _) ∧ _ ∧ _); (refine eK ?_ ?_ <;> with_reducible repeat' (first | exact trivial | (show _ ∧ _; refine aK ?_ ?_)))))
      all_goals first | rfl | trace_state
end Go.Proofs.Heir
