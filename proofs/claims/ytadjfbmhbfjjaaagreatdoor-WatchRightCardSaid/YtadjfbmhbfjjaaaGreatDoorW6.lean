/- Models, plain laws and contracts of functions of the given program; conditions as stated in each theorem. By an AI agent. -/
import Derived.Test.YtadjfbmhbfjjaaaGreatDoorW5
import Derived.Test.YtadjfbmhbfjjaaaGreatDoorW4
import Derived.Laws.StructEq
import Derived.Tactics
import Derived.Laws.Runes
section
set_option linter.unusedSimpArgs false
set_option linter.unusedVariables false
namespace Go.Proofs.Heir
open Go Go.Am Go.RowKit Go.Lib
set_option maxRecDepth 100000
set_option maxHeartbeats 8000000
structure OpM where
  kind : Int
  a : Int
  b : Int
  c : Int
  s : ByteArray
  t : ByteArray
  must : Bool
  deriving DecidableEq
@[reducible] def eOp (x : OpM) : AV := .agg [eInt x.kind, eInt x.a, eInt x.b, eInt x.c, eStr x.s, eStr x.t, eBool x.must]
def oOp (x : OpM) : AV := eOp x
@[reducible] def eOps (l : List OpM) : AV := .sl 7 (l.map oOp)
structure HookM where
  kind : Int
  prog : List OpM
  deriving DecidableEq
@[reducible] def eHook (x : HookM) : AV := .agg [eInt x.kind, eOps x.prog]
def oHook (x : HookM) : AV := eHook x
@[reducible] def eHooks (l : List HookM) : AV := .sl 2 (l.map oHook)
structure ClassM where
  form : Bool
  watch : List ByteArray
  peek : List OpM
  make : List OpM
  hooks : List HookM
  deriving DecidableEq
@[reducible] def eClass (x : ClassM) : AV := .agg [eBool x.form, eStrs x.watch, eOps x.peek, eOps x.make, eHooks x.hooks]
def oClass (x : ClassM) : AV := eClass x
@[reducible] def eClasses (l : List ClassM) : AV := .sl 5 (l.map oClass)
structure StateM where
  phase : Int
  df : Int
  owner : Int
  barred : Bool
  deriving DecidableEq
@[reducible] def eState (x : StateM) : AV := .agg [eInt x.phase, eInt x.df, eInt x.owner, eBool x.barred]
def oState (x : StateM) : AV := eState x
@[reducible] def eStates (l : List StateM) : AV := .sl 4 (l.map oState)
structure NoteM where
  kind : Int
  node : Int
  src : Int
  dst : Int
  name : ByteArray
  had : Bool
  has : Bool
  old : ByteArray
  new : ByteArray
  deriving DecidableEq
@[reducible] def eNote (x : NoteM) : AV := .agg [eInt x.kind, eInt x.node, eInt x.src, eInt x.dst, eStr x.name, eBool x.had, eBool x.has, eStr x.old, eStr x.new]
def oNote (x : NoteM) : AV := eNote x
@[reducible] def eNotes (l : List NoteM) : AV := .sl 9 (l.map oNote)
structure TodoM where
  kind : Int
  df : Int
  name : ByteArray
  had : Bool
  has : Bool
  old : ByteArray
  new : ByteArray
  src : Int
  dst : Int
  on : Bool
  deriving DecidableEq
@[reducible] def eTodo (x : TodoM) : AV := .agg [eInt x.kind, eInt x.df, eStr x.name, eBool x.had, eBool x.has, eStr x.old, eStr x.new, eInt x.src, eInt x.dst, eBool x.on]
def noTodo : TodoM := ⟨0, 0, ⟨#[]⟩, false, false, ⟨#[]⟩, ⟨#[]⟩, 0, 0, false⟩
structure DueN where
  node : Int
  todo : TodoM
  deriving DecidableEq
@[reducible] def eDueN (x : DueN) : AV := .agg [eInt x.node, eInt x.todo.kind, eInt x.todo.df, eStr x.todo.name, eBool x.todo.had, eBool x.todo.has, eStr x.todo.old, eStr x.todo.new, eInt x.todo.src, eInt x.todo.dst, eBool x.todo.on]
def oDueN (x : DueN) : AV := eDueN x
@[reducible] def eDuesN (l : List DueN) : AV := .sl 11 (l.map oDueN)
@[reducible] def rDuesN (l : List DueN) : MS := .live 11 (l.map oDueN) false
theorem noRef_duesN (l : List DueN) : noRefL (l.map oDueN) = true := noRefL_map oDueN (fun _ => rfl) l
theorem frz_duesN {m : ML} {fz : Nat → Bool} {tab : List (Nat × Nat)} {n t len : Nat} {ro : Bool} {rows : List AV} {l : List DueN} (h1 : lkM m t = .live 11 rows ro) (h2 : fz t = true) (h3 : rows = l.map oDueN) (h4 : len = l.length) : FrzK m fz (MF tab fz m n) (eDuesN l) t 0 len := by
  subst h3; subst h4
  have e : (l.map oDueN).length = l.length := List.length_map ..
  exact .cut h1 h2 (by omega) (by rw [List.drop_zero, List.take_of_length_le (by omega)]) (noRef_duesN l)
theorem op_get {l : List OpM} {k : Nat} {x : OpM} (h : l[k]? = some x) : (l.map oOp)[k]? = some (eOp x) := by rw [List.getElem?_map, h]; rfl
theorem hook_get {l : List HookM} {k : Nat} {x : HookM} (h : l[k]? = some x) : (l.map oHook)[k]? = some (eHook x) := by rw [List.getElem?_map, h]; rfl
theorem class_get {l : List ClassM} {k : Nat} {x : ClassM} (h : l[k]? = some x) : (l.map oClass)[k]? = some (eClass x) := by rw [List.getElem?_map, h]; rfl
theorem state_get {l : List StateM} {k : Nat} {x : StateM} (h : l[k]? = some x) : (l.map oState)[k]? = some (eState x) := by rw [List.getElem?_map, h]; rfl
theorem note_get {l : List NoteM} {k : Nat} {x : NoteM} (h : l[k]? = some x) : (l.map oNote)[k]? = some (eNote x) := by rw [List.getElem?_map, h]; rfl
theorem dueN_get {l : List DueN} {k : Nat} {x : DueN} (h : l[k]? = some x) : (l.map oDueN)[k]? = some (eDueN x) := by rw [List.getElem?_map, h]; rfl
theorem noRef_ops (l : List OpM) : noRefL (l.map oOp) = true := noRefL_map oOp (fun _ => rfl) l
theorem noRef_hook (x : HookM) : noRef (oHook x) = true := by
  show noRef (.agg [eInt x.kind, .sl 7 (x.prog.map oOp)]) = true
  simp [noRef, noRefL, noRef_ops]
def hookAt (l : List HookM) (k : Int) : Option HookM := l.find? fun h => decide (h.kind = k)
def hooksT (l : List HookM) : List (Int × HookM) := l.reverse.foldl (fun t h => tput h.kind h t) []
theorem hooksT_get (k : Int) : ∀ l : List HookM, tget k (hooksT l) = hookAt l k
  | [] => rfl
  | h :: r => by
    have e : hooksT (h :: r) = tput h.kind h (hooksT r) := by unfold hooksT; rw [List.reverse_cons, List.foldl_append]; rfl
    rw [e, tget_put, hooksT_get k r]
    unfold hookAt
    rw [List.find?_cons]
    by_cases e : h.kind = k
    · rw [if_pos e, decide_eq_true e]
    · rw [if_neg e, decide_eq_false e]
def hearsC (c : ClassM) (k : Int) : Bool := (hookAt c.hooks k).isSome
def progC (c : ClassM) (k : Int) : List OpM := match hookAt c.hooks k with
  | some h => h.prog
  | none => []
def watchesC (c : ClassM) (s : ByteArray) : Bool := hearsC c 4 && hasW c.watch s
def classAt (s : StateM) (d : DeskM) (n : Nat) : Int := if 0 ≤ s.df then match d.defs[s.df.toNat]? with
    | some x => if 0 ≤ x.cls ∧ x.cls < n then x.cls else -1
    | none => -1
  else -1
def noClass : ClassM := ⟨false, [], [], [], []⟩
def classV (s : StateM) (d : DeskM) (cs : List ClassM) : ClassM := if 0 ≤ classAt s d cs.length then (cs[(classAt s d cs.length).toNat]?).getD noClass else noClass
def classB (s : StateM) (d : DeskM) (cs : List ClassM) : Bool := decide (0 ≤ classAt s d cs.length)
theorem classAt_cases (s : StateM) (d : DeskM) (n : Nat) : classAt s d n = -1 ∨ ∃ k : Nat, k < n ∧ classAt s d n = k := by
  unfold classAt
  split
  · split
    · split
      · rename_i h; exact .inr ⟨_, by omega, (Int.toNat_of_nonneg h.1).symm⟩
      · exact .inl rfl
    · exact .inl rfl
  · exact .inl rfl
structure ViewM where
  f : ForM
  states : List StateM
  desk : DeskM
  classes : List ClassM
@[reducible] def eView (v : ViewM) : AV := .agg [eNodes v.f.nodes, eInt v.f.most, eStates v.states, eDefs v.desk.defs, eWaits v.desk.waits, eInt v.desk.next, eBool v.desk.busy, eClasses v.classes]
def elemV (l : List NodeM) (n : Int) : Bool := thereN l n && decide ((nd l n).kind = 1)
def callT (x : NoteM) : TodoM := ⟨x.kind, 0, x.name, x.had, x.has, x.old, x.new, x.src, x.dst, false⟩
def asksV (f : ForM) (s : StateM) (d : DeskM) (cs : List ClassM) (x : NoteM) : TodoM × Bool :=
  if s.phase = 1 then (⟨9, fateF f x.node d, ⟨#[]⟩, false, false, ⟨#[]⟩, ⟨#[]⟩, 0, 0, false⟩, decide (x.kind = 1) && !decide (fateF f x.node d = -1))
  else if s.phase = 3 then
    if x.kind = 4 then (callT x, (classB s d cs && watchesC (classV s d cs) x.name) && hearsC (classV s d cs) x.kind)
    else if x.kind = 1 ∨ x.kind = 2 ∨ x.kind = 3 then (callT x, classB s d cs && hearsC (classV s d cs) x.kind)
    else (noTodo, false)
  else (noTodo, false)
end Go.Proofs.Heir
end
section
set_option linter.unusedSimpArgs false
set_option linter.unusedVariables false
namespace Go.Proofs.Heir
open Go Go.Am Go.RowKit Go.Shelf
set_option maxRecDepth 100000
set_option maxHeartbeats 8000000
theorem rows_box {Wn : Nat → Prop} {μ : Mu} {W : World} {wd : Nat} {rows : List AV} {b o : Nat} (h : Rep Wn μ W (.fptr (.sl wd rows) 0) (.pointer (some ⟨b, o, none⟩))) :
    ∃ ad cap, W.cell? ⟨b, o, none⟩ = some (.slice ad rows.length cap) ∧ rows.length ≤ cap ∧ ∀ (j : Nat) (r : AV), rows[j]? = some r → ∃ b2 o2 vs, ad = some ⟨b2, o2, none⟩ ∧ List.length vs = wd ∧ (∀ q v, vs[q]? = some v → W.cell? ⟨b2, o2 + j * wd + q, none⟩ = some v) ∧ ∀ (q : Nat) (c : AV) (v : Value), (cells r)[q]? = some c → vs[q]? = some v → Rep Wn μ W c v := by
  generalize hv : Value.pointer (some ⟨b, o, none⟩) = v at h
  cases h with
  | @fptr _ _ b' o' f h1 h2 h3 h4 h5 =>
    cases hv
    have k3 := h3 0 _ rfl
    have k4 := h4 0 _ rfl
    rw [Nat.add_zero] at k3
    rw [Nat.add_zero, k3]
    generalize f 0 = s at k4
    by_cases hne : rows = []
    · subst hne
      cases k4 with
      | slNil => exact ⟨_, _, rfl, Nat.zero_le _, fun j x h => by simp at h⟩
      | sl a1 a2 a3 a4 a5 a6 a7 a8 => subst a3; exact ⟨_, _, rfl, Nat.zero_le _, fun j x h => by simp at h⟩
    · cases k4 with
      | slNil => exact absurd rfl hne
      | @sl _ _ b2 o2 cap _ fv a1 a2 a3 a4 a5 a6 a7 a8 =>
        subst a3
        refine ⟨_, _, rfl, a4, fun j r hr => ⟨b2, o2, (List.range wd).map fun q => fv (j * wd + q), rfl, by simp, fun q v hv => ?_, fun q c v hc hv => ?_⟩⟩
        · have hqw : q < wd := by have := (List.getElem?_eq_some_iff.1 hv).1; simpa using this
          have hcl : (cells r).length = wd := a5 j _ hr
          obtain ⟨c, hc⟩ : ∃ c, (cells r)[q]? = some c := ⟨_, List.getElem?_eq_getElem (by omega)⟩
          have := a6 _ _ (flat_get (wd := wd) (fun i r hr => a5 i r hr) hr hc)
          rw [Nat.add_assoc, this]
          rw [List.getElem?_map, List.getElem?_range hqw] at hv
          simpa using hv
        · have hqw : q < wd := by have := (List.getElem?_eq_some_iff.1 hv).1; simpa using this
          rw [List.getElem?_map, List.getElem?_range hqw] at hv
          have hv' : fv (j * wd + q) = v := by simpa using hv
          rw [← hv']
          exact a7 _ _ (flat_get (wd := wd) (fun i r hr => a5 i r hr) hr hc)
theorem list2 {α : Type} : ∀ {l : List α}, l.length = 2 → ∃ a b, l = [a, b]
  | [a, b], _ => ⟨a, b, rfl⟩
theorem backH_it (l : List HookM) (hl : l.length ≤ 100000) : ItOK Tryz.prog 103 [.fptr (eHooks l) 0] l.length (fun k => [oInt ((l.length : Int) - 1 - k), eHook ((l.reverse[k]?).getD ⟨0, []⟩)]) := by
  intro vals y J Jx hJ hJm hJxm _ hY Wn w h0
  obtain ⟨⟨μ, hr⟩, _⟩ := hJ 0 Wn w h0
  obtain ⟨vb, us, rfl, hvb, hus⟩ := RepL.uncons hr
  obtain rfl := RepL.unnil hus
  obtain ⟨b, o, rfl⟩ : ∃ b o, vb = .pointer (some ⟨b, o, none⟩) := by cases hvb; exact ⟨_, _, rfl⟩
  have box : ∀ k Wn W, J k Wn W → ∃ μ ad cap, W.cell? ⟨b, o, none⟩ = some (.slice ad l.length cap) ∧ l.length ≤ cap ∧ ∀ (j : Nat) (x : HookM), l[j]? = some x → ∃ b2 o2 a n c, ad = some ⟨b2, o2, none⟩ ∧ W.cell? ⟨b2, o2 + j * 2, none⟩ = some (.int .i64 x.kind) ∧ W.cell? ⟨b2, o2 + j * 2 + 1, none⟩ = some (.slice a n c) ∧ Rep Wn μ W (eOps x.prog) (.slice a n c) := by
    intro k Wn W hJk
    obtain ⟨⟨μ, hr⟩, _⟩ := hJ k Wn W hJk
    obtain ⟨v1, us, e, hv1, _⟩ := RepL.uncons hr
    cases e
    obtain ⟨ad, cap, h1, h2, h3⟩ := rows_box hv1
    rw [List.length_map] at h1 h2
    refine ⟨μ, ad, cap, h1, h2, fun j x hx => ?_⟩
    obtain ⟨b2, o2, vs, e, hlen, hc, hrep⟩ := h3 j _ (hook_get hx)
    obtain ⟨v0, v1, rfl⟩ := list2 hlen
    have r0 := hrep 0 _ _ rfl rfl
    have r1 := hrep 1 _ _ rfl rfl
    have c0 := hc 0 _ rfl
    have c1 := hc 1 _ rfl
    obtain ⟨a, n, c, rfl⟩ := sl_val r1
    obtain rfl := r0.val
    exact ⟨b2, o2, a, n, c, e, c0, c1, r1⟩
  refine (callsIn_wide (n := 1)).1 ?_
  refine callsIn_of_wp Tryz.func103 rfl trivial ?_ rfl
  simp only [Tryz.ntmps103, List.size_toArray, List.length_cons, List.length_nil, Nat.reduceAdd, Nat.reduceSub, Array.replicate_succ, Array.replicate_zero, List.push_toArray, List.append_toArray, List.nil_append, List.cons_append]
  obtain ⟨μ0, ad, cap, hbx, hcap, hel⟩ := box 0 Wn w h0
  gi_wp2
  gi_loopw [3] (fun i wr => ∃ k : Nat, k ≤ l.length ∧ i = .int .i64 ((l.length : Int) - 1 - k) ∧ ∃ Wn, J k Wn wr) (fun i _ => (intOf i + 1).toNat)
  case atStart => exact ⟨0, Nat.zero_le _, by simp, Wn, h0⟩
  case round =>
    obtain ⟨k, hk, rfl, Wn', hJk⟩ := hrel
    obtain ⟨μ', ad', cap', hbx', hcap', hel'⟩ := box k Wn' wr hJk
    by_cases hlt : k < l.length
    · have hix : l.length - 1 - k < l.length := by omega
      obtain ⟨⟨x1, x2⟩, hx⟩ : ∃ x, l[l.length - 1 - k]? = some x := ⟨_, List.getElem?_eq_getElem hix⟩
      obtain ⟨b2, o2, pa, pn, pc, rfl, hc0, hc1, hrp⟩ := hel' _ _ hx
      simp only at hc0 hc1 hrp
      have hrev : (l.reverse[k]?).getD ⟨0, []⟩ = ⟨x1, x2⟩ := by
        rw [List.getElem?_reverse (by omega), hx]; rfl
      obtain ⟨fn, tmps, assign, body, hy, hR⟩ := hY k Wn' wr [.int .i64 ((l.length : Int) - 1 - k), .agg #[.int .i64 x1, .slice pa pn pc]] hlt hJk (fun Wn'' μ'' hrA => by
        rw [hrev]
        obtain ⟨vA, usA, eA, hvA, _⟩ := RepL.uncons hrA
        cases eA
        obtain ⟨adA, capA, hA1, hA2, hA3⟩ := rows_box hvA
        rw [List.length_map, hbx'] at hA1
        obtain ⟨bA, oA, vsA, eA, hlenA, hcA, hrepA⟩ := hA3 _ _ (hook_get hx)
        cases hA1
        cases eA
        obtain ⟨w0, w1, rfl⟩ := list2 hlenA
        have c1 := hcA 1 _ rfl
        rw [hc1] at c1
        cases c1
        refine .cons .lit (.cons (Rep.agg (vs := [.int .i64 x1, .slice pa pn pc]) rfl ?_) .nil)
        rintro (_ | _ | j) c v hc hv
        · cases hc; cases hv; exact .lit
        · cases hc; cases hv; exact hrepA 1 _ _ rfl rfl
        · simp at hv)
      have hz : ((l.length : Int) - 1 - k).toNat = l.length - 1 - k := by omega
      gi_wp2
      refine hR.mono ?_
      rintro e W3 (⟨rfl, Wn3, hJ3, _⟩ | ⟨rfl, hJx3⟩)
      · gi_wp2
        go_roundw
        case rel => exact ⟨k + 1, by omega, by congr 1; omega, Wn3, hJ3⟩
        case measure => simp [intOf]; omega
      · gi_wp2
        refine bodyPost_ret (results_none rfl _ _ _) rfl ?_
        exact ⟨⟨_, rfl⟩, .inr hJx3⟩
    · obtain rfl : k = l.length := by omega
      gi_wp2
      go_end0
      exact ⟨⟨_, rfl⟩, .inl ⟨_, hJk⟩⟩
end Go.Proofs.Heir
end
section
set_option linter.unusedSimpArgs false
set_option linter.unusedVariables false
namespace Go.Proofs.Heir
open Go Go.Am Go.RowKit Go.Lib
set_option maxRecDepth 100000
set_option maxHeartbeats 8000000
theorem frz_all {m : ML} {fz : Nat → Bool} {tab : List (Nat × Nat)} {n t len wd : Nat} {ro : Bool} {rows rows' : List AV} (h1 : lkM m t = .live wd rows ro) (h2 : fz t = true) (h3 : rows = rows') (h4 : len = rows'.length) (h5 : noRefL rows' = true) : FrzK m fz (MF tab fz m n) (.sl wd rows') t 0 len := by
  subst h3; subst h4
  exact .cut h1 h2 (by omega) (by rw [List.drop_zero, List.take_of_length_le (by omega)]) h5
theorem f82_ok (l : List HookM) : FnOK Tryz.prog 82 [] [eHooks l] [] (.clo (.func 103) [] [.fptr (eHooks l) 0]) := by
  refine FnOK.startC (rvs := [.tmp 2]) G G_good Tryz.func82 rfl Tryz.ntmps82 rfl rfl ?_; with_reducible refine wD ?_
  refine ⟨⟨rfl, rfl⟩, ⟨rfl, trivial, ⟨_, _, _, _, _, rfl, rfl, rfl, rfl, rfl, rfl⟩, trivial⟩, ?_⟩
  exact trivial
theorem one_ops (l : List OpM) : oneL (flat (l.map oOp)) = true := oneL_map oOp (fun _ => rfl) l
theorem f56_ok (l : List OpM) (hl : l.length ≤ 100000) : FnOK Tryz.prog 56 [] [eOps l] [] (eOps l) := by
  have hlm : (l.map oOp).length = l.length := List.length_map ..
  refine FnOK.startC (rvs := [.tmp 2]) G G_good Tryz.func56 rfl Tryz.ntmps56 rfl rfl ?_; with_reducible refine wD ?_
  refine GuessK.mk (fun h => ?_) (fun _ => ?_) <;> with_reducible refine wK ?_
  · obtain rfl : l = [] := by simpa using h
    (refine eK ?_ ?_ <;> with_reducible repeat' (first | exact trivial | (show _ ∧ _; refine aK ?_ ?_)))
    all_goals first | rfl | trivial | exact .inr (.inr ⟨_, rfl⟩)
  · refine AppK.mk [] (l.map oOp) ⟨rfl, rfl, rfl⟩ ⟨rfl, rfl, rfl⟩ (one_ops l) (by simp; omega) (by simp; omega) ?_; with_reducible refine wK ?_
    (refine eK ?_ ?_ <;> with_reducible repeat' (first | exact trivial | (show _ ∧ _; refine aK ?_ ?_)))
    all_goals exact frz_all rfl rfl rfl rfl (noRef_ops l)
@[reducible] def rHooksT (t : List (Int × HookM)) : MS := .live 2 (tRows vInt oHook t) false
theorem noRef_hookT (t : List (Int × HookM)) : noRefL (tRows vInt oHook t) = true := by
  rw [noRefL_iff]; intro x hx
  obtain ⟨a, _, rfl⟩ := List.mem_map.1 hx
  show noRef (.agg [.lit (vInt a.1), oHook a.2]) = true
  simp [noRef, noRefL, noRef_hook]
theorem hookT_outs (t : List (Int × HookM)) : okOuts [rHooksT t] := by
  refine ⟨Wide.of_mem fun r hr => ?_, noRef_hookT _, trivial⟩
  obtain ⟨p, _, rfl⟩ := List.mem_map.1 hr
  rfl
theorem map99 : MapTy Tryz.prog 99 (.int .i64) (.agg #[.int .i64 0, .slice none 0 0]) := ⟨3, 97, by kernel_rfl, by kernel_rfl, fun w => Tryz.zeroValue97 w⟩
def hooksK (l : List HookM) (k : Nat) : List (Int × HookM) := (l.reverse.take k).foldl (fun t h => tput h.kind h t) []
theorem hooksK_all (l : List HookM) : hooksK l l.length = hooksT l := by unfold hooksK hooksT; rw [List.take_of_length_le (by simp)]
theorem hooksK_step {l : List HookM} {k : Nat} {h : HookM} (hh : l.reverse[k]? = some h) : hooksK l (k + 1) = tput h.kind h (hooksK l k) := by
  unfold hooksK
  rw [List.take_add_one, hh, List.foldl_append]; rfl
theorem hooksK_len (l : List HookM) : ∀ k, (hooksK l k).length ≤ k
  | 0 => Nat.le_refl _
  | k + 1 => by
    have h := hooksK_len l k
    cases e : l.reverse[k]? with
    | none =>
      have : hooksK l (k + 1) = hooksK l k := by unfold hooksK; rw [List.take_add_one, e]; simp
      rw [this]; omega
    | some x =>
      rw [hooksK_step e, tput_length]
      split <;> omega
theorem f53_ok (c : ClassM) (hc : c.hooks.length ≤ 100000) : FnOK Tryz.prog 53 [] [eClass c] [rHooksT (hooksT c.hooks)] (.mapr 0) := by
  obtain ⟨c1, c2, c3, c4, c5⟩ := c
  simp only at hc ⊢
  refine FnOK.startC (rvs := [.tmp 2]) G G_good Tryz.func53 rfl Tryz.ntmps53 rfl rfl ?_; with_reducible refine wD ?_
  refine CallK.val [] (f82_ok c5) c82 ⟨rfl, trivial⟩ rfl rfl rfl ?_; with_reducible refine wK ?_
  repeat' (first
    | refine gK ?_
    | ((with_reducible show (_ ∧ _) ∧ _ ∧ _); (refine eK ?_ ?_ <;> with_reducible repeat' (first | exact trivial | (show _ ∧ _; refine aK ?_ ?_)))))
  refine LoopK.range G G_good 2 [(1, .ptr 1 0 0), (3, .ptr 0 0 0), (9, .clo (.func 103) [] [.fptr (eHooks c5) 0])]
    (fun k => [(0, .live 1 [.mapr 61] false), (1, .live 5 [eClass ⟨c1, c2, c3, c4, c5⟩] false), (61, rHooksT (hooksK c5 k))])
    (backH_it c5 hc) c103 ?_ rfl ⟨⟨rfl, rfl⟩, rfl⟩ (fun _ _ => rfl) (fun _ _ => rfl) ⟨⟨rfl, rfl⟩, rfl, rfl⟩ ?_ ?_
  · (refine fK ?_; (with_reducible repeat' (first | exact trivial | (show _ ∧ _; refine aK ?_ ?_))); (all_goals try rfl))
    · exact ⟨.refl rfl, rfl⟩
    · exact ⟨.refl rfl, rfl⟩
  · intro k hk
    obtain ⟨⟨x1, x2⟩, hx⟩ : ∃ x, c5.reverse[k]? = some x := ⟨_, List.getElem?_eq_getElem (by simpa using hk)⟩
    rw [hx, Option.getD_some]
    have hst := hooksK_step hx
    have hle := hooksK_len c5 k
    with_reducible refine wK ?_
    refine BodyK.mk rfl ?_; with_reducible refine wK ?_
    repeat' (first
    | refine gK ?_
    | ((with_reducible show (_ ∧ _) ∧ _ ∧ _); (refine eK ?_ ?_ <;> with_reducible repeat' (first | exact trivial | (show _ ∧ _; refine aK ?_ ?_)))))
    refine PutK.tab vInt oHook (hooksK c5 k) (k := x1) ⟨x1, x2⟩ map99 rfl key_int inj_int (by unfold maxLen; omega) rfl ?_; with_reducible refine wK ?_
    simp only at hst
    rw [← hst]
    repeat' (first
    | refine gK ?_
    | ((with_reducible show (_ ∧ _) ∧ _ ∧ _); (refine eK ?_ ?_ <;> with_reducible repeat' (first | exact trivial | (show _ ∧ _; refine aK ?_ ?_)))))
    refine TurnK.mk ?_
    (refine fK ?_; (with_reducible repeat' (first | exact trivial | (show _ ∧ _; refine aK ?_ ?_))); (all_goals try rfl))
    · exact ⟨.refl rfl, rfl⟩
    · exact ⟨.refl (noRef_hookT _), noRef_hookT _⟩
  · with_reducible refine wK ?_
    rw [hooksK_all]
    (refine eK ?_ ?_ <;> with_reducible repeat' (first | exact trivial | (show _ ∧ _; refine aK ?_ ?_)))
    exact MFL_refl (noRef_hookT _)
end Go.Proofs.Heir
end
section
set_option linter.unusedSimpArgs false
set_option linter.unusedVariables false
namespace Go.Proofs.Heir
open Go Go.Am Go.RowKit Go.Lib
set_option maxRecDepth 100000
set_option maxHeartbeats 8000000
theorem bytes_inj {a b : ByteArray} (h : a.toList = b.toList) : a = b := by
  rw [ByteArray.toList_eq, ByteArray.toList_eq] at h
  cases a; cases b
  simp only [ByteArray.mk.injEq]
  exact Array.toList_inj.1 h
@[reducible] def vOp (a : OpM) : Value := .agg #[.int .i64 a.kind, .int .i64 a.a, .int .i64 a.b, .int .i64 a.c, .string a.s, .string a.t, .bool a.must]
def opEq (t u : OpM) : Bool := (t.kind == u.kind) && ((t.a == u.a) && ((t.b == u.b) && ((t.c == u.c) && ((t.s.toList == u.s.toList) && ((t.t.toList == u.t.toList) && (t.must == u.must))))))
theorem opEq_iff (t u : OpM) : opEq t u = decide (t = u) := by
  rw [Bool.eq_iff_iff, decide_eq_true_eq]
  unfold opEq
  simp only [Bool.and_eq_true, beq_iff_eq]
  constructor
  · rintro ⟨a, b, c, d, e, f, g⟩
    cases t; cases u
    simp only at *
    subst a; subst b; subst c; subst d; subst g
    rw [bytes_inj e, bytes_inj f]
  · rintro rfl; simp
theorem op_eq (t u : OpM) (w : World) : (Op.equalIn 10000 95 (vOp t) (vOp u)).run Tryz.prog w = .ok (decide (t = u)) w := by
  have hS : Tryz.prog.underlying 95 = some (.struct (Tryz.prog.fieldsOf 95)) := by kernel_rfl
  have hp : Tryz.prog.stoodInHeld 95 = false := by kernel_rfl
  have u3 := Tryz.underlying3
  have a3 := Tryz.isAgg3
  have z3 := Tryz.sizeOf3
  have u4 := Tryz.underlying4
  have a4 := Tryz.isAgg4
  have z4 := Tryz.sizeOf4
  have u9 := Tryz.underlying9
  have a9 := Tryz.isAgg9
  have z9 := Tryz.sizeOf9
  rw [← opEq_iff, show (10000 : Nat) = 9999 + 1 from rfl, run_equalIn_agg w 9999 95 _ _ hS hp]
  simp only [Program.fieldsOf, Tryz.underlying95]
  go_simp
  clear hS hp u3 a3 z3 u4 a4 z4 u9 a9 z9
  unfold opEq
  by_cases h1 : t.kind = u.kind <;> by_cases h2 : t.a = u.a <;> by_cases h3 : t.b = u.b <;> simp [h1, h2, h3]
  by_cases h1 : t.c = u.c <;> by_cases h2 : t.s.toList = u.s.toList <;> by_cases h3 : t.t.toList = u.t.toList <;> simp [h1, h2, h3]
  by_cases h1 : t.must = u.must <;> simp [h1]
theorem op_neq (a b : OpM) (y z : Operand) (w : World) : ((do eqGuard .neq 95 y z (vOp a) (vOp b); binOp .neq 95 (vOp a) (vOp b) : Sem Value)).run Tryz.prog w = .ok (.bool (!decide (a = b))) w := by
  rw [Sem.run_bind, run_eqGuard_agg w .neq 95 y z _ _ (by kernel_rfl), Result.andThen_ok, run_neq_struct, op_eq]; rfl
def todoEq (t u : TodoM) : Bool := (t.kind == u.kind) && ((t.df == u.df) && ((t.name.toList == u.name.toList) && ((t.had == u.had) && ((t.has == u.has) && ((t.old.toList == u.old.toList) && ((t.new.toList == u.new.toList) && ((t.src == u.src) && ((t.dst == u.dst) && (t.on == u.on)))))))))
theorem todoEq_iff (t u : TodoM) : todoEq t u = decide (t = u) := by
  rw [Bool.eq_iff_iff, decide_eq_true_eq]
  unfold todoEq
  simp only [Bool.and_eq_true, beq_iff_eq]
  constructor
  · rintro ⟨a, b, c, d, e, f, g, h, i, j⟩
    cases t; cases u
    simp only at *
    subst a; subst b; subst d; subst e; subst h; subst i; subst j
    rw [bytes_inj c, bytes_inj f, bytes_inj g]
  · rintro rfl; simp
@[reducible] def vTodo (t : TodoM) : Value := .agg #[.int .i64 t.kind, .int .i64 t.df, .string t.name, .bool t.had, .bool t.has, .string t.old, .string t.new, .int .i64 t.src, .int .i64 t.dst, .bool t.on]
theorem todoN_eq (n : Nat) (t u : TodoM) (w : World) : (Op.equalIn (n + 2) 72 (vTodo t) (vTodo u)).run Tryz.prog w = .ok (decide (t = u)) w := by
  have hS : Tryz.prog.underlying 72 = some (.struct (Tryz.prog.fieldsOf 72)) := by kernel_rfl
  have hp : Tryz.prog.stoodInHeld 72 = false := by kernel_rfl
  have u3 := Tryz.underlying3
  have a3 := Tryz.isAgg3
  have z3 := Tryz.sizeOf3
  have u4 := Tryz.underlying4
  have a4 := Tryz.isAgg4
  have z4 := Tryz.sizeOf4
  have u9 := Tryz.underlying9
  have a9 := Tryz.isAgg9
  have z9 := Tryz.sizeOf9
  rw [← todoEq_iff, show n + 2 = (n + 1) + 1 from rfl, run_equalIn_agg w (n + 1) 72 _ _ hS hp]
  simp only [Program.fieldsOf, Tryz.underlying72]
  go_simp
  clear hS hp u3 a3 z3 u4 a4 z4 u9 a9 z9
  unfold todoEq
  by_cases h1 : t.kind = u.kind <;> by_cases h2 : t.df = u.df <;> by_cases h3 : t.name.toList = u.name.toList <;> simp [h1, h2, h3]
  by_cases h1 : t.had = u.had <;> by_cases h2 : t.has = u.has <;> by_cases h3 : t.old.toList = u.old.toList <;> simp [h1, h2, h3]
  by_cases h1 : t.new.toList = u.new.toList <;> by_cases h2 : t.src = u.src <;> by_cases h3 : t.dst = u.dst <;> simp [h1, h2, h3]
  by_cases h1 : t.on = u.on <;> simp [h1]
@[reducible] def vDueN (a : DueN) : Value := .agg #[.int .i64 a.node, .int .i64 a.todo.kind, .int .i64 a.todo.df, .string a.todo.name, .bool a.todo.had, .bool a.todo.has, .string a.todo.old, .string a.todo.new, .int .i64 a.todo.src, .int .i64 a.todo.dst, .bool a.todo.on]
theorem dueN_eq (a b : DueN) (w : World) : (Op.equalIn 10000 74 (vDueN a) (vDueN b)).run Tryz.prog w = .ok (decide (a = b)) w := by
  have hS : Tryz.prog.underlying 74 = some (.struct (Tryz.prog.fieldsOf 74)) := by kernel_rfl
  have hp : Tryz.prog.stoodInHeld 74 = false := by kernel_rfl
  have ht := todoN_eq 9997 a.todo b.todo w
  have u72 := Tryz.underlying72
  have a72 := Tryz.isAgg72
  have z72 := Tryz.sizeOf72
  have u3 := Tryz.underlying3
  have a3 := Tryz.isAgg3
  have z3 := Tryz.sizeOf3
  have e : decide (a = b) = ((a.node == b.node) && todoEq a.todo b.todo) := by
    obtain ⟨a1, a2⟩ := a
    obtain ⟨b1, b2⟩ := b
    rw [todoEq_iff]
    simp only [DueN.mk.injEq]
    by_cases h1 : a1 = b1 <;> by_cases h2 : a2 = b2 <;> simp [h1, h2]
  rw [e, show (10000 : Nat) = 9999 + 1 from rfl, run_equalIn_agg w 9999 74 _ _ hS hp]
  simp only [Program.fieldsOf, Tryz.underlying74]
  simp only [Nat.reduceAdd] at ht
  go_simp
  clear hS hp
  generalize a.todo = t at ht ⊢
  generalize b.todo = u at ht ⊢
  unfold todoEq
  by_cases h0 : a.node = b.node <;> simp [h0]
  trace_state
  by_cases h1 : t.kind = u.kind <;> by_cases h2 : t.df = u.df <;> by_cases h3 : t.name.toList = u.name.toList <;> simp [h1, h2, h3]
  by_cases h1 : t.had = u.had <;> by_cases h2 : t.has = u.has <;> by_cases h3 : t.old.toList = u.old.toList <;> simp [h1, h2, h3]
  by_cases h1 : t.new.toList = u.new.toList <;> by_cases h2 : t.src = u.src <;> by_cases h3 : t.dst = u.dst <;> simp [h1, h2, h3]
  by_cases h1 : t.on = u.on <;> simp [h1]
theorem dueN_neq (a b : DueN) (y z : Operand) (w : World) : ((do eqGuard .neq 74 y z (vDueN a) (vDueN b); binOp .neq 74 (vDueN a) (vDueN b) : Sem Value)).run Tryz.prog w = .ok (.bool (!decide (a = b))) w := by
  rw [Sem.run_bind, run_eqGuard_agg w .neq 74 y z _ _ (by kernel_rfl), Result.andThen_ok, run_neq_struct, dueN_eq]; rfl
theorem dueN_eql (a b : DueN) (y z : Operand) (w : World) : ((do eqGuard .eql 74 y z (vDueN a) (vDueN b); binOp .eql 74 (vDueN a) (vDueN b) : Sem Value)).run Tryz.prog w = .ok (.bool (decide (a = b))) w := by
  rw [Sem.run_bind, run_eqGuard_agg w .eql 74 y z _ _ (by kernel_rfl), Result.andThen_ok, run_eql_struct, dueN_eq]; rfl
theorem todoN_eql (a b : TodoM) (y z : Operand) (w : World) : ((do eqGuard .eql 72 y z (vTodo a) (vTodo b); binOp .eql 72 (vTodo a) (vTodo b) : Sem Value)).run Tryz.prog w = .ok (.bool (decide (a = b))) w := by
  rw [Sem.run_bind, run_eqGuard_agg w .eql 72 y z _ _ (by kernel_rfl), Result.andThen_ok, run_eql_struct, todoN_eq 9998]; rfl
end Go.Proofs.Heir
end
section
set_option linter.unusedSimpArgs false
set_option linter.unusedVariables false
namespace Go.Proofs.Heir
open Go Go.Am Go.RowKit Go.Lib
set_option maxRecDepth 100000
set_option maxHeartbeats 8000000
theorem f25_ok (c : ClassM) (hc : c.hooks.length ≤ 100000) (k : Int) : FnOK Tryz.prog 25 [] [eClass c, eInt k] [] (eBool (hearsC c k)) := by
  have h53 := f53_ok c hc
  have hg := hooksT_get k c.hooks
  unfold hearsC
  rw [← hg]
  obtain ⟨c1, c2, c3, c4, c5⟩ := c
  simp only at h53 ⊢
  refine FnOK.startC (rvs := [.tmp 4]) G G_good Tryz.func25 rfl Tryz.ntmps25 rfl rfl ?_; with_reducible refine wD ?_
  refine CallK.new 91 [] h53 c53 ⟨⟨rfl, rfl, rfl, rfl, rfl, trivial⟩, trivial⟩ rfl rfl rfl (hookT_outs _) rfl ?_; with_reducible refine wK ?_
  refine LookK.tab vInt oHook (hooksT c5) (k := k) (zv := .agg [eInt 0, .lit (.slice none 0 0)]) map99 ⟨_, _, rfl⟩ key_int inj_int rfl rfl (fun x hx => ?_) (fun hx => ?_)
  · rw [show oHook x = eHook x from rfl, hx]
    obtain ⟨x1, x2⟩ := x
    with_reducible refine wK ?_
    repeat' (first
    | refine gK ?_
    | ((with_reducible show (_ ∧ _) ∧ _ ∧ _); (refine eK ?_ ?_ <;> with_reducible repeat' (first | exact trivial | (show _ ∧ _; refine aK ?_ ?_)))))
    all_goals rfl
  · rw [hx]
    with_reducible refine wK ?_
    repeat' (first
    | refine gK ?_
    | ((with_reducible show (_ ∧ _) ∧ _ ∧ _); (refine eK ?_ ?_ <;> with_reducible repeat' (first | exact trivial | (show _ ∧ _; refine aK ?_ ?_)))))
    all_goals rfl
theorem f30_ok (c : ClassM) (hc : c.hooks.length ≤ 100000) (hp : ∀ h ∈ c.hooks, h.prog.length ≤ 100000) (k : Int) : FnOK Tryz.prog 30 [] [eClass c, eInt k] [] (eOps (progC c k)) := by
  have h53 := f53_ok c hc
  have hg := hooksT_get k c.hooks
  have hm : ∀ x, hookAt c.hooks k = some x → x.prog.length ≤ 100000 := fun x hx => hp x (List.mem_of_find?_eq_some hx)
  unfold progC
  rw [← hg] at hm ⊢
  obtain ⟨c1, c2, c3, c4, c5⟩ := c
  simp only at h53 hm ⊢
  refine FnOK.startC (rvs := [.tmp 4]) G G_good Tryz.func30 rfl Tryz.ntmps30 rfl rfl ?_; with_reducible refine wD ?_
  refine CallK.new 61 [] h53 c53 ⟨⟨rfl, rfl, rfl, rfl, rfl, trivial⟩, trivial⟩ rfl rfl rfl (hookT_outs _) rfl ?_; with_reducible refine wK ?_
  refine LookK.tab vInt oHook (hooksT c5) (k := k) (zv := .agg [eInt 0, .lit (.slice none 0 0)]) map99 ⟨_, _, rfl⟩ key_int inj_int rfl rfl (fun x hx => ?_) (fun hx => ?_)
  · rw [show oHook x = eHook x from rfl]
    have h56 := f56_ok x.prog (hm x hx)
    rw [hx]
    obtain ⟨x1, x2⟩ := x
    simp only at h56 ⊢
    with_reducible refine wK ?_
    repeat' (first
    | refine gK ?_
    | (((with_reducible show CallK _ _ 56 _ _ _ _); refine CallK.val [] h56 c56 ⟨rfl, trivial⟩ rfl rfl rfl ?_) <;> with_reducible refine wK ?_)
    | ((with_reducible show (_ ∧ _) ∧ _ ∧ _); (refine eK ?_ ?_ <;> with_reducible repeat' (first | exact trivial | (show _ ∧ _; refine aK ?_ ?_)))))
  · rw [hx]
    have h56 := f56_ok [] (by simp)
    simp only
    with_reducible refine wK ?_
    repeat' (first
    | refine gK ?_
    | (((with_reducible show CallK _ _ 56 _ _ _ _); refine CallK.val [] h56 c56 ⟨.inr (.inr ⟨_, rfl⟩), trivial⟩ rfl rfl rfl ?_) <;> with_reducible refine wK ?_)
    | ((with_reducible show (_ ∧ _) ∧ _ ∧ _); (refine eK ?_ ?_ <;> with_reducible repeat' (first | exact trivial | (show _ ∧ _; refine aK ?_ ?_)))))
theorem f27_ok (c : ClassM) (hc : c.hooks.length ≤ 100000) (hw : c.watch.length ≤ 100000) (s : ByteArray) : FnOK Tryz.prog 27 [] [eClass c, eStr s] [] (eBool (watchesC c s)) := by
  have h25 := f25_ok c hc 4
  have h55 := f55_ok c.watch hw s
  unfold watchesC
  obtain ⟨c1, c2, c3, c4, c5⟩ := c
  simp only at h25 h55 ⊢
  refine FnOK.startC (rvs := [.tmp 4]) G G_good Tryz.func27 rfl Tryz.ntmps27 rfl rfl ?_; with_reducible refine wD ?_
  cases e1 : hearsC ⟨c1, c2, c3, c4, c5⟩ 4 <;> rw [e1] at h25
  · repeat' (first
    | refine gK ?_
    | (((with_reducible show CallK _ _ 25 _ _ _ _); refine CallK.lit [] h25 c25 ⟨⟨rfl, rfl, rfl, rfl, rfl, trivial⟩, rfl, trivial⟩ rfl rfl ?_) <;> with_reducible refine wK ?_)
    | ((with_reducible show (_ ∧ _) ∧ _ ∧ _); (refine eK ?_ ?_ <;> with_reducible repeat' (first | exact trivial | (show _ ∧ _; refine aK ?_ ?_)))))
    all_goals rfl
  · repeat' (first
    | refine gK ?_
    | ((first
      | ((with_reducible show CallK _ _ 25 _ _ _ _); refine CallK.lit [] h25 c25 ⟨⟨rfl, rfl, rfl, rfl, rfl, trivial⟩, rfl, trivial⟩ rfl rfl ?_)
      | ((with_reducible show CallK _ _ 55 _ _ _ _); refine CallK.lit [] h55 c55 ⟨rfl, rfl, trivial⟩ rfl rfl ?_)) <;> with_reducible refine wK ?_)
    | ((with_reducible show (_ ∧ _) ∧ _ ∧ _); (refine eK ?_ ?_ <;> with_reducible repeat' (first | exact trivial | (show _ ∧ _; refine aK ?_ ?_)))))
    all_goals rw [Bool.true_and]
theorem classV_no {s : StateM} {d : DeskM} {cs : List ClassM} (h : classAt s d cs.length = -1) : classV s d cs = noClass ∧ classB s d cs = false := by
  unfold classV classB
  rw [h]; exact ⟨rfl, rfl⟩
theorem classV_at {s : StateM} {d : DeskM} {cs : List ClassM} {k : Nat} {c : ClassM} (h : classAt s d cs.length = k) (hc : cs[k]? = some c) : classV s d cs = c ∧ classB s d cs = true := by
  unfold classV classB
  rw [h, if_pos (by omega), Int.toNat_natCast, hc]
  exact ⟨rfl, decide_eq_true (by omega)⟩
theorem class_cases (s : StateM) (d : DeskM) (cs : List ClassM) : (s.df < 0 ∧ classAt s d cs.length = -1) ∨ (¬ s.df < 0 ∧ (d.defs.length : Int) ≤ s.df ∧ classAt s d cs.length = -1) ∨
    ∃ (n : Nat) (x : DefM), s.df = n ∧ d.defs[n]? = some x ∧ (((x.cls < 0) ∧ classAt s d cs.length = -1) ∨ (¬ x.cls < 0 ∧ (cs.length : Int) ≤ x.cls ∧ classAt s d cs.length = -1) ∨ ∃ (m : Nat) (c : ClassM), x.cls = m ∧ cs[m]? = some c ∧ classAt s d cs.length = m) := by
  by_cases h1 : s.df < 0
  · exact .inl ⟨h1, by unfold classAt; rw [if_neg (by omega)]⟩
  obtain ⟨n, hn⟩ : ∃ n : Nat, s.df = n := ⟨_, (Int.toNat_of_nonneg (by omega)).symm⟩
  have e : classAt s d cs.length = match d.defs[n]? with
    | some x => if 0 ≤ x.cls ∧ x.cls < cs.length then x.cls else -1
    | none => -1 := by unfold classAt; rw [if_pos (by omega), hn, Int.toNat_natCast] <;> (cases d.defs[n]? <;> rfl)
  by_cases h2 : (d.defs.length : Int) ≤ s.df
  · exact .inr (.inl ⟨h1, h2, by rw [e, List.getElem?_eq_none (by omega)]⟩)
  obtain ⟨x, hx⟩ : ∃ x, d.defs[n]? = some x := ⟨_, List.getElem?_eq_getElem (by omega)⟩
  rw [hx] at e
  simp only at e
  refine .inr (.inr ⟨n, x, hn, hx, ?_⟩)
  by_cases h3 : x.cls < 0
  · exact .inl ⟨h3, by rw [e, if_neg (by omega)]⟩
  by_cases h4 : (cs.length : Int) ≤ x.cls
  · exact .inr (.inl ⟨h3, h4, by rw [e, if_neg (by omega)]⟩)
  obtain ⟨m, hm⟩ : ∃ m : Nat, x.cls = m := ⟨_, (Int.toNat_of_nonneg (by omega)).symm⟩
  exact .inr (.inr ⟨m, _, hm, List.getElem?_eq_getElem (by omega), by rw [e, if_pos (by omega), hm]⟩)
theorem f32_ok (s : StateM) (d : DeskM) (cs : List ClassM) : FnOK Tryz.prog 32 [] [eState s, eDesk d, eClasses cs] [] (.tup [eClass (classV s d cs), eBool (classB s d cs)]) := by
  have hd := (show (d.defs.map oDef).length = d.defs.length from List.length_map ..)
  have hcs := (show (cs.map oClass).length = cs.length from List.length_map ..)
  rcases class_cases s d cs with ⟨h1, h2⟩ | ⟨h1, h2, h3⟩ | ⟨n, ⟨x1, x2, x3⟩, hn, hx, ⟨h1, h2⟩ | ⟨h1, h2, h3⟩ | ⟨m, ⟨c1, c2, c3, c4, c5⟩, hm, hc, h1⟩⟩
  · rw [(classV_no h2).1, (classV_no h2).2]
    obtain ⟨s1, s2, s3, s4⟩ := s
    obtain ⟨d1, d2, d3, d4⟩ := d
    simp only at h1
    refine FnOK.startC (rvs := [.cell 6 51, .tmp 7]) G G_good Tryz.func32 rfl Tryz.ntmps32 rfl rfl ?_; with_reducible refine wD ?_
    (have fct := (eq_true h1); (repeat' (first
    | refine gF ?_
    | ((with_reducible show (_ ∧ _) ∧ _ ∧ _); (refine eK ?_ ?_ <;> with_reducible repeat' (first | exact trivial | (show _ ∧ _; refine aK ?_ ?_)))))); all_goals clear fct)
    all_goals first | rfl | exact .inr (.inr ⟨_, rfl⟩)
  · rw [(classV_no h3).1, (classV_no h3).2]
    obtain ⟨s1, s2, s3, s4⟩ := s
    obtain ⟨d1, d2, d3, d4⟩ := d
    simp only at h1 h2 hd
    refine FnOK.startC (rvs := [.cell 6 51, .tmp 7]) G G_good Tryz.func32 rfl Tryz.ntmps32 rfl rfl ?_; with_reducible refine wD ?_
    (have fct := And.intro (eq_false h1) (And.intro hd ((eq_true h2))); (repeat' (first
    | refine gF ?_
    | ((with_reducible show (_ ∧ _) ∧ _ ∧ _); (refine eK ?_ ?_ <;> with_reducible repeat' (first | exact trivial | (show _ ∧ _; refine aK ?_ ?_)))))); all_goals clear fct)
    all_goals first | rfl | exact .inr (.inr ⟨_, rfl⟩)
  · rw [(classV_no h2).1, (classV_no h2).2]
    obtain ⟨s1, s2, s3, s4⟩ := s
    obtain ⟨d1, d2, d3, d4⟩ := d
    simp only at h1 hn hx hd
    subst hn
    have hl := (List.getElem?_eq_some_iff.1 hx).1
    refine FnOK.startC (rvs := [.cell 6 51, .tmp 7]) G G_good Tryz.func32 rfl Tryz.ntmps32 rfl rfl ?_; with_reducible refine wD ?_
    (have fct := And.intro hd ((eq_true h1)); (repeat' (first
    | refine pF ?_
    | ((first
      | ((with_reducible show IfK _ _ _ _); (refine IfK.mk (fun hp => ?_) (fun hp => ?_) <;> (try simp only [castN, decide_eq_true_eq, decide_eq_false_iff_not, Bool.not_eq_true', Bool.not_eq_false', Decidable.not_not, Int.not_lt, Int.not_le] at hp)))
      | ((with_reducible show IdxK _ _ _ _ _); refine IdxK.mk n (eDef ⟨x1, x2, x3⟩) rfl (def_get hx) ?_)) <;> with_reducible refine wK ?_)
    | ((with_reducible show (_ ∧ _) ∧ _ ∧ _); (refine eK ?_ ?_ <;> with_reducible repeat' (first | exact trivial | (show _ ∧ _; refine aK ?_ ?_)))))); all_goals clear fct)
    all_goals first | rfl | exact .inr (.inr ⟨_, rfl⟩)
  · rw [(classV_no h3).1, (classV_no h3).2]
    obtain ⟨s1, s2, s3, s4⟩ := s
    obtain ⟨d1, d2, d3, d4⟩ := d
    simp only at h1 h2 hn hx hd
    subst hn
    have hl := (List.getElem?_eq_some_iff.1 hx).1
    refine FnOK.startC (rvs := [.cell 6 51, .tmp 7]) G G_good Tryz.func32 rfl Tryz.ntmps32 rfl rfl ?_; with_reducible refine wD ?_
    (have fct := And.intro hd (And.intro hcs (And.intro (eq_false h1) ((eq_true h2)))); (repeat' (first
    | refine pF ?_
    | ((first
      | ((with_reducible show IfK _ _ _ _); (refine IfK.mk (fun hp => ?_) (fun hp => ?_) <;> (try simp only [castN, decide_eq_true_eq, decide_eq_false_iff_not, Bool.not_eq_true', Bool.not_eq_false', Decidable.not_not, Int.not_lt, Int.not_le] at hp)))
      | ((with_reducible show IdxK _ _ _ _ _); refine IdxK.mk n (eDef ⟨x1, x2, x3⟩) rfl (def_get hx) ?_)) <;> with_reducible refine wK ?_)
    | ((with_reducible show (_ ∧ _) ∧ _ ∧ _); (refine eK ?_ ?_ <;> with_reducible repeat' (first | exact trivial | (show _ ∧ _; refine aK ?_ ?_)))))); all_goals clear fct)
    all_goals first | rfl | exact .inr (.inr ⟨_, rfl⟩)
  · rw [(classV_at h1 hc).1, (classV_at h1 hc).2]
    obtain ⟨s1, s2, s3, s4⟩ := s
    obtain ⟨d1, d2, d3, d4⟩ := d
    simp only at hm hn hx hd
    subst hn
    subst hm
    have hl := (List.getElem?_eq_some_iff.1 hx).1
    have hl2 := (List.getElem?_eq_some_iff.1 hc).1
    refine FnOK.startC (rvs := [.cell 6 51, .tmp 7]) G G_good Tryz.func32 rfl Tryz.ntmps32 rfl rfl ?_; with_reducible refine wD ?_
    (have fct := And.intro hd (hcs); (repeat' (first
    | refine pF ?_
    | ((first
      | ((with_reducible show IfK _ _ _ _); (refine IfK.mk (fun hp => ?_) (fun hp => ?_) <;> (try simp only [castN, decide_eq_true_eq, decide_eq_false_iff_not, Bool.not_eq_true', Bool.not_eq_false', Decidable.not_not, Int.not_lt, Int.not_le] at hp)))
      | ((with_reducible show IdxK _ _ _ _ _); first | refine IdxK.mk n (eDef ⟨x1, x2, (m : Int)⟩) rfl (def_get hx) ?_ | refine IdxK.mk m (eClass ⟨c1, c2, c3, c4, c5⟩) rfl (class_get hc) ?_)) <;> with_reducible refine wK ?_)
    | ((with_reducible show (_ ∧ _) ∧ _ ∧ _); (refine eK ?_ ?_ <;> with_reducible repeat' (first | exact trivial | (show _ ∧ _; refine aK ?_ ?_)))))); all_goals clear fct)
    all_goals trace_state
theorem f33_ok (s : StateM) (d : DeskM) (cs : List ClassM) : FnOK Tryz.prog 33 [] [eState s, eDesk d, eClasses cs] [] (eInt (classAt s d cs.length)) := by
  have hd := (show (d.defs.map oDef).length = d.defs.length from List.length_map ..)
  have hcs := (show (cs.map oClass).length = cs.length from List.length_map ..)
  rcases class_cases s d cs with ⟨h1, h2⟩ | ⟨h1, h2, h3⟩ | ⟨n, ⟨x1, x2, x3⟩, hn, hx, ⟨h1, h2⟩ | ⟨h1, h2, h3⟩ | ⟨m, ⟨c1, c2, c3, c4, c5⟩, hm, hc, h1⟩⟩
  · rw [h2]
    obtain ⟨s1, s2, s3, s4⟩ := s
    obtain ⟨d1, d2, d3, d4⟩ := d
    simp only at h1
    refine FnOK.startC (rvs := [.tmp 6]) G G_good Tryz.func33 rfl Tryz.ntmps33 rfl rfl ?_; with_reducible refine wD ?_
    (have fct := (eq_true h1); (repeat' (first
    | refine gF ?_
    | ((with_reducible show (_ ∧ _) ∧ _ ∧ _); (refine eK ?_ ?_ <;> with_reducible repeat' (first | exact trivial | (show _ ∧ _; refine aK ?_ ?_)))))); all_goals clear fct)
  · rw [h3]
    obtain ⟨s1, s2, s3, s4⟩ := s
    obtain ⟨d1, d2, d3, d4⟩ := d
    simp only at h1 h2 hd
    refine FnOK.startC (rvs := [.tmp 6]) G G_good Tryz.func33 rfl Tryz.ntmps33 rfl rfl ?_; with_reducible refine wD ?_
    (have fct := And.intro (eq_false h1) (And.intro hd ((eq_true h2))); (repeat' (first
    | refine gF ?_
    | ((with_reducible show (_ ∧ _) ∧ _ ∧ _); (refine eK ?_ ?_ <;> with_reducible repeat' (first | exact trivial | (show _ ∧ _; refine aK ?_ ?_)))))); all_goals clear fct)
  · rw [h2]
    obtain ⟨s1, s2, s3, s4⟩ := s
    obtain ⟨d1, d2, d3, d4⟩ := d
    simp only at h1 hn hx hd
    subst hn
    have hl := (List.getElem?_eq_some_iff.1 hx).1
    refine FnOK.startC (rvs := [.tmp 6]) G G_good Tryz.func33 rfl Tryz.ntmps33 rfl rfl ?_; with_reducible refine wD ?_
    (have fct := And.intro hd (And.intro hcs ((eq_true h1))); (repeat' (first
    | refine pF ?_
    | ((first
      | ((with_reducible show IfK _ _ _ _); (refine IfK.mk (fun hp => ?_) (fun hp => ?_) <;> (try simp only [castN, decide_eq_true_eq, decide_eq_false_iff_not, Bool.not_eq_true', Bool.not_eq_false', Decidable.not_not, Int.not_lt, Int.not_le] at hp)))
      | ((with_reducible show IdxK _ _ _ _ _); refine IdxK.mk n (eDef ⟨x1, x2, x3⟩) rfl (def_get hx) ?_)) <;> with_reducible refine wK ?_)
    | ((with_reducible show (_ ∧ _) ∧ _ ∧ _); (refine eK ?_ ?_ <;> with_reducible repeat' (first | exact trivial | (show _ ∧ _; refine aK ?_ ?_)))))); all_goals clear fct)
  · rw [h3]
    obtain ⟨s1, s2, s3, s4⟩ := s
    obtain ⟨d1, d2, d3, d4⟩ := d
    simp only at h1 h2 hn hx hd
    subst hn
    have hl := (List.getElem?_eq_some_iff.1 hx).1
    refine FnOK.startC (rvs := [.tmp 6]) G G_good Tryz.func33 rfl Tryz.ntmps33 rfl rfl ?_; with_reducible refine wD ?_
    (have fct := And.intro hd (And.intro hcs (And.intro (eq_false h1) ((eq_true h2)))); (repeat' (first
    | refine pF ?_
    | ((first
      | ((with_reducible show IfK _ _ _ _); (refine IfK.mk (fun hp => ?_) (fun hp => ?_) <;> (try simp only [castN, decide_eq_true_eq, decide_eq_false_iff_not, Bool.not_eq_true', Bool.not_eq_false', Decidable.not_not, Int.not_lt, Int.not_le] at hp)))
      | ((with_reducible show IdxK _ _ _ _ _); refine IdxK.mk n (eDef ⟨x1, x2, x3⟩) rfl (def_get hx) ?_)) <;> with_reducible refine wK ?_)
    | ((with_reducible show (_ ∧ _) ∧ _ ∧ _); (refine eK ?_ ?_ <;> with_reducible repeat' (first | exact trivial | (show _ ∧ _; refine aK ?_ ?_)))))); all_goals clear fct)
  · rw [h1]
    obtain ⟨s1, s2, s3, s4⟩ := s
    obtain ⟨d1, d2, d3, d4⟩ := d
    simp only at hm hn hx hd
    subst hn
    subst hm
    have hl := (List.getElem?_eq_some_iff.1 hx).1
    have hl2 := (List.getElem?_eq_some_iff.1 hc).1
    refine FnOK.startC (rvs := [.tmp 6]) G G_good Tryz.func33 rfl Tryz.ntmps33 rfl rfl ?_; with_reducible refine wD ?_
    (have fct := And.intro hd (hcs); (repeat' (first
    | refine pF ?_
    | ((first
      | ((with_reducible show IfK _ _ _ _); (refine IfK.mk (fun hp => ?_) (fun hp => ?_) <;> (try simp only [castN, decide_eq_true_eq, decide_eq_false_iff_not, Bool.not_eq_true', Bool.not_eq_false', Decidable.not_not, Int.not_lt, Int.not_le] at hp)))
      | ((with_reducible show IdxK _ _ _ _ _); refine IdxK.mk n (eDef ⟨x1, x2, (m : Int)⟩) rfl (def_get hx) ?_)) <;> with_reducible refine wK ?_)
    | ((with_reducible show (_ ∧ _) ∧ _ ∧ _); (refine eK ?_ ?_ <;> with_reducible repeat' (first | exact trivial | (show _ ∧ _; refine aK ?_ ?_)))))); all_goals clear fct)
end Go.Proofs.Heir
end
section
set_option linter.unusedSimpArgs false
set_option linter.unusedVariables false
namespace Go.Proofs.Heir
open Go Go.Am Go.RowKit Go.Lib
set_option maxRecDepth 100000
set_option maxHeartbeats 8000000
def lookV (f : ForM) (st : List StateM) (d : DeskM) : Bool := (decide (st.length = f.nodes.length) && rightF f) && rightD d
theorem f57_ok (f : ForM) (hs : SmallN f.nodes) (st : List StateM) (d : DeskM) (hd : SmallD d) (cs : List ClassM) : FnOK Tryz.prog 57 [] [eFor f, eStates st, eDesk d, eClasses cs] [] (.tup [eView ⟨f, st, d, cs⟩, eBool (lookV f st d)]) := by
  have h48 := f48_ok f hs
  have h62 := f62_ok d hd
  unfold lookV
  have hst := (show (st.map oState).length = st.length from List.length_map ..)
  have hlm := (show (f.nodes.map oNode).length = f.nodes.length from List.length_map ..)
  obtain ⟨l, m⟩ := f
  obtain ⟨d1, d2, d3, d4⟩ := d
  simp only at h48 h62 hlm ⊢
  refine FnOK.startC (rvs := [.cell 8 105, .tmp 9]) G G_good Tryz.func57 rfl Tryz.ntmps57 rfl rfl ?_; with_reducible refine wD ?_
  by_cases e1 : st.length = l.length
  · cases e2 : rightF ⟨l, m⟩ <;> rw [e2] at h48
    · (have fct := And.intro hst (And.intro hlm ((eq_true e1))); (repeat' (first
    | refine gF ?_
    | (((with_reducible show CallK _ _ 48 _ _ _ _); refine CallK.lit [] h48 c48 ⟨⟨rfl, rfl, trivial⟩, trivial⟩ rfl rfl ?_) <;> with_reducible refine wK ?_)
    | ((with_reducible show (_ ∧ _) ∧ _ ∧ _); (refine eK ?_ ?_ <;> with_reducible repeat' (first | exact trivial | (show _ ∧ _; refine aK ?_ ?_)))))); all_goals clear fct)
      all_goals simp [e1]
    · cases e3 : rightD ⟨d1, d2, d3, d4⟩ <;> rw [e3] at h62
      · (have fct := And.intro hst (And.intro hlm ((eq_true e1))); (repeat' (first
    | refine gF ?_
    | ((first
      | ((with_reducible show CallK _ _ 48 _ _ _ _); refine CallK.lit [] h48 c48 ⟨⟨rfl, rfl, trivial⟩, trivial⟩ rfl rfl ?_)
      | ((with_reducible show CallK _ _ 62 _ _ _ _); refine CallK.lit [] h62 c62 ⟨⟨rfl, rfl, rfl, rfl, trivial⟩, trivial⟩ rfl rfl ?_)) <;> with_reducible refine wK ?_)
    | ((with_reducible show (_ ∧ _) ∧ _ ∧ _); (refine eK ?_ ?_ <;> with_reducible repeat' (first | exact trivial | (show _ ∧ _; refine aK ?_ ?_)))))); all_goals clear fct)
        all_goals simp [e1]
      · (have fct := And.intro hst (And.intro hlm ((eq_true e1))); (repeat' (first
    | refine gF ?_
    | ((first
      | ((with_reducible show CallK _ _ 48 _ _ _ _); refine CallK.lit [] h48 c48 ⟨⟨rfl, rfl, trivial⟩, trivial⟩ rfl rfl ?_)
      | ((with_reducible show CallK _ _ 62 _ _ _ _); refine CallK.lit [] h62 c62 ⟨⟨rfl, rfl, rfl, rfl, trivial⟩, trivial⟩ rfl rfl ?_)) <;> with_reducible refine wK ?_)
    | ((with_reducible show (_ ∧ _) ∧ _ ∧ _); (refine eK ?_ ?_ <;> with_reducible repeat' (first | exact trivial | (show _ ∧ _; refine aK ?_ ?_)))))); all_goals clear fct)
        all_goals simp [e1]
  · (have fct := And.intro hst (And.intro hlm ((eq_false e1))); (repeat' (first
    | refine gF ?_
    | ((with_reducible show (_ ∧ _) ∧ _ ∧ _); (refine eK ?_ ?_ <;> with_reducible repeat' (first | exact trivial | (show _ ∧ _; refine aK ?_ ?_)))))); all_goals clear fct)
    all_goals simp [e1]
theorem f58_ok (v : ViewM) (n : Int) : FnOK Tryz.prog 58 [] [eView v, eInt n] [] (eBool (elemV v.f.nodes n)) := by
  obtain ⟨⟨l, m⟩, st, ⟨d1, d2, d3, d4⟩, cs⟩ := v
  have hlm := (show (l.map oNode).length = l.length from List.length_map ..)
  unfold elemV
  simp only
  refine FnOK.startC (rvs := [.tmp 4]) G G_good Tryz.func58 rfl Tryz.ntmps58 rfl rfl ?_; with_reducible refine wD ?_
  cases e : thereN l n with
  | false =>
    by_cases h0 : 0 ≤ n
    · have h1 : ¬ n < (l.length : Int) := fun h => by unfold thereN at e; rw [decide_eq_true h0, decide_eq_true h] at e; cases e
      (have fct := And.intro hlm (And.intro (eq_true h0) ((eq_false h1))); (repeat' (first
    | refine gF ?_
    | ((with_reducible show (_ ∧ _) ∧ _ ∧ _); (refine eK ?_ ?_ <;> with_reducible repeat' (first | exact trivial | (show _ ∧ _; refine aK ?_ ?_)))))); all_goals clear fct)
      all_goals rfl
    · (have fct := (eq_false h0); (repeat' (first
    | refine gF ?_
    | ((with_reducible show (_ ∧ _) ∧ _ ∧ _); (refine eK ?_ ?_ <;> with_reducible repeat' (first | exact trivial | (show _ ∧ _; refine aK ?_ ?_)))))); all_goals clear fct)
      all_goals rfl
  | true =>
    obtain ⟨i, y, rfl, hy, hny⟩ := there_iff.1 e
    rw [hny]
    have h1 : (i : Int) < (l.length : Int) := by have := (List.getElem?_eq_some_iff.1 hy).1; omega
    obtain ⟨a1, a2, a3, a4, a5, a6, a7, a8, a9, a10⟩ := y
    (have fct := And.intro hlm ((eq_true h1)); (repeat' (first
    | refine gF ?_
    | (((with_reducible show IdxK _ _ _ _ _); refine IdxK.mk i (eNode _) rfl (node_get hy) ?_) <;> with_reducible refine wK ?_)
    | ((with_reducible show (_ ∧ _) ∧ _ ∧ _); (refine eK ?_ ?_ <;> with_reducible repeat' (first | exact trivial | (show _ ∧ _; refine aK ?_ ?_)))))); all_goals clear fct)
    all_goals simp
structure SmallK (c : ClassM) : Prop where
  hooks : c.hooks.length ≤ 100000
  watch : c.watch.length ≤ 100000
  peek : c.peek.length ≤ 100000
  make : c.make.length ≤ 100000
  progs : ∀ h ∈ c.hooks, h.prog.length ≤ 100000
def SmallC (cs : List ClassM) : Prop := ∀ c ∈ cs, SmallK c
theorem small_noClass : SmallK noClass := ⟨by decide, by decide, by decide, by decide, fun h hh => by simp [noClass] at hh⟩
theorem small_classV {cs : List ClassM} (h : SmallC cs) (s : StateM) (d : DeskM) : SmallK (classV s d cs) := by
  rcases classAt_cases s d cs.length with e | ⟨k, hk, e⟩
  · rw [(classV_no e).1]; exact small_noClass
  · rw [(classV_at e (List.getElem?_eq_getElem hk)).1]; exact h _ (List.getElem_mem hk)
end Go.Proofs.Heir
end
section
set_option linter.unusedSimpArgs false
set_option linter.unusedVariables false
namespace Go.Proofs.Heir
open Go Go.Am Go.RowKit Go.Lib
set_option maxRecDepth 100000
set_option maxHeartbeats 8000000
theorem f29_ok (a b : List OpM) (ha : a.length ≤ 100000) : FnOK Tryz.prog 29 [] [eOps a, eOps b] [] (eBool (decide (a = b))) := by
  have hlm : (a.map oOp).length = a.length := List.length_map ..
  have hlm' : (b.map oOp).length = b.length := List.length_map ..
  refine FnOK.startC (rvs := [.tmp 4]) G G_good Tryz.func29 rfl Tryz.ntmps29 rfl rfl ?_; with_reducible refine wD ?_
  by_cases g1 : a.length = b.length
  · (have fct := And.intro hlm (And.intro hlm' (g1)); (repeat' (first
    | refine gF ?_
    | ((with_reducible show (_ ∧ _) ∧ _ ∧ _); (refine eK ?_ ?_ <;> with_reducible repeat' (first | exact trivial | (show _ ∧ _; refine aK ?_ ?_)))))); all_goals clear fct)
    refine LoopK.use G G_good (fun (k : Nat) => [(0, eOps a), (1, eOps b), (5, eInt k)]) (fun _ => []) (fun k => k ≤ a.length ∧ ∀ j, j < k → a[j]? = b[j]?) (fun k => a.length - k) 0 ⟨Nat.zero_le _, fun j hj => by omega⟩
      ⟨⟨rfl, rfl⟩, ⟨rfl, rfl, rfl, trivial⟩, trivial⟩ ?_
    intro k ⟨hk, hno⟩
    with_reducible refine wK ?_
    refine IfK.mk (fun h1 => ?_) (fun h1 => ?_) <;> (try simp only [castN] at h1) <;> with_reducible refine wK ?_
    · simp only [hlm, decide_eq_true_eq] at h1
      have hk' : k < a.length := by omega
      obtain ⟨⟨x1, x2, x3, x4, x5, x6, x7⟩, hx⟩ : ∃ x, a[k]? = some x := ⟨_, List.getElem?_eq_getElem hk'⟩
      obtain ⟨⟨y1, y2, y3, y4, y5, y6, y7⟩, hy⟩ : ∃ y, b[k]? = some y := ⟨_, List.getElem?_eq_getElem (by omega)⟩
      refine IdxK.mk k (eOp ⟨x1, x2, x3, x4, x5, x6, x7⟩) rfl (op_get hx) ?_; with_reducible refine wK ?_
      refine IdxK.mk k (eOp ⟨y1, y2, y3, y4, y5, y6, y7⟩) rfl (op_get hy) ?_; with_reducible refine wK ?_
      refine EqK.mk _ (fun y z w => op_neq ⟨x1, x2, x3, x4, x5, x6, x7⟩ ⟨y1, y2, y3, y4, y5, y6, y7⟩ y z w) ?_; with_reducible refine wK ?_
      by_cases e : (⟨x1, x2, x3, x4, x5, x6, x7⟩ : OpM) = ⟨y1, y2, y3, y4, y5, y6, y7⟩
      · have e' := hx.trans ((congrArg some e).trans hy.symm)
        rw [decide_eq_true e]
        repeat' (first
    | refine gK ?_
    | (((with_reducible show NextK _ _); refine NextK.mk (k + 1) ⟨by omega, same_succ hno e'⟩ (by omega) ⟨⟨rfl, rfl⟩, ⟨rfl, rfl, by show ((k + 1 : Nat) : Int) = (k : Int) + 1; omega, trivial⟩, trivial⟩) <;> with_reducible refine wK ?_)
    | ((with_reducible show (_ ∧ _) ∧ _ ∧ _); (refine eK ?_ ?_ <;> with_reducible repeat' (first | exact trivial | (show _ ∧ _; refine aK ?_ ?_)))))
      · rw [show decide (a = b) = false from decide_eq_false fun h => e (by rw [h] at hx; rw [hx] at hy; exact Option.some.inj hy), decide_eq_false e]
        repeat' (first
    | refine gK ?_
    | ((with_reducible show (_ ∧ _) ∧ _ ∧ _); (refine eK ?_ ?_ <;> with_reducible repeat' (first | exact trivial | (show _ ∧ _; refine aK ?_ ?_)))))
    · have hkl : k = a.length := by simp only [hlm, decide_eq_false_iff_not] at h1; omega
      subst hkl
      rw [show decide (a = b) = true from decide_eq_true (list_same g1 hno)]
      (have fct := hlm; (repeat' (first
    | refine gF ?_
    | ((with_reducible show (_ ∧ _) ∧ _ ∧ _); (refine eK ?_ ?_ <;> with_reducible repeat' (first | exact trivial | (show _ ∧ _; refine aK ?_ ?_)))))); all_goals clear fct)
  · rw [show decide (a = b) = false from decide_eq_false fun h => g1 (by rw [h])]
    (have fct := And.intro hlm (And.intro hlm' (g1)); (repeat' (first
    | refine gF ?_
    | ((with_reducible show (_ ∧ _) ∧ _ ∧ _); (refine eK ?_ ?_ <;> with_reducible repeat' (first | exact trivial | (show _ ∧ _; refine aK ?_ ?_)))))); all_goals clear fct)
theorem f21n_ok (a b : List DueN) (ha : a.length ≤ 100000) : FnOK Tryz.prog 21 [] [eDuesN a, eDuesN b] [] (eBool (decide (a = b))) := by
  have hlm : (a.map oDueN).length = a.length := List.length_map ..
  have hlm' : (b.map oDueN).length = b.length := List.length_map ..
  refine FnOK.startC (rvs := [.tmp 4]) G G_good Tryz.func21 rfl Tryz.ntmps21 rfl rfl ?_; with_reducible refine wD ?_
  by_cases g1 : a.length = b.length
  · (have fct := And.intro hlm (And.intro hlm' (g1)); (repeat' (first
    | refine gF ?_
    | ((with_reducible show (_ ∧ _) ∧ _ ∧ _); (refine eK ?_ ?_ <;> with_reducible repeat' (first | exact trivial | (show _ ∧ _; refine aK ?_ ?_)))))); all_goals clear fct)
    refine LoopK.use G G_good (fun (k : Nat) => [(0, eDuesN a), (1, eDuesN b), (5, eInt k)]) (fun _ => []) (fun k => k ≤ a.length ∧ ∀ j, j < k → a[j]? = b[j]?) (fun k => a.length - k) 0 ⟨Nat.zero_le _, fun j hj => by omega⟩
      ⟨⟨rfl, rfl⟩, ⟨rfl, rfl, rfl, trivial⟩, trivial⟩ ?_
    intro k ⟨hk, hno⟩
    with_reducible refine wK ?_
    refine IfK.mk (fun h1 => ?_) (fun h1 => ?_) <;> (try simp only [castN] at h1) <;> with_reducible refine wK ?_
    · simp only [hlm, decide_eq_true_eq] at h1
      have hk' : k < a.length := by omega
      obtain ⟨⟨x0, x1, x2, x3, x4, x5, x6, x7, x8, x9, x10⟩, hx⟩ : ∃ x, a[k]? = some x := ⟨_, List.getElem?_eq_getElem hk'⟩
      obtain ⟨⟨y0, y1, y2, y3, y4, y5, y6, y7, y8, y9, y10⟩, hy⟩ : ∃ y, b[k]? = some y := ⟨_, List.getElem?_eq_getElem (by omega)⟩
      refine IdxK.mk k (eDueN ⟨x0, x1, x2, x3, x4, x5, x6, x7, x8, x9, x10⟩) rfl (dueN_get hx) ?_; with_reducible refine wK ?_
      refine IdxK.mk k (eDueN ⟨y0, y1, y2, y3, y4, y5, y6, y7, y8, y9, y10⟩) rfl (dueN_get hy) ?_; with_reducible refine wK ?_
      refine EqK.mk _ (fun y z w => dueN_neq ⟨x0, x1, x2, x3, x4, x5, x6, x7, x8, x9, x10⟩ ⟨y0, y1, y2, y3, y4, y5, y6, y7, y8, y9, y10⟩ y z w) ?_; with_reducible refine wK ?_
      by_cases e : (⟨x0, x1, x2, x3, x4, x5, x6, x7, x8, x9, x10⟩ : DueN) = ⟨y0, y1, y2, y3, y4, y5, y6, y7, y8, y9, y10⟩
      · have e' := hx.trans ((congrArg some e).trans hy.symm)
        rw [decide_eq_true e]
        repeat' (first
    | refine gK ?_
    | (((with_reducible show NextK _ _); refine NextK.mk (k + 1) ⟨by omega, same_succ hno e'⟩ (by omega) ⟨⟨rfl, rfl⟩, ⟨rfl, rfl, by show ((k + 1 : Nat) : Int) = (k : Int) + 1; omega, trivial⟩, trivial⟩) <;> with_reducible refine wK ?_)
    | ((with_reducible show (_ ∧ _) ∧ _ ∧ _); (refine eK ?_ ?_ <;> with_reducible repeat' (first | exact trivial | (show _ ∧ _; refine aK ?_ ?_)))))
      · rw [show decide (a = b) = false from decide_eq_false fun h => e (by rw [h] at hx; rw [hx] at hy; exact Option.some.inj hy), decide_eq_false e]
        repeat' (first
    | refine gK ?_
    | ((with_reducible show (_ ∧ _) ∧ _ ∧ _); (refine eK ?_ ?_ <;> with_reducible repeat' (first | exact trivial | (show _ ∧ _; refine aK ?_ ?_)))))
    · have hkl : k = a.length := by simp only [hlm, decide_eq_false_iff_not] at h1; omega
      subst hkl
      rw [show decide (a = b) = true from decide_eq_true (list_same g1 hno)]
      (have fct := hlm; (repeat' (first
    | refine gF ?_
    | ((with_reducible show (_ ∧ _) ∧ _ ∧ _); (refine eK ?_ ?_ <;> with_reducible repeat' (first | exact trivial | (show _ ∧ _; refine aK ?_ ?_)))))); all_goals clear fct)
  · rw [show decide (a = b) = false from decide_eq_false fun h => g1 (by rw [h])]
    (have fct := And.intro hlm (And.intro hlm' (g1)); (repeat' (first
    | refine gF ?_
    | ((with_reducible show (_ ∧ _) ∧ _ ∧ _); (refine eK ?_ ?_ <;> with_reducible repeat' (first | exact trivial | (show _ ∧ _; refine aK ?_ ?_)))))); all_goals clear fct)
theorem f34_ok (a b : ClassM) (ha : SmallK a) : FnOK Tryz.prog 34 [] [eClass a, eClass b] [] (eBool (decide (a = b))) := by
  have h29p := f29_ok a.peek b.peek ha.peek
  have h29m := f29_ok a.make b.make ha.make
  have hpr := ha.progs
  have hal := ha.watch
  have hah := ha.hooks
  have hne : ∀ {p : Prop}, p → (p → a ≠ b) → decide (a = b) = false := fun h g => decide_eq_false (g h)
  obtain ⟨a1, a2, a3, a4, a5⟩ := a
  obtain ⟨b1, b2, b3, b4, b5⟩ := b
  simp only at h29p h29m hpr hal hah
  have n2 : (a2.map oStr).length = a2.length := List.length_map ..
  have m2 : (b2.map oStr).length = b2.length := List.length_map ..
  have n5 : (a5.map oHook).length = a5.length := List.length_map ..
  have m5 : (b5.map oHook).length = b5.length := List.length_map ..
  refine FnOK.startC (rvs := [.tmp 4]) G G_good Tryz.func34 rfl Tryz.ntmps34 rfl rfl ?_; with_reducible refine wD ?_
  by_cases g1 : a1 = b1
  case neg =>
    rw [hne g1 fun g e => g (congrArg ClassM.form e)]
    (have fct := (eq_false g1); (repeat' (first
    | refine gF ?_
    | ((with_reducible show (_ ∧ _) ∧ _ ∧ _); (refine eK ?_ ?_ <;> with_reducible repeat' (first | exact trivial | (show _ ∧ _; refine aK ?_ ?_)))))); all_goals clear fct)
  subst g1
  by_cases g2 : a2.length = b2.length
  case neg =>
    rw [hne g2 fun g e => g (congrArg (fun c => c.watch.length) e)]
    (have fct := And.intro n2 (And.intro m2 ((eq_false g2))); (repeat' (first
    | refine gF ?_
    | ((with_reducible show (_ ∧ _) ∧ _ ∧ _); (refine eK ?_ ?_ <;> with_reducible repeat' (first | exact trivial | (show _ ∧ _; refine aK ?_ ?_)))))); all_goals clear fct)
  by_cases g3 : a3 = b3
  case neg =>
    rw [hne g3 fun g e => g (congrArg ClassM.peek e)]
    rw [decide_eq_false g3] at h29p
    (have fct := And.intro n2 (And.intro m2 (g2)); (repeat' (first
    | refine gF ?_
    | (((with_reducible show CallK _ _ 29 _ _ _ _); refine CallK.lit [] h29p c29 ⟨rfl, rfl, trivial⟩ rfl rfl ?_) <;> with_reducible refine wK ?_)
    | ((with_reducible show (_ ∧ _) ∧ _ ∧ _); (refine eK ?_ ?_ <;> with_reducible repeat' (first | exact trivial | (show _ ∧ _; refine aK ?_ ?_)))))); all_goals clear fct)
  rw [decide_eq_true g3] at h29p
  by_cases g4 : a4 = b4
  case neg =>
    rw [hne g4 fun g e => g (congrArg ClassM.make e)]
    rw [decide_eq_false g4] at h29m
    (have fct := And.intro n2 (And.intro m2 (g2)); (repeat' (first
    | refine gF ?_
    | (((with_reducible show CallK _ _ 29 _ _ _ _); first | refine CallK.lit [] h29p c29 ⟨rfl, rfl, trivial⟩ rfl rfl ?_ | refine CallK.lit [] h29m c29 ⟨rfl, rfl, trivial⟩ rfl rfl ?_) <;> with_reducible refine wK ?_)
    | ((with_reducible show (_ ∧ _) ∧ _ ∧ _); (refine eK ?_ ?_ <;> with_reducible repeat' (first | exact trivial | (show _ ∧ _; refine aK ?_ ?_)))))); all_goals clear fct)
  rw [decide_eq_true g4] at h29m
  by_cases g5 : a5.length = b5.length
  case neg =>
    rw [hne g5 fun g e => g (congrArg (fun c => c.hooks.length) e)]
    (have fct := And.intro n2 (And.intro m2 (And.intro g2 (And.intro n5 (And.intro m5 ((eq_false g5)))))); (repeat' (first
    | refine gF ?_
    | (((with_reducible show CallK _ _ 29 _ _ _ _); first | refine CallK.lit [] h29p c29 ⟨rfl, rfl, trivial⟩ rfl rfl ?_ | refine CallK.lit [] h29m c29 ⟨rfl, rfl, trivial⟩ rfl rfl ?_) <;> with_reducible refine wK ?_)
    | ((with_reducible show (_ ∧ _) ∧ _ ∧ _); (refine eK ?_ ?_ <;> with_reducible repeat' (first | exact trivial | (show _ ∧ _; refine aK ?_ ?_)))))); all_goals clear fct)
  (have fct := And.intro n2 (And.intro m2 (And.intro g2 (And.intro n5 (And.intro m5 (g5))))); (repeat' (first
    | refine gF ?_
    | (((with_reducible show CallK _ _ 29 _ _ _ _); first | refine CallK.lit [] h29p c29 ⟨rfl, rfl, trivial⟩ rfl rfl ?_ | refine CallK.lit [] h29m c29 ⟨rfl, rfl, trivial⟩ rfl rfl ?_) <;> with_reducible refine wK ?_)
    | ((with_reducible show (_ ∧ _) ∧ _ ∧ _); (refine eK ?_ ?_ <;> with_reducible repeat' (first | exact trivial | (show _ ∧ _; refine aK ?_ ?_)))))); all_goals clear fct)
  refine LoopK.use G G_good (fun (k : Nat) => [(2, .ptr 20 0 0), (3, .ptr 30 0 0), (5, eInt k)]) (fun _ => [(20, .live 5 [eClass ⟨a1, a2, a3, a4, a5⟩] false), (30, .live 5 [eClass ⟨a1, b2, b3, b4, b5⟩] false)]) (fun k => k ≤ a2.length ∧ ∀ j, j < k → a2[j]? = b2[j]?) (fun k => a2.length - k) 0 ⟨Nat.zero_le _, fun j hj => by omega⟩
    ⟨⟨rfl, rfl⟩, ⟨⟨rfl, rfl⟩, ⟨rfl, rfl⟩, rfl, trivial⟩, ⟨⟨rfl, rfl, rfl, rfl, rfl, trivial⟩, trivial⟩, ⟨⟨rfl, rfl, rfl, rfl, rfl, trivial⟩, trivial⟩, trivial⟩ ?_
  intro k ⟨hk, hno⟩
  with_reducible refine wK ?_
  refine IfK.mk (fun h1 => ?_) (fun h1 => ?_) <;> (try simp only [castN] at h1) <;> with_reducible refine wK ?_
  · simp only [n2, decide_eq_true_eq] at h1
    obtain ⟨x, hx⟩ : ∃ x, a2[k]? = some x := ⟨_, List.getElem?_eq_getElem (by omega)⟩
    obtain ⟨y, hy⟩ : ∃ y, b2[k]? = some y := ⟨_, List.getElem?_eq_getElem (by omega)⟩
    refine IdxK.mk k (eStr x) rfl (strs_get hx) ?_; with_reducible refine wK ?_
    refine IdxK.mk k (eStr y) rfl (strs_get hy) ?_; with_reducible refine wK ?_
    by_cases e : x = y
    · have e' := hx.trans ((congrArg some e).trans hy.symm)
      (have fct := e; (repeat' (first
    | refine gF ?_
    | (((with_reducible show NextK _ _); refine NextK.mk (k + 1) ⟨by omega, same_succ hno e'⟩ (by omega) ⟨⟨rfl, rfl⟩, ⟨⟨rfl, rfl⟩, ⟨rfl, rfl⟩, by show ((k + 1 : Nat) : Int) = (k : Int) + 1; omega, trivial⟩, ⟨⟨rfl, rfl, rfl, rfl, rfl, trivial⟩, trivial⟩, ⟨⟨rfl, rfl, rfl, rfl, rfl, trivial⟩, trivial⟩, trivial⟩) <;> with_reducible refine wK ?_)
    | ((with_reducible show (_ ∧ _) ∧ _ ∧ _); (refine eK ?_ ?_ <;> with_reducible repeat' (first | exact trivial | (show _ ∧ _; refine aK ?_ ?_)))))); all_goals clear fct)
    · rw [hne e fun g h => g (by have h2 := congrArg ClassM.watch h; simp only at h2; rw [h2, hy] at hx; exact (Option.some.inj hx).symm)]
      (have fct := (eq_false e); (repeat' (first
    | refine gF ?_
    | ((with_reducible show (_ ∧ _) ∧ _ ∧ _); (refine eK ?_ ?_ <;> with_reducible repeat' (first | exact trivial | (show _ ∧ _; refine aK ?_ ?_)))))); all_goals clear fct)
  · have hkl : k = a2.length := by simp only [n2, decide_eq_false_iff_not] at h1; omega
    subst hkl
    have e2 := list_same g2 hno
    refine LoopK.use G G_good (fun (k : Nat) => [(2, .ptr 20 0 0), (3, .ptr 30 0 0), (6, eInt k)]) (fun _ => [(20, .live 5 [eClass ⟨a1, a2, a3, a4, a5⟩] false), (30, .live 5 [eClass ⟨a1, b2, b3, b4, b5⟩] false)]) (fun k => k ≤ a5.length ∧ ∀ j, j < k → a5[j]? = b5[j]?) (fun k => a5.length - k) 0 ⟨Nat.zero_le _, fun j hj => by omega⟩
      ⟨⟨rfl, rfl⟩, ⟨⟨rfl, rfl⟩, ⟨rfl, rfl⟩, rfl, trivial⟩, ⟨⟨rfl, rfl, rfl, rfl, rfl, trivial⟩, trivial⟩, ⟨⟨rfl, rfl, rfl, rfl, rfl, trivial⟩, trivial⟩, trivial⟩ ?_
    intro k ⟨hk, hno⟩
    with_reducible refine wK ?_
    refine IfK.mk (fun h1 => ?_) (fun h1 => ?_) <;> (try simp only [castN] at h1) <;> with_reducible refine wK ?_
    · simp only [n5, decide_eq_true_eq] at h1
      obtain ⟨⟨x1, x2⟩, hx⟩ : ∃ x, a5[k]? = some x := ⟨_, List.getElem?_eq_getElem (by omega)⟩
      obtain ⟨⟨y1, y2⟩, hy⟩ : ∃ y, b5[k]? = some y := ⟨_, List.getElem?_eq_getElem (by omega)⟩
      have h29 := f29_ok x2 y2 (hpr _ (List.mem_of_getElem? hx))
      have hb : ¬ ((⟨x1, x2⟩ : HookM) = ⟨y1, y2⟩) → decide ((⟨a1, a2, a3, a4, a5⟩ : ClassM) = ⟨a1, b2, b3, b4, b5⟩) = false := fun e => hne e fun g h => g (by have h2 := congrArg ClassM.hooks h; simp only at h2; rw [h2, hy] at hx; exact (Option.some.inj hx).symm)
      refine IdxK.mk k (eHook ⟨x1, x2⟩) rfl (hook_get hx) ?_; with_reducible refine wK ?_
      refine IdxK.mk k (eHook ⟨y1, y2⟩) rfl (hook_get hy) ?_; with_reducible refine wK ?_
      by_cases e : x1 = y1
      · by_cases e3 : x2 = y2
        · have e' := hx.trans ((congrArg some (show (⟨x1, x2⟩ : HookM) = ⟨y1, y2⟩ by rw [e, e3])).trans hy.symm)
          rw [decide_eq_true e3] at h29
          (have fct := e; (repeat' (first
    | refine gF ?_
    | ((first
      | ((with_reducible show IdxK _ _ _ _ _); first | refine IdxK.mk k (eHook ⟨x1, x2⟩) rfl (hook_get hx) ?_ | refine IdxK.mk k (eHook ⟨y1, y2⟩) rfl (hook_get hy) ?_)
      | ((with_reducible show CallK _ _ 29 _ _ _ _); refine CallK.lit [] h29 c29 ⟨rfl, rfl, trivial⟩ rfl rfl ?_)
      | ((with_reducible show NextK _ _); refine NextK.mk (k + 1) ⟨by omega, same_succ hno e'⟩ (by omega) ⟨⟨rfl, rfl⟩, ⟨⟨rfl, rfl⟩, ⟨rfl, rfl⟩, by show ((k + 1 : Nat) : Int) = (k : Int) + 1; omega, trivial⟩, ⟨⟨rfl, rfl, rfl, rfl, rfl, trivial⟩, trivial⟩, ⟨⟨rfl, rfl, rfl, rfl, rfl, trivial⟩, trivial⟩, trivial⟩)) <;> with_reducible refine wK ?_)
    | ((with_reducible show (_ ∧ _) ∧ _ ∧ _); (refine eK ?_ ?_ <;> with_reducible repeat' (first | exact trivial | (show _ ∧ _; refine aK ?_ ?_)))))); all_goals clear fct)
        · rw [hb fun h => e3 (congrArg HookM.prog h)]
          rw [decide_eq_false e3] at h29
          (have fct := e; (repeat' (first
    | refine gF ?_
    | ((first
      | ((with_reducible show IdxK _ _ _ _ _); first | refine IdxK.mk k (eHook ⟨x1, x2⟩) rfl (hook_get hx) ?_ | refine IdxK.mk k (eHook ⟨y1, y2⟩) rfl (hook_get hy) ?_)
      | ((with_reducible show CallK _ _ 29 _ _ _ _); refine CallK.lit [] h29 c29 ⟨rfl, rfl, trivial⟩ rfl rfl ?_)) <;> with_reducible refine wK ?_)
    | ((with_reducible show (_ ∧ _) ∧ _ ∧ _); (refine eK ?_ ?_ <;> with_reducible repeat' (first | exact trivial | (show _ ∧ _; refine aK ?_ ?_)))))); all_goals clear fct)
      · rw [hb fun h => e (congrArg HookM.kind h)]
        (have fct := (eq_false e); (repeat' (first
    | refine gF ?_
    | ((with_reducible show (_ ∧ _) ∧ _ ∧ _); (refine eK ?_ ?_ <;> with_reducible repeat' (first | exact trivial | (show _ ∧ _; refine aK ?_ ?_)))))); all_goals clear fct)
    · have hkl : k = a5.length := by simp only [n5, decide_eq_false_iff_not] at h1; omega
      subst hkl
      rw [show decide ((⟨a1, a2, a3, a4, a5⟩ : ClassM) = ⟨a1, b2, b3, b4, b5⟩) = true from decide_eq_true (by rw [e2, g3, g4, list_same g5 hno])]
      repeat' (first
    | refine gK ?_
    | ((with_reducible show (_ ∧ _) ∧ _ ∧ _); (refine eK ?_ ?_ <;> with_reducible repeat' (first | exact trivial | (show _ ∧ _; refine aK ?_ ?_)))))
def shortH (h : HookM) : Bool := decide (h.prog.length ≤ 80)
def shortK (c : ClassM) : Bool := (((decide (c.watch.length ≤ 20) && decide (c.hooks.length ≤ 20)) && decide (c.peek.length ≤ 80)) && decide (c.make.length ≤ 80)) && c.hooks.all shortH
def shortC (cs : List ClassM) : Bool := decide (cs.length ≤ 14) && cs.all shortK
theorem small_of_shortC {cs : List ClassM} (h : shortC cs = true) : SmallC cs := by
  intro c hc
  unfold shortC at h
  rw [Bool.and_eq_true, List.all_eq_true] at h
  have h2 := h.2 c hc
  unfold shortK at h2
  simp only [Bool.and_eq_true, decide_eq_true_eq, List.all_eq_true] at h2
  obtain ⟨⟨⟨⟨h3, h4⟩, h5⟩, h6⟩, h7⟩ := h2
  exact ⟨by omega, by omega, by omega, by omega, fun x hx => by have := h7 x hx; unfold shortH at this; simp only [decide_eq_true_eq] at this; omega⟩
theorem f24_ok (cs : List ClassM) : FnOK Tryz.prog 24 [] [eClasses cs] [] (eBool (shortC cs)) := by
  unfold shortC
  have hlm : (cs.map oClass).length = cs.length := List.length_map ..
  refine FnOK.startC (rvs := [.tmp 2]) G G_good Tryz.func24 rfl Tryz.ntmps24 rfl rfl ?_; with_reducible refine wD ?_
  by_cases e0 : (14 : Int) < (cs.length : Int)
  · rw [decide_eq_false (show ¬ cs.length ≤ 14 by omega)]
    (have fct := And.intro hlm (e0); (repeat' (first
    | refine gF ?_
    | ((with_reducible show (_ ∧ _) ∧ _ ∧ _); (refine eK ?_ ?_ <;> with_reducible repeat' (first | exact trivial | (show _ ∧ _; refine aK ?_ ?_)))))); all_goals clear fct)
    all_goals rfl
  rw [decide_eq_true (show cs.length ≤ 14 by omega), Bool.true_and]
  (have fct := And.intro hlm ((eq_false e0)); (repeat' (first
    | refine gF ?_
    | ((with_reducible show (_ ∧ _) ∧ _ ∧ _); (refine eK ?_ ?_ <;> with_reducible repeat' (first | exact trivial | (show _ ∧ _; refine aK ?_ ?_)))))); all_goals clear fct)
  refine LoopK.use G G_good (fun (k : Nat) => [(0, eClasses cs), (3, eInt k)]) (fun _ => [])
    (fun k => k ≤ cs.length ∧ ∀ (j : Nat) (y : ClassM), j < k → cs[j]? = some y → shortK y = true) (fun k => cs.length - k) 0 ⟨Nat.zero_le _, fun j y h => by omega⟩
    ⟨⟨rfl, rfl⟩, ⟨rfl, rfl, trivial⟩, trivial⟩ ?_
  rintro k ⟨hk, hok⟩
  with_reducible refine wK ?_
  refine IfK.mk (fun h1 => ?_) (fun h1 => ?_) <;> (try simp only [castN] at h1) <;> with_reducible refine wK ?_
  · have hk' : k < cs.length := by simp only [decide_eq_true_eq] at h1; omega
    obtain ⟨x, hx⟩ : ∃ x, cs[k]? = some x := ⟨_, List.getElem?_eq_getElem hk'⟩
    have bad : shortK x = false → cs.all shortK = false := fun h => all_no hx h
    have good : shortK x = true → ∀ (j : Nat) (y : ClassM), j < k + 1 → cs[j]? = some y → shortK y = true := fun h j y hj hy => by
      rcases Nat.lt_or_ge j k with h6 | h6
      · exact hok j y h6 hy
      · have : j = k := by omega
        subst this
        rw [hx] at hy; cases hy; exact h
    obtain ⟨c1, c2, c3, c4, c5⟩ := x
    have n2 : (c2.map oStr).length = c2.length := List.length_map ..
    have n3 : (c3.map oOp).length = c3.length := List.length_map ..
    have n4 : (c4.map oOp).length = c4.length := List.length_map ..
    have n5 : (c5.map oHook).length = c5.length := List.length_map ..
    have sk : shortK ⟨c1, c2, c3, c4, c5⟩ = ((((decide (c2.length ≤ 20) && decide (c5.length ≤ 20)) && decide (c3.length ≤ 80)) && decide (c4.length ≤ 80)) && c5.all shortH) := rfl
    rw [sk] at bad good
    refine IdxK.mk k (eClass ⟨c1, c2, c3, c4, c5⟩) rfl (class_get hx) ?_; with_reducible refine wK ?_
    by_cases e1 : (20 : Int) < (c2.length : Int)
    · rw [bad (by rw [decide_eq_false (show ¬ c2.length ≤ 20 by omega)]; rfl)]
      (have fct := And.intro n2 (e1); (repeat' (first
    | refine gF ?_
    | ((with_reducible show (_ ∧ _) ∧ _ ∧ _); (refine eK ?_ ?_ <;> with_reducible repeat' (first | exact trivial | (show _ ∧ _; refine aK ?_ ?_)))))); all_goals clear fct)
    by_cases e2 : (20 : Int) < (c5.length : Int)
    · rw [bad (by rw [decide_eq_false (show ¬ c5.length ≤ 20 by omega), Bool.and_false]; rfl)]
      (have fct := And.intro n2 (And.intro n5 (And.intro (eq_false e1) (e2))); (repeat' (first
    | refine gF ?_
    | ((with_reducible show (_ ∧ _) ∧ _ ∧ _); (refine eK ?_ ?_ <;> with_reducible repeat' (first | exact trivial | (show _ ∧ _; refine aK ?_ ?_)))))); all_goals clear fct)
    by_cases e3 : (80 : Int) < (c3.length : Int)
    · rw [bad (by rw [decide_eq_false (show ¬ c3.length ≤ 80 by omega), Bool.and_false]; rfl)]
      (have fct := And.intro n2 (And.intro n5 (And.intro n3 (And.intro (eq_false e1) (And.intro (eq_false e2) (e3))))); (repeat' (first
    | refine gF ?_
    | ((with_reducible show (_ ∧ _) ∧ _ ∧ _); (refine eK ?_ ?_ <;> with_reducible repeat' (first | exact trivial | (show _ ∧ _; refine aK ?_ ?_)))))); all_goals clear fct)
    by_cases e4 : (80 : Int) < (c4.length : Int)
    · rw [bad (by rw [decide_eq_false (show ¬ c4.length ≤ 80 by omega), Bool.and_false]; rfl)]
      (have fct := And.intro n2 (And.intro n5 (And.intro n3 (And.intro n4 (And.intro (eq_false e1) (And.intro (eq_false e2) (And.intro (eq_false e3) (e4))))))); (repeat' (first
    | refine gF ?_
    | ((with_reducible show (_ ∧ _) ∧ _ ∧ _); (refine eK ?_ ?_ <;> with_reducible repeat' (first | exact trivial | (show _ ∧ _; refine aK ?_ ?_)))))); all_goals clear fct)
    rw [decide_eq_true (show c2.length ≤ 20 by omega), decide_eq_true (show c5.length ≤ 20 by omega), decide_eq_true (show c3.length ≤ 80 by omega), decide_eq_true (show c4.length ≤ 80 by omega)] at bad good
    simp only [Bool.true_and] at bad good
    (have fct := And.intro n2 (And.intro n5 (And.intro n3 (And.intro n4 (And.intro (eq_false e1) (And.intro (eq_false e2) (And.intro (eq_false e3) ((eq_false e4)))))))); (repeat' (first
    | refine gF ?_
    | ((with_reducible show (_ ∧ _) ∧ _ ∧ _); (refine eK ?_ ?_ <;> with_reducible repeat' (first | exact trivial | (show _ ∧ _; refine aK ?_ ?_)))))); all_goals clear fct)
    refine LoopK.use G G_good (fun (j : Nat) => [(0, eClasses cs), (3, eInt k), (4, .ptr 40 0 0), (5, eInt j)]) (fun _ => [(40, .live 5 [eClass ⟨c1, c2, c3, c4, c5⟩] false)])
      (fun j => j ≤ c5.length ∧ ∀ (i : Nat) (y : HookM), i < j → c5[i]? = some y → shortH y = true) (fun j => c5.length - j) 0 ⟨Nat.zero_le _, fun j y h => by omega⟩
      ⟨⟨rfl, rfl⟩, ⟨rfl, rfl, ⟨rfl, rfl⟩, rfl, trivial⟩, ⟨⟨rfl, rfl, rfl, rfl, rfl, trivial⟩, trivial⟩, trivial⟩ ?_
    rintro j ⟨hj, hoj⟩
    with_reducible refine wK ?_
    refine IfK.mk (fun h2 => ?_) (fun h2 => ?_) <;> (try simp only [castN] at h2) <;> with_reducible refine wK ?_
    · have hj' : j < c5.length := by simp only [decide_eq_true_eq] at h2; omega
      obtain ⟨⟨u1, u2⟩, hu⟩ : ∃ x, c5[j]? = some x := ⟨_, List.getElem?_eq_getElem hj'⟩
      have nu : (u2.map oOp).length = u2.length := List.length_map ..
      refine IdxK.mk j (eHook ⟨u1, u2⟩) rfl (hook_get hu) ?_; with_reducible refine wK ?_
      by_cases e : (80 : Int) < (u2.length : Int)
      · rw [bad (all_no hu (decide_eq_false (show ¬ u2.length ≤ 80 by omega)))]
        (have fct := And.intro nu (e); (repeat' (first
    | refine gF ?_
    | ((with_reducible show (_ ∧ _) ∧ _ ∧ _); (refine eK ?_ ?_ <;> with_reducible repeat' (first | exact trivial | (show _ ∧ _; refine aK ?_ ?_)))))); all_goals clear fct)
      · have hnx : ∀ (i : Nat) (y : HookM), i < j + 1 → c5[i]? = some y → shortH y = true := fun i y hi hy => by
          rcases Nat.lt_or_ge i j with h6 | h6
          · exact hoj i y h6 hy
          · have : i = j := by omega
            subst this
            rw [hu] at hy; cases hy; exact decide_eq_true (show u2.length ≤ 80 by omega)
        (have fct := And.intro nu ((eq_false e)); (repeat' (first
    | refine gF ?_
    | (((with_reducible show NextK _ _); refine NextK.mk (j + 1) ⟨by omega, hnx⟩ (by omega) ⟨⟨rfl, rfl⟩, ⟨rfl, rfl, ⟨rfl, rfl⟩, by show ((j + 1 : Nat) : Int) = (j : Int) + 1; omega, trivial⟩, ⟨⟨rfl, rfl, rfl, rfl, rfl, trivial⟩, trivial⟩, trivial⟩) <;> with_reducible refine wK ?_)
    | ((with_reducible show (_ ∧ _) ∧ _ ∧ _); (refine eK ?_ ?_ <;> with_reducible repeat' (first | exact trivial | (show _ ∧ _; refine aK ?_ ?_)))))); all_goals clear fct)
    · have hjl : j = c5.length := by simp only [decide_eq_false_iff_not] at h2; omega
      have hnx := good (all_yes fun i y hy => hoj i y (by have := (List.getElem?_eq_some_iff.1 hy).1; omega) hy)
      repeat' (first
    | refine gK ?_
    | (((with_reducible show NextK _ _); refine NextK.mk (k + 1) ⟨by omega, hnx⟩ (by omega) ⟨⟨rfl, rfl⟩, ⟨rfl, by show ((k + 1 : Nat) : Int) = (k : Int) + 1; omega, trivial⟩, trivial⟩) <;> with_reducible refine wK ?_)
    | ((with_reducible show (_ ∧ _) ∧ _ ∧ _); (refine eK ?_ ?_ <;> with_reducible repeat' (first | exact trivial | (show _ ∧ _; refine aK ?_ ?_)))))
  · have hkl : k = cs.length := by simp only [decide_eq_false_iff_not] at h1; omega
    rw [all_yes fun j y hy => hok j y (by have := (List.getElem?_eq_some_iff.1 hy).1; omega) hy]
    (refine eK ?_ ?_ <;> with_reducible repeat' (first | exact trivial | (show _ ∧ _; refine aK ?_ ?_)))
end Go.Proofs.Heir
end
section
set_option linter.unusedSimpArgs false
set_option linter.unusedVariables false
namespace Go.Proofs.Heir
open Go Go.Am Go.RowKit Go.Lib
set_option maxRecDepth 100000
set_option maxHeartbeats 8000000
theorem f59_ok (f : ForM) (hs : SmallN f.nodes) (st : List StateM) (d : DeskM) (hd : SmallD d) (cs : List ClassM) (hc : SmallC cs) (x : NoteM) (i : Nat) (s : StateM) (hi : x.node = i) (hx : st[i]? = some s) : FnOK Tryz.prog 59 [] [eView ⟨f, st, d, cs⟩, eNote x] [] (.tup [eTodo (asksV f s d cs x).1, eBool (asksV f s d cs x).2]) := by
  have h15 := f15_ok f hs i d hd
  have h32 := f32_ok s d cs
  have hcv := small_classV hc s d
  have h27 := fun n => f27_ok (classV s d cs) hcv.hooks hcv.watch n
  have h25 := fun k => f25_ok (classV s d cs) hcv.hooks k
  obtain ⟨x1, x2, x3, x4, x5, x6, x7, x8, x9⟩ := x
  simp only at hi
  subst hi
  unfold asksV callT noTodo
  simp only
  generalize fateF f i d = at' at h15 ⊢
  generalize classB s d cs = cb at h32 ⊢
  generalize classV s d cs = c at h32 h27 h25 ⊢
  obtain ⟨l, m⟩ := f
  obtain ⟨d1, d2, d3, d4⟩ := d
  obtain ⟨s1, s2, s3, s4⟩ := s
  simp only at h15 h32 ⊢
  refine FnOK.startC (rvs := [.cell 4 72, .tmp 5]) G G_good Tryz.func59 rfl Tryz.ntmps59 rfl rfl ?_; with_reducible refine wD ?_
  refine IdxK.mk i (eState _) rfl (state_get hx) ?_; with_reducible refine wK ?_
  by_cases p1 : s1 = 1
  · subst p1
    rw [if_pos rfl]
    by_cases k1 : x1 = 1
    · subst k1
      repeat' (first
    | refine gK ?_
    | (((with_reducible show CallK _ _ 15 _ _ _ _); refine CallK.lit [] h15 c15 ⟨⟨rfl, rfl, trivial⟩, rfl, ⟨rfl, rfl, rfl, rfl, trivial⟩, trivial⟩ rfl rfl ?_) <;> with_reducible refine wK ?_)
    | ((with_reducible show (_ ∧ _) ∧ _ ∧ _); (refine eK ?_ ?_ <;> with_reducible repeat' (first | exact trivial | (show _ ∧ _; refine aK ?_ ?_)))))
      all_goals first | rfl | simp
    · (have fct := (eq_false k1); (repeat' (first
    | refine gF ?_
    | (((with_reducible show CallK _ _ 15 _ _ _ _); refine CallK.lit [] h15 c15 ⟨⟨rfl, rfl, trivial⟩, rfl, ⟨rfl, rfl, rfl, rfl, trivial⟩, trivial⟩ rfl rfl ?_) <;> with_reducible refine wK ?_)
    | ((with_reducible show (_ ∧ _) ∧ _ ∧ _); (refine eK ?_ ?_ <;> with_reducible repeat' (first | exact trivial | (show _ ∧ _; refine aK ?_ ?_)))))); all_goals clear fct)
      all_goals first | rfl | simp [k1]
  rw [if_neg p1]
  by_cases p3 : s1 = 3
  · subst p3
    rw [if_pos rfl]
    obtain ⟨c1, c2, c3, c4, c5⟩ := c
    have h27' := h27 x5
    have h25' := h25 x1
    clear h27 h25
    refine IfK.no rfl ?_; with_reducible refine wK ?_
    refine IfK.yes rfl ?_; with_reducible refine wK ?_
    refine CallK.val [] h32 c32 ⟨⟨rfl, rfl, rfl, rfl, trivial⟩, ⟨rfl, rfl, rfl, rfl, trivial⟩, rfl, trivial⟩ rfl rfl rfl ?_; with_reducible refine wK ?_
    by_cases k4 : x1 = 4
    · subst k4
      rw [if_pos rfl]
      cases cb with
      | false =>
        repeat' (first
    | refine gK ?_
    | ((with_reducible show (_ ∧ _) ∧ _ ∧ _); (refine eK ?_ ?_ <;> with_reducible repeat' (first | exact trivial | (show _ ∧ _; refine aK ?_ ?_)))))
        all_goals first | rfl | simp
      | true =>
        cases e : watchesC ⟨c1, c2, c3, c4, c5⟩ x5 <;> rw [e] at h27'
        · repeat' (first
    | refine gK ?_
    | (((with_reducible show CallK _ _ 27 _ _ _ _); refine CallK.lit [] h27' c27 ⟨⟨rfl, rfl, rfl, rfl, rfl, trivial⟩, rfl, trivial⟩ rfl rfl ?_) <;> with_reducible refine wK ?_)
    | ((with_reducible show (_ ∧ _) ∧ _ ∧ _); (refine eK ?_ ?_ <;> with_reducible repeat' (first | exact trivial | (show _ ∧ _; refine aK ?_ ?_)))))
          all_goals first | rfl | simp
        · repeat' (first
    | refine gK ?_
    | ((first
      | ((with_reducible show CallK _ _ 27 _ _ _ _); refine CallK.lit [] h27' c27 ⟨⟨rfl, rfl, rfl, rfl, rfl, trivial⟩, rfl, trivial⟩ rfl rfl ?_)
      | ((with_reducible show CallK _ _ 25 _ _ _ _); refine CallK.lit [] h25' c25 ⟨⟨rfl, rfl, rfl, rfl, rfl, trivial⟩, rfl, trivial⟩ rfl rfl ?_)) <;> with_reducible refine wK ?_)
    | ((with_reducible show (_ ∧ _) ∧ _ ∧ _); (refine eK ?_ ?_ <;> with_reducible repeat' (first | exact trivial | (show _ ∧ _; refine aK ?_ ?_)))))
          all_goals first | rfl | simp
    rw [if_neg k4]
    by_cases k : x1 = 1 ∨ x1 = 2 ∨ x1 = 3
    · rw [if_pos k]
      rcases k with rfl | rfl | rfl
      · repeat' (first
    | refine gK ?_
    | ((with_reducible show (_ ∧ _) ∧ _ ∧ _); (refine eK ?_ ?_ <;> with_reducible repeat' (first | exact trivial | (show _ ∧ _; refine aK ?_ ?_)))))
        cases cb
        · repeat' (first
    | refine gK ?_
    | ((with_reducible show (_ ∧ _) ∧ _ ∧ _); (refine eK ?_ ?_ <;> with_reducible repeat' (first | exact trivial | (show _ ∧ _; refine aK ?_ ?_)))))
          all_goals first | rfl | simp
        · repeat' (first
    | refine gK ?_
    | (((with_reducible show CallK _ _ 25 _ _ _ _); refine CallK.lit [] h25' c25 ⟨⟨rfl, rfl, rfl, rfl, rfl, trivial⟩, rfl, trivial⟩ rfl rfl ?_) <;> with_reducible refine wK ?_)
    | ((with_reducible show (_ ∧ _) ∧ _ ∧ _); (refine eK ?_ ?_ <;> with_reducible repeat' (first | exact trivial | (show _ ∧ _; refine aK ?_ ?_)))))
          all_goals first | rfl | simp
      · repeat' (first
    | refine gK ?_
    | ((with_reducible show (_ ∧ _) ∧ _ ∧ _); (refine eK ?_ ?_ <;> with_reducible repeat' (first | exact trivial | (show _ ∧ _; refine aK ?_ ?_)))))
        cases cb
        · repeat' (first
    | refine gK ?_
    | ((with_reducible show (_ ∧ _) ∧ _ ∧ _); (refine eK ?_ ?_ <;> with_reducible repeat' (first | exact trivial | (show _ ∧ _; refine aK ?_ ?_)))))
          all_goals first | rfl | simp
        · repeat' (first
    | refine gK ?_
    | (((with_reducible show CallK _ _ 25 _ _ _ _); refine CallK.lit [] h25' c25 ⟨⟨rfl, rfl, rfl, rfl, rfl, trivial⟩, rfl, trivial⟩ rfl rfl ?_) <;> with_reducible refine wK ?_)
    | ((with_reducible show (_ ∧ _) ∧ _ ∧ _); (refine eK ?_ ?_ <;> with_reducible repeat' (first | exact trivial | (show _ ∧ _; refine aK ?_ ?_)))))
          all_goals first | rfl | simp
      · repeat' (first
    | refine gK ?_
    | ((with_reducible show (_ ∧ _) ∧ _ ∧ _); (refine eK ?_ ?_ <;> with_reducible repeat' (first | exact trivial | (show _ ∧ _; refine aK ?_ ?_)))))
        cases cb
        · repeat' (first
    | refine gK ?_
    | ((with_reducible show (_ ∧ _) ∧ _ ∧ _); (refine eK ?_ ?_ <;> with_reducible repeat' (first | exact trivial | (show _ ∧ _; refine aK ?_ ?_)))))
          all_goals first | rfl | simp
        · repeat' (first
    | refine gK ?_
    | (((with_reducible show CallK _ _ 25 _ _ _ _); refine CallK.lit [] h25' c25 ⟨⟨rfl, rfl, rfl, rfl, rfl, trivial⟩, rfl, trivial⟩ rfl rfl ?_) <;> with_reducible refine wK ?_)
    | ((with_reducible show (_ ∧ _) ∧ _ ∧ _); (refine eK ?_ ?_ <;> with_reducible repeat' (first | exact trivial | (show _ ∧ _; refine aK ?_ ?_)))))
          all_goals first | rfl | simp
    · rw [if_neg k]
      have k1 : ¬ x1 = 1 := fun h => k (.inl h)
      have k2 : ¬ x1 = 2 := fun h => k (.inr (.inl h))
      have k3 : ¬ x1 = 3 := fun h => k (.inr (.inr h))
      (have fct := And.intro (eq_false k1) (And.intro (eq_false k2) (And.intro (eq_false k3) ((eq_false k4)))); (repeat' (first
    | refine gF ?_
    | ((with_reducible show (_ ∧ _) ∧ _ ∧ _); (refine eK ?_ ?_ <;> with_reducible repeat' (first | exact trivial | (show _ ∧ _; refine aK ?_ ?_)))))); all_goals clear fct)
      all_goals first | rfl | simp
  · rw [if_neg p3]
    (have fct := And.intro (eq_false p1) ((eq_false p3)); (repeat' (first
    | refine gF ?_
    | ((with_reducible show (_ ∧ _) ∧ _ ∧ _); (refine eK ?_ ?_ <;> with_reducible repeat' (first | exact trivial | (show _ ∧ _; refine aK ?_ ?_)))))); all_goals clear fct)
    all_goals first | rfl | simp
end Go.Proofs.Heir
end
section
set_option linter.unusedSimpArgs false
set_option linter.unusedVariables false
namespace Go.Proofs.Heir
open Go Go.Am Go.RowKit Go.Lib
set_option maxRecDepth 100000
set_option maxHeartbeats 8000000
def stOf (st : List StateM) (n : Int) : StateM := (st[n.toNat]?).getD ⟨0, 0, 0, false⟩
def dueV (f : ForM) (st : List StateM) (d : DeskM) (cs : List ClassM) (x : NoteM) : List DueN :=
  if elemV f.nodes x.node = true then (if (asksV f (stOf st x.node) d cs x).2 = true then [⟨x.node, (asksV f (stOf st x.node) d cs x).1⟩] else []) else []
def dueL (f : ForM) (st : List StateM) (d : DeskM) (cs : List ClassM) (ns : List NoteM) : List DueN := if lookV f st d = true then ns.flatMap (dueV f st d cs) else []
theorem dueV_len (f : ForM) (st : List StateM) (d : DeskM) (cs : List ClassM) (x : NoteM) : (dueV f st d cs x).length ≤ 1 := by
  unfold dueV
  split
  · split <;> simp
  · simp
theorem flat_len {α β : Type} (g : α → List β) (h : ∀ x, (g x).length ≤ 1) : ∀ l : List α, (l.flatMap g).length ≤ l.length
  | [] => Nat.le_refl _
  | a :: r => by
    have := flat_len g h r
    have := h a
    rw [List.flatMap_cons, List.length_append, List.length_cons]; omega
theorem flat_step {α β : Type} (g : α → List β) {l : List α} {k : Nat} {x : α} (h : l[k]? = some x) : (l.take (k + 1)).flatMap g = (l.take k).flatMap g ++ g x := by
  rw [take_snocI h, List.flatMap_append]
  congr 1
  rw [List.flatMap_cons]; simp
theorem elem_at {l : List NodeM} {st : List StateM} {n : Int} (h : elemV l n = true) (hl : st.length = l.length) : ∃ (i : Nat) (s : StateM), n = i ∧ st[i]? = some s ∧ stOf st n = s := by
  unfold elemV at h
  rw [Bool.and_eq_true] at h
  obtain ⟨i, y, rfl, hy, _⟩ := there_iff.1 h.1
  have hi := (List.getElem?_eq_some_iff.1 hy).1
  have hs : st[i]? = some st[i] := List.getElem?_eq_getElem (by omega)
  exact ⟨i, _, rfl, hs, by unfold stOf; rw [Int.toNat_natCast, hs]; rfl⟩
theorem f35_ok (f : ForM) (hs : SmallN f.nodes) (st : List StateM) (d : DeskM) (hd : SmallD d) (cs : List ClassM) (hc : SmallC cs) (ns : List NoteM) (hns : ns.length ≤ 100000) : FnOK Tryz.prog 35 [] [eFor f, eStates st, eDesk d, eClasses cs, eNotes ns] [] (eDuesN (dueL f st d cs ns)) := by
  have h57 := f57_ok f hs st d hd cs
  have h58 := fun n => f58_ok ⟨f, st, d, cs⟩ n
  have h59 := fun x i s => f59_ok f hs st d hd cs hc x i s
  have hlm : (ns.map oNote).length = ns.length := List.length_map ..
  unfold dueL
  cases e0 : lookV f st d with
  | false =>
    rw [e0] at h57
    obtain ⟨l, m⟩ := f
    obtain ⟨d1, d2, d3, d4⟩ := d
    try simp only at h57
    refine FnOK.startC (rvs := [.tmp 10]) G G_good Tryz.func35 rfl Tryz.ntmps35 rfl rfl ?_; with_reducible refine wD ?_
    repeat' (first
    | refine gK ?_
    | (((with_reducible show CallK _ _ 57 _ _ _ _); refine CallK.val [] h57 c57 ⟨⟨rfl, rfl, trivial⟩, rfl, ⟨rfl, rfl, rfl, rfl, trivial⟩, rfl, trivial⟩ rfl rfl rfl ?_) <;> with_reducible refine wK ?_)
    | ((with_reducible show (_ ∧ _) ∧ _ ∧ _); (refine eK ?_ ?_ <;> with_reducible repeat' (first | exact trivial | (show _ ∧ _; refine aK ?_ ?_)))))
    all_goals exact .inr (.inr ⟨_, rfl⟩)
  | true =>
    rw [e0] at h57
    rw [if_pos rfl]
    obtain ⟨ks, hks⟩ : ∃ ks : Nat → List DueN, ks = fun k => (ns.take k).flatMap (dueV f st d cs) := ⟨_, rfl⟩
    have hkl : ∀ k, (ks k).length ≤ k := fun k => by
      rw [hks]; exact Nat.le_trans (flat_len _ (dueV_len f st d cs) _) (by rw [List.length_take]; omega)
    have hk0 : ks 0 = [] := by rw [hks]; rfl
    have hke : ks ns.length = ns.flatMap (dueV f st d cs) := by rw [hks]; show List.flatMap _ (ns.take ns.length) = _; rw [List.take_length]
    have hstep : ∀ (k : Nat) (x : NoteM), ns[k]? = some x → ks (k + 1) = ks k ++ dueV f st d cs x := fun k x hx => by rw [hks]; exact flat_step _ hx
    have hle : st.length = f.nodes.length := by unfold lookV at e0; simp only [Bool.and_eq_true, decide_eq_true_eq] at e0; exact e0.1.1
    rw [← hke]
    unfold dueV at hstep
    clear hks hke
    generalize hf : f.nodes = ls at hle hstep
    have hst := fun n (h : elemV ls n = true) => elem_at (st := st) h hle
    obtain ⟨l, m⟩ := f
    obtain ⟨d1, d2, d3, d4⟩ := d
    try simp only at h57 h58 hf
    subst hf
    refine FnOK.startC (rvs := [.tmp 10]) G G_good Tryz.func35 rfl Tryz.ntmps35 rfl rfl ?_; with_reducible refine wD ?_
    refine CallK.val [] h57 c57 ⟨⟨rfl, rfl, trivial⟩, rfl, ⟨rfl, rfl, rfl, rfl, trivial⟩, rfl, trivial⟩ rfl rfl rfl ?_; with_reducible refine wK ?_
    repeat' (first
    | refine gK ?_
    | ((with_reducible show (_ ∧ _) ∧ _ ∧ _); (refine eK ?_ ?_ <;> with_reducible repeat' (first | exact trivial | (show _ ∧ _; refine aK ?_ ?_)))))
    refine LoopK.ghost 13 131 11 rfl rfl ?_
    refine LoopK.use G G_good (fun (k : Nat) => [(11, .ptr 110 0 0), (13, .own 131 0 (ks k).length), (28, eNotes ns), (29, eInt ns.length), (30, eInt k)])
      (fun k => [(110, .live 8 [eView ⟨⟨l, m⟩, st, ⟨d1, d2, d3, d4⟩, cs⟩] false), (131, rDuesN (ks k))]) (fun k => k ≤ ns.length) (fun k => ns.length - k) 0 (Nat.zero_le _)
      (by rw [hk0]; exact ⟨⟨rfl, rfl⟩, ⟨⟨rfl, rfl⟩, ⟨rfl, rfl⟩, rfl, by show (ns.length : Int) = ((ns.map oNote).length : Int); rw [hlm], rfl, trivial⟩, ⟨⟨rfl, rfl, rfl, rfl, rfl, rfl, rfl, rfl, trivial⟩, trivial⟩, ⟨.refl rfl, noRef_duesN _⟩, trivial⟩) ?_
    intro k hk
    with_reducible refine wK ?_
    refine IfK.mk (fun h1 => ?_) (fun h1 => ?_) <;> (try simp only [castN] at h1) <;> with_reducible refine wK ?_
    · have hk' : k < ns.length := by simp only [decide_eq_true_eq] at h1; omega
      obtain ⟨⟨x1, x2, x3, x4, x5, x6, x7, x8, x9⟩, hx⟩ : ∃ x, ns[k]? = some x := ⟨_, List.getElem?_eq_getElem hk'⟩
      have hstp := hstep k _ hx
      have hkk := hkl k
      have h58' := h58 x2
      have h59' := h59 ⟨x1, x2, x3, x4, x5, x6, x7, x8, x9⟩
      have hst' := hst x2
      try simp only at hstp h58' h59'
      clear hstep h58 h59 hst
      refine IdxK.mk k (eNote _) rfl (note_get hx) ?_; with_reducible refine wK ?_
      cases e1 : elemV l x2 with
      | false =>
        rw [e1] at h58' hstp
        rw [if_neg (by simp), List.append_nil] at hstp
        repeat' (first
    | refine gK ?_
    | (((with_reducible show CallK _ _ 58 _ _ _ _); refine CallK.lit [] h58' c58 ⟨⟨rfl, rfl, rfl, rfl, rfl, rfl, rfl, rfl, trivial⟩, rfl, trivial⟩ rfl rfl ?_) <;> with_reducible refine wK ?_)
    | ((with_reducible show (_ ∧ _) ∧ _ ∧ _); (refine eK ?_ ?_ <;> with_reducible repeat' (first | exact trivial | (show _ ∧ _; refine aK ?_ ?_)))))
        refine NextK.mk (k + 1) (by omega) (by omega) ⟨⟨rfl, rfl⟩, ⟨⟨rfl, rfl⟩, ⟨rfl, by rw [hstp]⟩, rfl, rfl, by show ((k + 1 : Nat) : Int) = (k : Int) + 1; omega, trivial⟩, ⟨⟨rfl, rfl, rfl, rfl, rfl, rfl, rfl, rfl, trivial⟩, trivial⟩, ⟨by rw [hstp]; exact .refl (noRef_duesN _), noRef_duesN _⟩, trivial⟩
      | true =>
        rw [e1] at h58' hstp
        rw [if_pos rfl] at hstp
        obtain ⟨i, s, hi, hsi, hso⟩ := hst' e1
        have h59'' := h59' i s hi hsi
        rw [hso] at hstp
        clear h59' hst'
        generalize asksV ⟨l, m⟩ s ⟨d1, d2, d3, d4⟩ cs ⟨x1, x2, x3, x4, x5, x6, x7, x8, x9⟩ = r at h59'' hstp
        obtain ⟨⟨t1, t2, t3, t4, t5, t6, t7, t8, t9, t10⟩, b⟩ := r
        try simp only at h59'' hstp
        cases b with
        | false =>
          rw [if_neg (by simp), List.append_nil] at hstp
          repeat' (first
    | refine gK ?_
    | ((first
      | ((with_reducible show CallK _ _ 58 _ _ _ _); refine CallK.lit [] h58' c58 ⟨⟨rfl, rfl, rfl, rfl, rfl, rfl, rfl, rfl, trivial⟩, rfl, trivial⟩ rfl rfl ?_)
      | ((with_reducible show CallK _ _ 59 _ _ _ _); refine CallK.val [] h59'' c59 ⟨⟨rfl, rfl, rfl, rfl, rfl, rfl, rfl, rfl, trivial⟩, ⟨rfl, rfl, rfl, rfl, rfl, rfl, rfl, rfl, rfl, trivial⟩, trivial⟩ rfl rfl rfl ?_)) <;> with_reducible refine wK ?_)
    | ((with_reducible show (_ ∧ _) ∧ _ ∧ _); (refine eK ?_ ?_ <;> with_reducible repeat' (first | exact trivial | (show _ ∧ _; refine aK ?_ ?_)))))
          refine NextK.mk (k + 1) (by omega) (by omega) ⟨⟨rfl, rfl⟩, ⟨⟨rfl, rfl⟩, ⟨rfl, by rw [hstp]⟩, rfl, rfl, by show ((k + 1 : Nat) : Int) = (k : Int) + 1; omega, trivial⟩, ⟨⟨rfl, rfl, rfl, rfl, rfl, rfl, rfl, rfl, trivial⟩, trivial⟩, ⟨by rw [hstp]; exact .refl (noRef_duesN _), noRef_duesN _⟩, trivial⟩
        | true =>
          rw [if_pos rfl] at hstp
          repeat' (first
    | refine gK ?_
    | ((first
      | ((with_reducible show CallK _ _ 58 _ _ _ _); refine CallK.lit [] h58' c58 ⟨⟨rfl, rfl, rfl, rfl, rfl, rfl, rfl, rfl, trivial⟩, rfl, trivial⟩ rfl rfl ?_)
      | ((with_reducible show CallK _ _ 59 _ _ _ _); refine CallK.val [] h59'' c59 ⟨⟨rfl, rfl, rfl, rfl, rfl, rfl, rfl, rfl, trivial⟩, ⟨rfl, rfl, rfl, rfl, rfl, rfl, rfl, rfl, rfl, trivial⟩, trivial⟩ rfl rfl rfl ?_)
      | ((with_reducible show AppK _ _ _ _ _ _ _ _ _ _); refine AppK.mk ((ks k).map oDueN) [eDueN ⟨x2, ⟨t1, t2, t3, t4, t5, t6, t7, t8, t9, t10⟩⟩] ⟨rfl, (List.length_map ..).symm, rfl⟩ ⟨rfl, rfl, rfl⟩ rfl (by simp; omega) (by simp; omega) ?_)) <;> with_reducible refine wK ?_)
    | ((with_reducible show (_ ∧ _) ∧ _ ∧ _); (refine eK ?_ ?_ <;> with_reducible repeat' (first | exact trivial | (show _ ∧ _; refine aK ?_ ?_)))))
          refine NextK.mk (k + 1) (by omega) (by omega) ⟨⟨rfl, rfl⟩, ⟨⟨rfl, rfl⟩, ⟨rfl, by rw [hstp]; simp⟩, rfl, rfl, by show ((k + 1 : Nat) : Int) = (k : Int) + 1; omega, trivial⟩, ⟨⟨rfl, rfl, rfl, rfl, rfl, rfl, rfl, rfl, trivial⟩, trivial⟩, ⟨by rw [hstp, List.map_append]; exact .refl (by rw [← List.map_append]; exact noRef_duesN _), noRef_duesN _⟩, trivial⟩
    · have hkn : k = ns.length := by simp only [decide_eq_false_iff_not] at h1; omega
      subst hkn
      (refine eK ?_ ?_ <;> with_reducible repeat' (first | exact trivial | (show _ ∧ _; refine aK ?_ ?_)))
      all_goals exact frz_duesN rfl rfl rfl rfl
end Go.Proofs.Heir
end
section
set_option linter.unusedSimpArgs false
set_option linter.unusedVariables false
namespace Go.Proofs.Heir
open Go Go.Am Go.RowKit Go.Lib
set_option maxRecDepth 100000
set_option maxHeartbeats 8000000
def topN (l : List NodeM) (n : Int) : Int := ((U.wayN l n).getLast?).getD n
theorem top_top {l : List NodeM} (T : U.Tree l) {n : Int} (hn : thereN l n = true) (hp : upN (nd l n) = -1) : topN l n = n := by
  unfold topN; rw [U.way_top T hn hp]; rfl
theorem top_step {l : List NodeM} (T : U.Tree l) {n : Int} (hn : thereN l n = true) (hp : upN (nd l n) ≠ -1) (hu : thereN l (upN (nd l n)) = true) : topN l n = topN l (upN (nd l n)) := by
  obtain ⟨r, hr⟩ := U.way_head T hu
  unfold topN; rw [U.way_step T hn hp, hr, List.getLast?_cons_cons]
  cases h : (upN (nd l n) :: r).getLast? with
  | none => simp at h
  | some a => rfl
theorem up_there {l : List NodeM} (T : U.Tree l) : ∀ n, thereN l n = true → upN (nd l n) ≠ -1 → thereN l (upN (nd l n)) = true := by
  refine U.up_ind T (P := fun n => upN (nd l n) ≠ -1 → thereN l (upN (nd l n)) = true) (fun n hn h0 h => absurd h0 h) (fun n hn h0 h1 _ _ => h1)
theorem top_there {l : List NodeM} (T : U.Tree l) : ∀ n, thereN l n = true → thereN l (topN l n) = true := by
  refine U.up_ind T (fun n hn h => ?_) (fun n hn h hu ih => ?_)
  · rw [top_top T hn h]; exact hn
  · rw [top_step T hn h hu]; exact ih
theorem f87_ok (f : ForM) (k : Nat) (x : NodeM) (hx : f.nodes[k]? = some x) : FnOK Tryz.prog 87 [] [eFor f, eInt k] [] (eInt (upN x)) := by
  obtain ⟨l, m⟩ := f
  obtain ⟨a1, a2, a3, a4, a5, a6, a7, a8, a9, a10⟩ := x
  unfold upN
  refine FnOK.startC (rvs := [.tmp 4]) G G_good Tryz.func87 rfl Tryz.ntmps87 rfl rfl ?_; with_reducible refine wD ?_
  by_cases e : a6 = -1
  · subst e
    rw [if_pos rfl]
    repeat' (first
    | refine gK ?_
    | (((with_reducible show IdxK _ _ _ _ _); refine IdxK.mk k (eNode _) rfl (node_get hx) ?_) <;> with_reducible refine wK ?_)
    | ((with_reducible show (_ ∧ _) ∧ _ ∧ _); (refine eK ?_ ?_ <;> with_reducible repeat' (first | exact trivial | (show _ ∧ _; refine aK ?_ ?_)))))
  · rw [if_neg e]
    (have fct := (eq_false e); (repeat' (first
    | refine gF ?_
    | (((with_reducible show IdxK _ _ _ _ _); refine IdxK.mk k (eNode _) rfl (node_get hx) ?_) <;> with_reducible refine wK ?_)
    | ((with_reducible show (_ ∧ _) ∧ _ ∧ _); (refine eK ?_ ?_ <;> with_reducible repeat' (first | exact trivial | (show _ ∧ _; refine aK ?_ ?_)))))); all_goals clear fct)
def topF (f : ForM) (n : Int) : Int := if (rightF f && thereN f.nodes n) = true then topN f.nodes n else -1
theorem f63_ok (f : ForM) (hs : SmallN f.nodes) (n : Int) : FnOK Tryz.prog 63 [] [eFor f, eInt n] [] (eInt (topF f n)) := by
  have h86 := f86_ok f hs [n] (by simp)
  have e1 : (rightF f && !decide (0 ≤ idxI (fun n => !thereN f.nodes n) [n])) = (rightF f && thereN f.nodes n) := by
    congr 1
    unfold idxI
    cases h : thereN f.nodes n <;> simp [List.findIdx?_cons, h]
  rw [e1] at h86
  have h87 := fun k x hx => f87_ok f k x hx
  obtain ⟨l, m⟩ := f
  unfold topF
  simp only at h86 h87 ⊢
  refine FnOK.startC (rvs := [.tmp 4]) G G_good Tryz.func63 rfl Tryz.ntmps63 rfl rfl ?_; with_reducible refine wD ?_
  cases e0 : (rightF ⟨l, m⟩ && thereN l n) with
  | false =>
    rw [e0] at h86
    refine CallK.lit [71] h86 c86 ⟨⟨rfl, rfl, trivial⟩, frz_ints (l := [n]) rfl rfl rfl rfl, trivial⟩ rfl rfl ?_; with_reducible refine wK ?_
    repeat' (first
    | refine gK ?_
    | ((with_reducible show (_ ∧ _) ∧ _ ∧ _); (refine eK ?_ ?_ <;> with_reducible repeat' (first | exact trivial | (show _ ∧ _; refine aK ?_ ?_)))))
    all_goals rfl
  | true =>
    rw [e0] at h86
    refine CallK.lit [71] h86 c86 ⟨⟨rfl, rfl, trivial⟩, frz_ints (l := [n]) rfl rfl rfl rfl, trivial⟩ rfl rfl ?_; with_reducible refine wK ?_
    rw [if_pos rfl]
    obtain ⟨hr, hn⟩ : rightF ⟨l, m⟩ = true ∧ thereN l n = true := by simpa using e0
    have T := U.tree_of hr
    simp only at T
    repeat' (first
    | refine gK ?_
    | ((with_reducible show (_ ∧ _) ∧ _ ∧ _); (refine eK ?_ ?_ <;> with_reducible repeat' (first | exact trivial | (show _ ∧ _; refine aK ?_ ?_)))))
    refine LoopK.use G G_good (fun (c : Int) => [(1, eInt c), (2, .ptr 20 0 0)]) (fun c => [(20, .live 2 [eFor ⟨l, m⟩] false)])
      (fun c => thereN l c = true ∧ topN l c = topN l n) (fun c => (U.wayN l c).length) n ⟨hn, rfl⟩
      (by refine ⟨⟨rfl, rfl⟩, ⟨rfl, ⟨rfl, rfl⟩, trivial⟩, ⟨⟨rfl, rfl, trivial⟩, trivial⟩, trivial⟩) ?_
    rintro c ⟨hc, htop⟩
    with_reducible refine wK ?_
    obtain ⟨i, y, rfl, hy, hny⟩ := there_iff.1 hc
    have h := h87 i y hy
    by_cases e : upN y = -1
    · rw [e] at h
      rw [top_top T hc (by rw [hny]; exact e)] at htop
      repeat' (first
    | refine gK ?_
    | (((with_reducible show CallK _ _ 87 _ _ _ _); refine CallK.lit [] h c87 ⟨⟨rfl, rfl, trivial⟩, rfl, trivial⟩ rfl rfl ?_) <;> with_reducible refine wK ?_)
    | ((with_reducible show (_ ∧ _) ∧ _ ∧ _); (refine eK ?_ ?_ <;> with_reducible repeat' (first | exact trivial | (show _ ∧ _; refine aK ?_ ?_)))))
      all_goals exact htop.symm
    · have hu := up_there T _ hc (by rw [hny]; exact e)
      have hst := top_step T hc (by rw [hny]; exact e) hu
      have hway := U.way_step T hc (by rw [hny]; exact e)
      rw [hny] at hu hst hway
      generalize upN y = u at h e hu hst hway
      (have fct := (eq_false e); (repeat' (first
    | refine gF ?_
    | (((with_reducible show CallK _ _ 87 _ _ _ _); refine CallK.lit [] h c87 ⟨⟨rfl, rfl, trivial⟩, rfl, trivial⟩ rfl rfl ?_) <;> with_reducible refine wK ?_)
    | ((with_reducible show (_ ∧ _) ∧ _ ∧ _); (refine eK ?_ ?_ <;> with_reducible repeat' (first | exact trivial | (show _ ∧ _; refine aK ?_ ?_)))))); all_goals clear fct)
      refine NextK.mk u ⟨hu, by rw [← hst, htop]⟩ (by rw [hway]; simp) ⟨⟨rfl, rfl⟩, ⟨rfl, ⟨rfl, rfl⟩, trivial⟩, ⟨⟨rfl, rfl, trivial⟩, trivial⟩, trivial⟩
def conF (f : ForM) (n : Int) : Bool := (rightF f && thereN f.nodes n) && decide ((nd f.nodes (topN f.nodes n)).kind = 0)
theorem f40_ok (f : ForM) (hs : SmallN f.nodes) (n : Int) : FnOK Tryz.prog 40 [] [eFor f, eInt n] [] (eBool (conF f n)) := by
  have h63 := f63_ok f hs n
  unfold topF at h63
  unfold conF
  cases e0 : (rightF f && thereN f.nodes n) with
  | false =>
    rw [e0, if_neg (by simp)] at h63
    obtain ⟨l, m⟩ := f
    refine FnOK.startC (rvs := [.tmp 4]) G G_good Tryz.func40 rfl Tryz.ntmps40 rfl rfl ?_; with_reducible refine wD ?_
    repeat' (first
    | refine gK ?_
    | (((with_reducible show CallK _ _ 63 _ _ _ _); refine CallK.lit [] h63 c63 ⟨⟨rfl, rfl, trivial⟩, rfl, trivial⟩ rfl rfl ?_) <;> with_reducible refine wK ?_)
    | ((with_reducible show (_ ∧ _) ∧ _ ∧ _); (refine eK ?_ ?_ <;> with_reducible repeat' (first | exact trivial | (show _ ∧ _; refine aK ?_ ?_)))))
    all_goals rfl
  | true =>
    rw [e0, if_pos rfl] at h63
    obtain ⟨hr, hn⟩ : rightF f = true ∧ thereN f.nodes n = true := by simpa using e0
    have ht := top_there (U.tree_of hr) n hn
    obtain ⟨l, m⟩ := f
    simp only at h63 ht ⊢
    generalize topN l n = t at h63 ht ⊢
    obtain ⟨i, y, rfl, hy, hny⟩ := there_iff.1 ht
    rw [hny]
    obtain ⟨a1, a2, a3, a4, a5, a6, a7, a8, a9, a10⟩ := y
    refine FnOK.startC (rvs := [.tmp 4]) G G_good Tryz.func40 rfl Tryz.ntmps40 rfl rfl ?_; with_reducible refine wD ?_
    refine CallK.lit [] h63 c63 ⟨⟨rfl, rfl, trivial⟩, rfl, trivial⟩ rfl rfl ?_; with_reducible refine wK ?_
    (have fct := (show ¬ (i : Int) = -1 by omega); (repeat' (first
    | refine gF ?_
    | (((with_reducible show IdxK _ _ _ _ _); refine IdxK.mk i (eNode _) rfl (node_get hy) ?_) <;> with_reducible refine wK ?_)
    | ((with_reducible show (_ ∧ _) ∧ _ ∧ _); (refine eK ?_ ?_ <;> with_reducible repeat' (first | exact trivial | (show _ ∧ _; refine aK ?_ ?_)))))); all_goals clear fct)
    all_goals simp
theorem f84_ok (f : ForM) (T : U.Tree f.nodes) : ∀ n, thereN f.nodes n = true → FnOK Tryz.prog 84 [] [eFor f, eInt n] [] (eInt (topN f.nodes n)) := by
  refine U.up_ind T (fun n hn h => ?_) (fun n hn h hu ih => ?_)
  · rw [top_top T hn h]
    obtain ⟨i, y, rfl, hy, hny⟩ := there_iff.1 hn
    rw [hny] at h
    obtain ⟨l, m⟩ := f
    obtain ⟨a1, a2, a3, a4, a5, a6, a7, a8, a9, a10⟩ := y
    unfold upN at h
    simp only at h hy ⊢
    have e6 : a6 = -1 := by
      by_cases e : a6 = -1
      · exact e
      · rw [if_neg e] at h; exact h
    subst e6
    have e8 : a8 = -1 := by simpa using h
    subst e8
    refine FnOK.startC (rvs := [.tmp 4]) G G_good Tryz.func84 rfl Tryz.ntmps84 rfl rfl ?_; with_reducible refine wD ?_
    repeat' (first
    | refine gK ?_
    | (((with_reducible show IdxK _ _ _ _ _); refine IdxK.mk i (eNode _) rfl (node_get hy) ?_) <;> with_reducible refine wK ?_)
    | ((with_reducible show (_ ∧ _) ∧ _ ∧ _); (refine eK ?_ ?_ <;> with_reducible repeat' (first | exact trivial | (show _ ∧ _; refine aK ?_ ?_)))))
  · rw [top_step T hn h hu]
    obtain ⟨i, y, rfl, hy, hny⟩ := there_iff.1 hn
    rw [hny] at h hu ih ⊢
    obtain ⟨l, m⟩ := f
    obtain ⟨a1, a2, a3, a4, a5, a6, a7, a8, a9, a10⟩ := y
    unfold upN at h hu ih ⊢
    simp only at h hu ih hy ⊢
    by_cases e : a6 = -1
    · subst e
      rw [if_pos rfl] at h hu ih ⊢
      refine FnOK.startC (rvs := [.tmp 4]) G G_good Tryz.func84 rfl Tryz.ntmps84 rfl rfl ?_; with_reducible refine wD ?_
      (have fct := (eq_false h); (repeat' (first
    | refine gF ?_
    | ((first
      | ((with_reducible show IdxK _ _ _ _ _); refine IdxK.mk i (eNode _) rfl (node_get hy) ?_)
      | ((with_reducible show CallK _ _ 84 _ _ _ _); refine CallK.lit [] ih c84 ⟨⟨rfl, rfl, trivial⟩, rfl, trivial⟩ rfl rfl ?_)) <;> with_reducible refine wK ?_)
    | ((with_reducible show (_ ∧ _) ∧ _ ∧ _); (refine eK ?_ ?_ <;> with_reducible repeat' (first | exact trivial | (show _ ∧ _; refine aK ?_ ?_)))))); all_goals clear fct)
    · rw [if_neg e] at h hu ih ⊢
      refine FnOK.startC (rvs := [.tmp 4]) G G_good Tryz.func84 rfl Tryz.ntmps84 rfl rfl ?_; with_reducible refine wD ?_
      (have fct := (eq_false e); (repeat' (first
    | refine gF ?_
    | ((first
      | ((with_reducible show IdxK _ _ _ _ _); refine IdxK.mk i (eNode _) rfl (node_get hy) ?_)
      | ((with_reducible show CallK _ _ 84 _ _ _ _); refine CallK.lit [] ih c84 ⟨⟨rfl, rfl, trivial⟩, rfl, trivial⟩ rfl rfl ?_)) <;> with_reducible refine wK ?_)
    | ((with_reducible show (_ ∧ _) ∧ _ ∧ _); (refine eK ?_ ?_ <;> with_reducible repeat' (first | exact trivial | (show _ ∧ _; refine aK ?_ ?_)))))); all_goals clear fct)
theorem f61_ok (f : ForM) (T : U.Tree f.nodes) (n : Int) (hn : thereN f.nodes n = true) : FnOK Tryz.prog 61 [] [eFor f, eInt n] [] (eBool (decide ((nd f.nodes (topN f.nodes n)).kind = 0))) := by
  have h84 := f84_ok f T n hn
  have ht := top_there T n hn
  obtain ⟨l, m⟩ := f
  simp only at h84 ht ⊢
  generalize topN l n = t at h84 ht ⊢
  obtain ⟨i, y, rfl, hy, hny⟩ := there_iff.1 ht
  rw [hny]
  obtain ⟨a1, a2, a3, a4, a5, a6, a7, a8, a9, a10⟩ := y
  refine FnOK.startC (rvs := [.tmp 4]) G G_good Tryz.func61 rfl Tryz.ntmps61 rfl rfl ?_; with_reducible refine wD ?_
  repeat' (first
    | refine gK ?_
    | ((first
      | ((with_reducible show IdxK _ _ _ _ _); refine IdxK.mk i (eNode _) rfl (node_get hy) ?_)
      | ((with_reducible show CallK _ _ 84 _ _ _ _); refine CallK.lit [] h84 c84 ⟨⟨rfl, rfl, trivial⟩, rfl, trivial⟩ rfl rfl ?_)) <;> with_reducible refine wK ?_)
    | ((with_reducible show (_ ∧ _) ∧ _ ∧ _); (refine eK ?_ ?_ <;> with_reducible repeat' (first | exact trivial | (show _ ∧ _; refine aK ?_ ?_)))))
end Go.Proofs.Heir
end
section
set_option linter.unusedSimpArgs false
set_option linter.unusedVariables false
namespace Go.Proofs.Heir
open Go Go.Am Go.RowKit Go.Lib
set_option maxRecDepth 100000
set_option maxHeartbeats 8000000
def firstA (c : ClassM) (n : Int) (a : AttrM) : List DueN := if watchesC c a.name = true then [⟨n, ⟨4, 0, a.name, false, true, ⟨#[]⟩, a.value, 0, 0, false⟩⟩] else []
def cameT (b : Bool) (n : Int) : List DueN := if b = true then [⟨n, ⟨1, 0, ⟨#[]⟩, false, false, ⟨#[]⟩, ⟨#[]⟩, 0, 0, false⟩⟩] else []
theorem firstA_len (c : ClassM) (n : Int) (a : AttrM) : (firstA c n a).length ≤ 1 := by
  unfold firstA
  split <;> simp
def firstC (f : ForM) (c : ClassM) (n : Int) : List DueN := (nd f.nodes n).attrs.flatMap (firstA c n) ++ cameT (hearsC c 1 && conF f n) n
def firstL (f : ForM) (st : List StateM) (d : DeskM) (cs : List ClassM) (n : Int) : List DueN :=
  if ((lookV f st d && elemV f.nodes n) && classB (stOf st n) d cs) = true then firstC f (classV (stOf st n) d cs) n else []
theorem f36_ok (f : ForM) (hs : SmallN f.nodes) (st : List StateM) (d : DeskM) (hd : SmallD d) (cs : List ClassM) (hc : SmallC cs) (n : Int) : FnOK Tryz.prog 36 [] [eFor f, eStates st, eDesk d, eClasses cs, eInt n] [] (eDuesN (firstL f st d cs n)) := by
  have h57 := f57_ok f hs st d hd cs
  have h58 := f58_ok ⟨f, st, d, cs⟩ n
  have h40 := f40_ok f hs n
  unfold firstL
  cases e0 : lookV f st d with
  | false =>
    rw [e0] at h57
    obtain ⟨l, m⟩ := f
    obtain ⟨d1, d2, d3, d4⟩ := d
    try simp only at h57
    refine FnOK.startC (rvs := [.tmp 10]) G G_good Tryz.func36 rfl Tryz.ntmps36 rfl rfl ?_; with_reducible refine wD ?_
    repeat' (first
    | refine gK ?_
    | (((with_reducible show CallK _ _ 57 _ _ _ _); refine CallK.val [] h57 c57 ⟨⟨rfl, rfl, trivial⟩, rfl, ⟨rfl, rfl, rfl, rfl, trivial⟩, rfl, trivial⟩ rfl rfl rfl ?_) <;> with_reducible refine wK ?_)
    | ((with_reducible show (_ ∧ _) ∧ _ ∧ _); (refine eK ?_ ?_ <;> with_reducible repeat' (first | exact trivial | (show _ ∧ _; refine aK ?_ ?_)))))
    all_goals exact .inr (.inr ⟨_, rfl⟩)
  | true =>
    rw [e0] at h57
    have hle : st.length = f.nodes.length := by unfold lookV at e0; simp only [Bool.and_eq_true, decide_eq_true_eq] at e0; exact e0.1.1
    cases e1 : elemV f.nodes n with
    | false =>
      rw [e1] at h58
      obtain ⟨l, m⟩ := f
      obtain ⟨d1, d2, d3, d4⟩ := d
      try simp only at h57 h58
      refine FnOK.startC (rvs := [.tmp 10]) G G_good Tryz.func36 rfl Tryz.ntmps36 rfl rfl ?_; with_reducible refine wD ?_
      repeat' (first
    | refine gK ?_
    | ((first
      | ((with_reducible show CallK _ _ 57 _ _ _ _); refine CallK.val [] h57 c57 ⟨⟨rfl, rfl, trivial⟩, rfl, ⟨rfl, rfl, rfl, rfl, trivial⟩, rfl, trivial⟩ rfl rfl rfl ?_)
      | ((with_reducible show CallK _ _ 58 _ _ _ _); refine CallK.lit [] h58 c58 ⟨⟨rfl, rfl, rfl, rfl, rfl, rfl, rfl, rfl, trivial⟩, rfl, trivial⟩ rfl rfl ?_)) <;> with_reducible refine wK ?_)
    | ((with_reducible show (_ ∧ _) ∧ _ ∧ _); (refine eK ?_ ?_ <;> with_reducible repeat' (first | exact trivial | (show _ ∧ _; refine aK ?_ ?_)))))
      all_goals exact .inr (.inr ⟨_, rfl⟩)
    | true =>
      rw [e1] at h58
      obtain ⟨i, s, rfl, hsi, hso⟩ := elem_at e1 hle
      rw [hso]
      obtain ⟨y, hy, hny⟩ : ∃ y, f.nodes[i]? = some y ∧ nd f.nodes i = y := ⟨_, List.getElem?_eq_getElem (by have := (List.getElem?_eq_some_iff.1 hsi).1; omega), nd_get (List.getElem?_eq_getElem _)⟩
      have hya := hs.attrs y (List.mem_of_getElem? hy)
      have h32 := f32_ok s d cs
      have hcv := small_classV hc s d
      have h27 := fun n => f27_ok (classV s d cs) hcv.hooks hcv.watch n
      have h25 := f25_ok (classV s d cs) hcv.hooks 1
      unfold firstC
      rw [hny]
      generalize classV s d cs = c at h32 h27 h25 ⊢
      cases e2 : classB s d cs with
      | false =>
        rw [e2] at h32
        obtain ⟨l, m⟩ := f
        obtain ⟨d1, d2, d3, d4⟩ := d
        obtain ⟨s1, s2, s3, s4⟩ := s
        obtain ⟨c1, c2, c3, c4, c5⟩ := c
        try simp only at h57 h58 hy h32
        refine FnOK.startC (rvs := [.tmp 10]) G G_good Tryz.func36 rfl Tryz.ntmps36 rfl rfl ?_; with_reducible refine wD ?_
        repeat' (first
    | refine gK ?_
    | ((first
      | ((with_reducible show CallK _ _ 57 _ _ _ _); refine CallK.val [] h57 c57 ⟨⟨rfl, rfl, trivial⟩, rfl, ⟨rfl, rfl, rfl, rfl, trivial⟩, rfl, trivial⟩ rfl rfl rfl ?_)
      | ((with_reducible show CallK _ _ 58 _ _ _ _); refine CallK.lit [] h58 c58 ⟨⟨rfl, rfl, rfl, rfl, rfl, rfl, rfl, rfl, trivial⟩, rfl, trivial⟩ rfl rfl ?_)
      | ((with_reducible show IdxK _ _ _ _ _); refine IdxK.mk i (eState _) rfl (state_get hsi) ?_)
      | ((with_reducible show CallK _ _ 32 _ _ _ _); refine CallK.val [] h32 c32 ⟨⟨rfl, rfl, rfl, rfl, trivial⟩, ⟨rfl, rfl, rfl, rfl, trivial⟩, rfl, trivial⟩ rfl rfl rfl ?_)) <;> with_reducible refine wK ?_)
    | ((with_reducible show (_ ∧ _) ∧ _ ∧ _); (refine eK ?_ ?_ <;> with_reducible repeat' (first | exact trivial | (show _ ∧ _; refine aK ?_ ?_)))))
        all_goals exact .inr (.inr ⟨_, rfl⟩)
      | true =>
        rw [e2] at h32
        rw [show ((true && true) && true) = true from rfl, if_pos rfl]
        obtain ⟨ks, hks⟩ : ∃ ks : Nat → List DueN, ks = fun k => (y.attrs.take k).flatMap (firstA c i) := ⟨_, rfl⟩
        have hkl : ∀ k, (ks k).length ≤ k := fun k => by
          rw [hks]; exact Nat.le_trans (flat_len _ (firstA_len c i) _) (by rw [List.length_take]; omega)
        have hk0 : ks 0 = [] := by rw [hks]; rfl
        have hke : ks y.attrs.length = y.attrs.flatMap (firstA c i) := by rw [hks]; show List.flatMap _ (y.attrs.take y.attrs.length) = _; rw [List.take_length]
        have hstep : ∀ (k : Nat) (x : AttrM), y.attrs[k]? = some x → ks (k + 1) = ks k ++ firstA c i x := fun k x hx => by rw [hks]; exact flat_step _ hx
        rw [← hke]
        unfold firstA at hstep
        clear hks hke e1
        obtain ⟨l, m⟩ := f
        obtain ⟨d1, d2, d3, d4⟩ := d
        obtain ⟨s1, s2, s3, s4⟩ := s
        obtain ⟨a1, a2, a3, a4, a5, a6, a7, a8, a9, a10⟩ := y
        try simp only at h57 h58 hy h32 hkl hstep hya h40 ⊢
        generalize hearsC c 1 = hb at h25 ⊢
        generalize conF ⟨l, m⟩ i = hcn at h40 ⊢
        generalize watchesC c = wf at h27 hstep
        obtain ⟨c1, c2, c3, c4, c5⟩ := c
        have hlm : (a5.map oAttr).length = a5.length := List.length_map ..
        refine FnOK.startC (rvs := [.tmp 10]) G G_good Tryz.func36 rfl Tryz.ntmps36 rfl rfl ?_; with_reducible refine wD ?_
        repeat' (first
    | refine gK ?_
    | ((first
      | ((with_reducible show CallK _ _ 57 _ _ _ _); refine CallK.val [] h57 c57 ⟨⟨rfl, rfl, trivial⟩, rfl, ⟨rfl, rfl, rfl, rfl, trivial⟩, rfl, trivial⟩ rfl rfl rfl ?_)
      | ((with_reducible show CallK _ _ 58 _ _ _ _); refine CallK.lit [] h58 c58 ⟨⟨rfl, rfl, rfl, rfl, rfl, rfl, rfl, rfl, trivial⟩, rfl, trivial⟩ rfl rfl ?_)
      | ((with_reducible show IdxK _ _ _ _ _); first | refine IdxK.mk i (eState _) rfl (state_get hsi) ?_ | refine IdxK.mk i (eNode _) rfl (node_get hy) ?_)
      | ((with_reducible show CallK _ _ 32 _ _ _ _); refine CallK.val [] h32 c32 ⟨⟨rfl, rfl, rfl, rfl, trivial⟩, ⟨rfl, rfl, rfl, rfl, trivial⟩, rfl, trivial⟩ rfl rfl rfl ?_)) <;> with_reducible refine wK ?_)
    | ((with_reducible show (_ ∧ _) ∧ _ ∧ _); (refine eK ?_ ?_ <;> with_reducible repeat' (first | exact trivial | (show _ ∧ _; refine aK ?_ ?_)))))
        refine LoopK.ghost 14 141 11 rfl rfl ?_
        refine LoopK.use G G_good (fun (k : Nat) => [(4, eInt i), (5, .ptr 50 0 0), (13, .ptr 130 0 0), (14, .own 141 0 (ks k).length), (50, eAttrs a5), (51, eInt a5.length), (52, eInt k)])
          (fun k => [(50, .live 2 [eFor ⟨l, m⟩] false), (130, .live 5 [eClass ⟨c1, c2, c3, c4, c5⟩] false), (141, rDuesN (ks k))]) (fun k => k ≤ a5.length) (fun k => a5.length - k) 0 (Nat.zero_le _)
          (by rw [hk0]; exact ⟨⟨rfl, rfl⟩, ⟨rfl, ⟨rfl, rfl⟩, ⟨rfl, rfl⟩, ⟨rfl, rfl⟩, rfl, by show (a5.length : Int) = ((a5.map oAttr).length : Int); rw [hlm], rfl, trivial⟩, ⟨⟨rfl, rfl, trivial⟩, trivial⟩, ⟨⟨rfl, rfl, rfl, rfl, rfl, trivial⟩, trivial⟩, ⟨.refl rfl, noRef_duesN _⟩, trivial⟩) ?_
        intro k hk
        with_reducible refine wK ?_
        have hkk := hkl k
        refine IfK.mk (fun h1 => ?_) (fun h1 => ?_) <;> (try simp only [castN] at h1) <;> with_reducible refine wK ?_
        · have hk' : k < a5.length := by simp only [decide_eq_true_eq] at h1; omega
          obtain ⟨⟨u1, u2⟩, hx⟩ : ∃ x, a5[k]? = some x := ⟨_, List.getElem?_eq_getElem hk'⟩
          have hstp := hstep k _ hx
          have h27' := h27 u1
          try simp only at hstp
          clear hstep h27
          generalize wf u1 = wb at h27' hstp
          refine IdxK.mk k (eAttr _) rfl (attr_get hx) ?_; with_reducible refine wK ?_
          refine CallK.lit [] h27' c27 ⟨⟨rfl, rfl, rfl, rfl, rfl, trivial⟩, rfl, trivial⟩ rfl rfl ?_; with_reducible refine wK ?_
          cases wb with
          | false =>
            rw [if_neg (by simp), List.append_nil] at hstp
            repeat' (first
    | refine gK ?_
    | ((with_reducible show (_ ∧ _) ∧ _ ∧ _); (refine eK ?_ ?_ <;> with_reducible repeat' (first | exact trivial | (show _ ∧ _; refine aK ?_ ?_)))))
            refine NextK.mk (k + 1) (by omega) (by omega) ⟨⟨rfl, rfl⟩, ⟨rfl, ⟨rfl, rfl⟩, ⟨rfl, rfl⟩, ⟨rfl, by rw [hstp]⟩, rfl, rfl, by show ((k + 1 : Nat) : Int) = (k : Int) + 1; omega, trivial⟩, ⟨⟨rfl, rfl, trivial⟩, trivial⟩, ⟨⟨rfl, rfl, rfl, rfl, rfl, trivial⟩, trivial⟩, ⟨by rw [hstp]; exact .refl (noRef_duesN _), noRef_duesN _⟩, trivial⟩
          | true =>
            rw [if_pos rfl] at hstp
            repeat' (first
    | refine gK ?_
    | (((with_reducible show AppK _ _ _ _ _ _ _ _ _ _); refine AppK.mk ((ks k).map oDueN) [eDueN ⟨(i : Int), ⟨4, 0, u1, false, true, ⟨#[]⟩, u2, 0, 0, false⟩⟩] ⟨rfl, (List.length_map ..).symm, rfl⟩ ⟨rfl, rfl, rfl⟩ rfl (by simp; omega) (by simp; omega) ?_) <;> with_reducible refine wK ?_)
    | ((with_reducible show (_ ∧ _) ∧ _ ∧ _); (refine eK ?_ ?_ <;> with_reducible repeat' (first | exact trivial | (show _ ∧ _; refine aK ?_ ?_)))))
            refine NextK.mk (k + 1) (by omega) (by omega) ⟨⟨rfl, rfl⟩, ⟨rfl, ⟨rfl, rfl⟩, ⟨rfl, rfl⟩, ⟨rfl, by rw [hstp]; simp⟩, rfl, rfl, by show ((k + 1 : Nat) : Int) = (k : Int) + 1; omega, trivial⟩, ⟨⟨rfl, rfl, trivial⟩, trivial⟩, ⟨⟨rfl, rfl, rfl, rfl, rfl, trivial⟩, trivial⟩, ⟨by rw [hstp, List.map_append]; exact .refl (by rw [← List.map_append]; exact noRef_duesN _), noRef_duesN _⟩, trivial⟩
        · have hkn : k = a5.length := by simp only [decide_eq_false_iff_not] at h1; omega
          subst hkn
          clear hstep h27
          unfold cameT
          refine CallK.lit [] h25 c25 ⟨⟨rfl, rfl, rfl, rfl, rfl, trivial⟩, rfl, trivial⟩ rfl rfl ?_; with_reducible refine wK ?_
          cases hb with
          | false =>
            rw [Bool.false_and, if_neg (by simp), List.append_nil]
            repeat' (first
    | refine gK ?_
    | ((with_reducible show (_ ∧ _) ∧ _ ∧ _); (refine eK ?_ ?_ <;> with_reducible repeat' (first | exact trivial | (show _ ∧ _; refine aK ?_ ?_)))))
            all_goals exact frz_duesN rfl rfl rfl rfl
          | true =>
            rw [Bool.true_and]
            repeat' (first
    | refine gK ?_
    | (((with_reducible show CallK _ _ 40 _ _ _ _); refine CallK.lit [] h40 c40 ⟨⟨rfl, rfl, trivial⟩, rfl, trivial⟩ rfl rfl ?_) <;> with_reducible refine wK ?_)
    | ((with_reducible show (_ ∧ _) ∧ _ ∧ _); (refine eK ?_ ?_ <;> with_reducible repeat' (first | exact trivial | (show _ ∧ _; refine aK ?_ ?_)))))
            cases hcn with
            | false =>
              rw [if_neg (by simp), List.append_nil]
              repeat' (first
    | refine gK ?_
    | ((with_reducible show (_ ∧ _) ∧ _ ∧ _); (refine eK ?_ ?_ <;> with_reducible repeat' (first | exact trivial | (show _ ∧ _; refine aK ?_ ?_)))))
              all_goals exact frz_duesN rfl rfl rfl rfl
            | true =>
              rw [if_pos rfl]
              repeat' (first
    | refine gK ?_
    | (((with_reducible show AppK _ _ _ _ _ _ _ _ _ _); refine AppK.mk ((ks a5.length).map oDueN) [eDueN ⟨(i : Int), ⟨1, 0, ⟨#[]⟩, false, false, ⟨#[]⟩, ⟨#[]⟩, 0, 0, false⟩⟩] ⟨rfl, (List.length_map ..).symm, rfl⟩ ⟨rfl, rfl, rfl⟩ rfl (by simp; omega) (by simp; omega) ?_) <;> with_reducible refine wK ?_)
    | ((with_reducible show (_ ∧ _) ∧ _ ∧ _); (refine eK ?_ ?_ <;> with_reducible repeat' (first | exact trivial | (show _ ∧ _; refine aK ?_ ?_)))))
              all_goals exact frz_duesN rfl rfl (by rw [List.map_append]; rfl) (by simp)
end Go.Proofs.Heir
end
section
set_option linter.unusedSimpArgs false
set_option linter.unusedVariables false
namespace Go.Proofs.Heir
open Go Go.Am Go.RowKit Go.Lib
set_option maxRecDepth 100000
set_option maxHeartbeats 8000000
def hookI (c : ClassM) (k : Int) : Int := idxI (fun h => decide (h.kind = k)) c.hooks
theorem hook_cases (c : ClassM) (k : Int) : (hookI c k = -1 ∧ hearsC c k = false ∧ progC c k = []) ∨ ∃ (i : Nat) (h : HookM), hookI c k = i ∧ c.hooks[i]? = some h ∧ hearsC c k = true ∧ progC c k = h.prog := by
  unfold hookI hearsC progC hookAt idxI
  cases e : c.hooks.findIdx? (fun h => decide (h.kind = k)) with
  | none =>
    have : c.hooks.find? (fun h => decide (h.kind = k)) = none := by
      rw [List.find?_eq_none]
      rw [List.findIdx?_eq_none_iff] at e
      intro x hx; rw [e x hx]; simp
    rw [this]
    exact .inl ⟨rfl, rfl, rfl⟩
  | some i =>
    obtain ⟨h1, h2, h3⟩ := List.findIdx?_eq_some_iff_getElem.1 e
    have : c.hooks.find? (fun h => decide (h.kind = k)) = some c.hooks[i] := by
      rw [List.find?_eq_some_iff_getElem]
      refine ⟨h2, i, h1, rfl, fun j hj => ?_⟩
      have := h3 j hj
      simpa using this
    rw [this]
    exact .inr ⟨i, _, rfl, List.getElem?_eq_getElem h1, rfl, rfl⟩
theorem f54_ok (c : ClassM) (hl : c.hooks.length ≤ 100000) (n : Int) : FnOK Tryz.prog 54 [] [eClass c, eInt n] [] (eInt (hookI c n)) := by
  unfold hookI
  obtain ⟨c1, c2, c3, c4, c5⟩ := c
  try simp only at hl ⊢
  have hlm : (c5.map oHook).length = c5.length := List.length_map ..
  refine FnOK.startC (rvs := [.tmp 4]) G G_good Tryz.func54 rfl Tryz.ntmps54 rfl rfl ?_; with_reducible refine wD ?_
  refine LoopK.use G G_good (fun (k : Nat) => [(1, eInt n), (2, .ptr 20 0 0), (5, eInt k)]) (fun _ => [(20, .live 5 [eClass ⟨c1, c2, c3, c4, c5⟩] false)]) (fun k => k ≤ c5.length ∧ ∀ j x, j < k → c5[j]? = some x → decide (x.kind = n) = false) (fun k => c5.length - k) 0 ⟨Nat.zero_le _, fun j x h => by omega⟩
    ⟨⟨rfl, rfl⟩, ⟨rfl, ⟨rfl, rfl⟩, rfl, trivial⟩, ⟨⟨rfl, rfl, rfl, rfl, rfl, trivial⟩, trivial⟩, trivial⟩ ?_
  rintro k ⟨hk, hno⟩
  with_reducible refine wK ?_
  refine IfK.mk (fun h1 => ?_) (fun h1 => ?_) <;> (try simp only [castN] at h1) <;> with_reducible refine wK ?_
  · simp only [decide_eq_true_eq] at h1
    have hk' : k < c5.length := by omega
    obtain ⟨⟨u1, u2⟩, ha⟩ : ∃ a, c5[k]? = some a := ⟨_, List.getElem?_eq_getElem hk'⟩
    refine IdxK.mk k (eHook ⟨u1, u2⟩) rfl (hook_get ha) ?_; with_reducible refine wK ?_
    refine IfK.mk (fun h2 => ?_) (fun h2 => ?_) <;> (try simp only [castN] at h2) <;> with_reducible refine wK ?_
    · (refine eK ?_ ?_ <;> with_reducible repeat' (first | exact trivial | (show _ ∧ _; refine aK ?_ ?_)))
      exact idxI_hit ha h2 hno
    · refine nK ?_; with_reducible refine wK ?_
      refine NextK.mk (k + 1) ⟨by omega, fun j x hj hx => ?_⟩ (by omega) ⟨⟨rfl, rfl⟩, ⟨rfl, ⟨rfl, rfl⟩, by show ((k + 1 : Nat) : Int) = (k : Int) + 1; omega, trivial⟩, ⟨⟨rfl, rfl, rfl, rfl, rfl, trivial⟩, trivial⟩, trivial⟩
      rcases Nat.lt_or_ge j k with h6 | h6
      · exact hno j x h6 hx
      · have : j = k := by omega
        subst this
        rw [ha] at hx; cases hx; exact h2
  · (refine eK ?_ ?_ <;> with_reducible repeat' (first | exact trivial | (show _ ∧ _; refine aK ?_ ?_)))
    have : k = c5.length := by simp only [decide_eq_false_iff_not] at h1; omega
    exact idxI_none fun j x hx => hno j x (by have := (List.getElem?_eq_some_iff.1 hx).1; omega) hx
theorem f26_ok (c : ClassM) (hl : c.hooks.length ≤ 100000) (n : Int) : FnOK Tryz.prog 26 [] [eClass c, eInt n] [] (eBool (hearsC c n)) := by
  have h54 := f54_ok c hl n
  rcases hook_cases c n with ⟨h1, h2, _⟩ | ⟨i, h, h1, _, h2, _⟩
  all_goals
    rw [h1] at h54
    rw [h2]
    obtain ⟨c1, c2, c3, c4, c5⟩ := c
    refine FnOK.startC (rvs := [.tmp 4]) G G_good Tryz.func26 rfl Tryz.ntmps26 rfl rfl ?_; with_reducible refine wD ?_
    refine CallK.lit [] h54 c54 ⟨⟨rfl, rfl, rfl, rfl, rfl, trivial⟩, rfl, trivial⟩ rfl rfl ?_; with_reducible refine wK ?_
    (refine eK ?_ ?_ <;> with_reducible repeat' (first | exact trivial | (show _ ∧ _; refine aK ?_ ?_)))
    all_goals first | rfl | exact decide_eq_true (by omega)
theorem f31_ok (c : ClassM) (hl : c.hooks.length ≤ 100000) (n : Int) : FnOK Tryz.prog 31 [] [eClass c, eInt n] [] (eOps (progC c n)) := by
  have h54 := f54_ok c hl n
  rcases hook_cases c n with ⟨h1, _, h2⟩ | ⟨i, ⟨u1, u2⟩, h1, hi, _, h2⟩
  · rw [h1] at h54
    rw [h2]
    obtain ⟨c1, c2, c3, c4, c5⟩ := c
    refine FnOK.startC (rvs := [.tmp 4]) G G_good Tryz.func31 rfl Tryz.ntmps31 rfl rfl ?_; with_reducible refine wD ?_
    repeat' (first
    | refine gK ?_
    | (((with_reducible show CallK _ _ 54 _ _ _ _); refine CallK.lit [] h54 c54 ⟨⟨rfl, rfl, rfl, rfl, rfl, trivial⟩, rfl, trivial⟩ rfl rfl ?_) <;> with_reducible refine wK ?_)
    | ((with_reducible show (_ ∧ _) ∧ _ ∧ _); (refine eK ?_ ?_ <;> with_reducible repeat' (first | exact trivial | (show _ ∧ _; refine aK ?_ ?_)))))
    all_goals exact .inr (.inr ⟨_, rfl⟩)
  · rw [h1] at h54
    rw [h2]
    obtain ⟨c1, c2, c3, c4, c5⟩ := c
    try simp only at hi ⊢
    refine FnOK.startC (rvs := [.tmp 4]) G G_good Tryz.func31 rfl Tryz.ntmps31 rfl rfl ?_; with_reducible refine wD ?_
    refine CallK.lit [] h54 c54 ⟨⟨rfl, rfl, rfl, rfl, rfl, trivial⟩, rfl, trivial⟩ rfl rfl ?_; with_reducible refine wK ?_
    (have fct := (show ¬ (i : Int) < 0 by omega); (repeat' (first
    | refine gF ?_
    | (((with_reducible show IdxK _ _ _ _ _); refine IdxK.mk i (eHook ⟨u1, u2⟩) rfl (hook_get hi) ?_) <;> with_reducible refine wK ?_)
    | ((with_reducible show (_ ∧ _) ∧ _ ∧ _); (refine eK ?_ ?_ <;> with_reducible repeat' (first | exact trivial | (show _ ∧ _; refine aK ?_ ?_)))))); all_goals clear fct)
theorem f28_ok (c : ClassM) (hl : c.hooks.length ≤ 100000) (hw : c.watch.length ≤ 100000) (s : ByteArray) : FnOK Tryz.prog 28 [] [eClass c, eStr s] [] (eBool (watchesC c s)) := by
  have h26 := f26_ok c hl 4
  unfold watchesC
  have hyes : ∀ (k : Nat) (x : ByteArray), c.watch[k]? = some x → x = s → hasW c.watch s = true := fun k x hx e => by
    unfold hasW; rw [List.any_eq_true]; exact ⟨x, List.mem_of_getElem? hx, decide_eq_true e⟩
  have hall : (∀ (j : Nat) (x : ByteArray), c.watch[j]? = some x → ¬ x = s) → hasW c.watch s = false := fun h => by
    unfold hasW; rw [List.any_eq_false]; intro x hx
    obtain ⟨j, hj⟩ := List.mem_iff_getElem?.1 hx
    rw [decide_eq_false (h j x hj)]; simp
  generalize hasW c.watch s = hs at hyes hall ⊢
  generalize hearsC c 4 = hb at h26 ⊢
  obtain ⟨c1, c2, c3, c4, c5⟩ := c
  try simp only at hw hyes hall
  have hlm : (c2.map oStr).length = c2.length := List.length_map ..
  refine FnOK.startC (rvs := [.tmp 4]) G G_good Tryz.func28 rfl Tryz.ntmps28 rfl rfl ?_; with_reducible refine wD ?_
  refine LoopK.use G G_good (fun (k : Nat) => [(1, eStr s), (2, .ptr 20 0 0), (5, eInt k)]) (fun _ => [(20, .live 5 [eClass ⟨c1, c2, c3, c4, c5⟩] false)]) (fun k => k ≤ c2.length ∧ ∀ (j : Nat) (x : ByteArray), j < k → c2[j]? = some x → ¬ x = s) (fun k => c2.length - k) 0 ⟨Nat.zero_le _, fun j x h => by omega⟩
    ⟨⟨rfl, rfl⟩, ⟨rfl, ⟨rfl, rfl⟩, rfl, trivial⟩, ⟨⟨rfl, rfl, rfl, rfl, rfl, trivial⟩, trivial⟩, trivial⟩ ?_
  rintro k ⟨hk, hno⟩
  with_reducible refine wK ?_
  refine IfK.mk (fun h1 => ?_) (fun h1 => ?_) <;> (try simp only [castN] at h1) <;> with_reducible refine wK ?_
  · simp only [decide_eq_true_eq] at h1
    have hk' : k < c2.length := by omega
    obtain ⟨u, ha⟩ : ∃ a, c2[k]? = some a := ⟨_, List.getElem?_eq_getElem hk'⟩
    refine IdxK.mk k (eStr u) rfl (strs_get ha) ?_; with_reducible refine wK ?_
    refine IfK.mk (fun h2 => ?_) (fun h2 => ?_) <;> (try simp only [castN] at h2) <;> with_reducible refine wK ?_
    · simp only [decide_eq_true_eq] at h2
      rw [hyes k u ha h2, Bool.and_true]
      refine CallK.lit [] h26 c26 ⟨⟨rfl, rfl, rfl, rfl, rfl, trivial⟩, rfl, trivial⟩ rfl rfl ?_; with_reducible refine wK ?_
      (refine eK ?_ ?_ <;> with_reducible repeat' (first | exact trivial | (show _ ∧ _; refine aK ?_ ?_)))
    · simp only [decide_eq_false_iff_not] at h2
      refine nK ?_; with_reducible refine wK ?_
      refine NextK.mk (k + 1) ⟨by omega, fun j x hj hx => ?_⟩ (by omega) ⟨⟨rfl, rfl⟩, ⟨rfl, ⟨rfl, rfl⟩, by show ((k + 1 : Nat) : Int) = (k : Int) + 1; omega, trivial⟩, ⟨⟨rfl, rfl, rfl, rfl, rfl, trivial⟩, trivial⟩, trivial⟩
      rcases Nat.lt_or_ge j k with h6 | h6
      · exact hno j x h6 hx
      · have : j = k := by omega
        subst this
        rw [ha] at hx; cases hx; exact h2
  · have : k = c2.length := by simp only [decide_eq_false_iff_not] at h1; omega
    rw [hall fun j x hx => hno j x (by have := (List.getElem?_eq_some_iff.1 hx).1; omega) hx, Bool.and_false]
    (refine eK ?_ ?_ <;> with_reducible repeat' (first | exact trivial | (show _ ∧ _; refine aK ?_ ?_)))
def oneV (f : ForM) (s : StateM) (d : DeskM) (cs : List ClassM) (x : NoteM) : TodoM × Bool :=
  if s.phase = 1 ∧ x.kind = 1 then (⟨9, fateD (nd f.nodes x.node) d, ⟨#[]⟩, false, false, ⟨#[]⟩, ⟨#[]⟩, 0, 0, false⟩, decide (0 ≤ fateD (nd f.nodes x.node) d))
  else if s.phase = 3 ∧ classB s d cs = true ∧ 1 ≤ x.kind ∧ x.kind ≤ 4 ∧ hearsC (classV s d cs) x.kind = true ∧ (x.kind = 4 → watchesC (classV s d cs) x.name = true) then (callT x, true)
  else (noTodo, false)
theorem f60_ok (f : ForM) (st : List StateM) (d : DeskM) (hd : SmallD d) (hr : rightD d = true) (cs : List ClassM) (hc : SmallC cs) (x : NoteM) (i : Nat) (s : StateM) (y : NodeM) (hi : x.node = i) (hx : st[i]? = some s) (hy : f.nodes[i]? = some y) : FnOK Tryz.prog 60 [] [eFor f, eStates st, eDesk d, eClasses cs, eNote x] [] (.tup [eTodo (oneV f s d cs x).1, eBool (oneV f s d cs x).2]) := by
  have h20 := f20_ok f i y hy d hd hr
  have h33 := f33_ok s d cs
  unfold oneV callT noTodo
  rw [hi, nd_get hy]
  have hge := fate_ge y d
  generalize fateD y d = at' at h20 hge ⊢
  obtain ⟨l, m⟩ := f
  obtain ⟨d1, d2, d3, d4⟩ := d
  obtain ⟨s1, s2, s3, s4⟩ := s
  obtain ⟨x1, x2, x3, x4, x5, x6, x7, x8, x9⟩ := x
  try simp only at hi hy h33 h20 ⊢
  subst hi
  by_cases p1 : s1 = 1 ∧ x1 = 1
  · obtain ⟨rfl, rfl⟩ := p1
    rw [if_pos ⟨rfl, rfl⟩]
    refine FnOK.startC (rvs := [.cell 10 72, .tmp 11]) G G_good Tryz.func60 rfl Tryz.ntmps60 rfl rfl ?_; with_reducible refine wD ?_
    refine IdxK.mk i (eState _) rfl (state_get hx) ?_; with_reducible refine wK ?_
    repeat' (first
    | refine gK ?_
    | (((with_reducible show CallK _ _ 20 _ _ _ _); refine CallK.lit [] h20 c20 ⟨⟨rfl, rfl, trivial⟩, rfl, ⟨rfl, rfl, rfl, rfl, trivial⟩, trivial⟩ rfl rfl ?_) <;> with_reducible refine wK ?_)
    | ((with_reducible show (_ ∧ _) ∧ _ ∧ _); (refine eK ?_ ?_ <;> with_reducible repeat' (first | exact trivial | (show _ ∧ _; refine aK ?_ ?_)))))
    all_goals first | rfl | simp
  rw [if_neg p1]
  have hcase : classAt ⟨s1, s2, s3, s4⟩ ⟨d1, d2, d3, d4⟩ cs.length = -1 ∨ ∃ (k : Nat) (c : ClassM), classAt ⟨s1, s2, s3, s4⟩ ⟨d1, d2, d3, d4⟩ cs.length = k ∧ cs[k]? = some c := by
    rcases classAt_cases ⟨s1, s2, s3, s4⟩ ⟨d1, d2, d3, d4⟩ cs.length with e | ⟨k, hk, e⟩
    · exact .inl e
    · exact .inr ⟨k, _, e, List.getElem?_eq_getElem hk⟩
  rcases hcase with e | ⟨k, c, e, hck⟩
  · rw [(classV_no e).1, (classV_no e).2, if_neg (by simp)]
    rw [e] at h33
    refine FnOK.startC (rvs := [.cell 10 72, .tmp 11]) G G_good Tryz.func60 rfl Tryz.ntmps60 rfl rfl ?_; with_reducible refine wD ?_
    refine IdxK.mk i (eState _) rfl (state_get hx) ?_; with_reducible refine wK ?_
    by_cases q1 : s1 = 1
    · have q2 : ¬ x1 = 1 := fun h => p1 ⟨q1, h⟩
      (have fct := And.intro (eq_true q1) ((eq_false q2)); (repeat' (first
    | refine gF ?_
    | (((with_reducible show CallK _ _ 33 _ _ _ _); refine CallK.lit [] h33 c33 ⟨⟨rfl, rfl, rfl, rfl, trivial⟩, ⟨rfl, rfl, rfl, rfl, trivial⟩, rfl, trivial⟩ rfl rfl ?_) <;> with_reducible refine wK ?_)
    | ((with_reducible show (_ ∧ _) ∧ _ ∧ _); (refine eK ?_ ?_ <;> with_reducible repeat' (first | exact trivial | (show _ ∧ _; refine aK ?_ ?_)))))); all_goals clear fct)
      all_goals first | rfl | simp
    · by_cases q3 : s1 = 3
      · (have fct := And.intro (eq_false q1) ((eq_true q3)); (repeat' (first
    | refine gF ?_
    | (((with_reducible show CallK _ _ 33 _ _ _ _); refine CallK.lit [] h33 c33 ⟨⟨rfl, rfl, rfl, rfl, trivial⟩, ⟨rfl, rfl, rfl, rfl, trivial⟩, rfl, trivial⟩ rfl rfl ?_) <;> with_reducible refine wK ?_)
    | ((with_reducible show (_ ∧ _) ∧ _ ∧ _); (refine eK ?_ ?_ <;> with_reducible repeat' (first | exact trivial | (show _ ∧ _; refine aK ?_ ?_)))))); all_goals clear fct)
        all_goals first | rfl | simp
      · (have fct := And.intro (eq_false q1) ((eq_false q3)); (repeat' (first
    | refine gF ?_
    | (((with_reducible show CallK _ _ 33 _ _ _ _); refine CallK.lit [] h33 c33 ⟨⟨rfl, rfl, rfl, rfl, trivial⟩, ⟨rfl, rfl, rfl, rfl, trivial⟩, rfl, trivial⟩ rfl rfl ?_) <;> with_reducible refine wK ?_)
    | ((with_reducible show (_ ∧ _) ∧ _ ∧ _); (refine eK ?_ ?_ <;> with_reducible repeat' (first | exact trivial | (show _ ∧ _; refine aK ?_ ?_)))))); all_goals clear fct)
        all_goals first | rfl | simp
  · have hcs := hc c (List.mem_of_getElem? hck)
    have h26 := f26_ok c hcs.hooks x1
    have h28 := f28_ok c hcs.hooks hcs.watch x5
    rw [(classV_at e hck).1, (classV_at e hck).2]
    rw [e] at h33
    have hk0 : ¬ (k : Int) < 0 := by omega
    generalize hearsC c x1 = hb at h26 ⊢
    generalize watchesC c x5 = wb at h28 ⊢
    obtain ⟨c1, c2, c3, c4, c5⟩ := c
    by_cases q3 : s1 = 3
    · subst q3
      have q1 : ¬ (3 : Int) = 1 := by omega
      by_cases k1 : x1 < 1
      · rw [if_neg fun h => by have := h.2.2.1; omega]
        refine FnOK.startC (rvs := [.cell 10 72, .tmp 11]) G G_good Tryz.func60 rfl Tryz.ntmps60 rfl rfl ?_; with_reducible refine wD ?_
        refine IdxK.mk i (eState _) rfl (state_get hx) ?_; with_reducible refine wK ?_
        (have fct := And.intro (eq_false hk0) ((eq_true k1)); (repeat' (first
    | refine gF ?_
    | (((with_reducible show CallK _ _ 33 _ _ _ _); refine CallK.lit [] h33 c33 ⟨⟨rfl, rfl, rfl, rfl, trivial⟩, ⟨rfl, rfl, rfl, rfl, trivial⟩, rfl, trivial⟩ rfl rfl ?_) <;> with_reducible refine wK ?_)
    | ((with_reducible show (_ ∧ _) ∧ _ ∧ _); (refine eK ?_ ?_ <;> with_reducible repeat' (first | exact trivial | (show _ ∧ _; refine aK ?_ ?_)))))); all_goals clear fct)
        all_goals first | rfl | simp
      by_cases k4 : 4 < x1
      · rw [if_neg fun h => by have := h.2.2.2.1; omega]
        refine FnOK.startC (rvs := [.cell 10 72, .tmp 11]) G G_good Tryz.func60 rfl Tryz.ntmps60 rfl rfl ?_; with_reducible refine wD ?_
        refine IdxK.mk i (eState _) rfl (state_get hx) ?_; with_reducible refine wK ?_
        (have fct := And.intro (eq_false hk0) (And.intro (eq_false k1) ((eq_true k4))); (repeat' (first
    | refine gF ?_
    | (((with_reducible show CallK _ _ 33 _ _ _ _); refine CallK.lit [] h33 c33 ⟨⟨rfl, rfl, rfl, rfl, trivial⟩, ⟨rfl, rfl, rfl, rfl, trivial⟩, rfl, trivial⟩ rfl rfl ?_) <;> with_reducible refine wK ?_)
    | ((with_reducible show (_ ∧ _) ∧ _ ∧ _); (refine eK ?_ ?_ <;> with_reducible repeat' (first | exact trivial | (show _ ∧ _; refine aK ?_ ?_)))))); all_goals clear fct)
        all_goals first | rfl | simp
      cases hb with
      | false =>
        rw [if_neg (by simp)]
        refine FnOK.startC (rvs := [.cell 10 72, .tmp 11]) G G_good Tryz.func60 rfl Tryz.ntmps60 rfl rfl ?_; with_reducible refine wD ?_
        refine IdxK.mk i (eState _) rfl (state_get hx) ?_; with_reducible refine wK ?_
        (have fct := And.intro (eq_false hk0) (And.intro (eq_false k1) ((eq_false k4))); (repeat' (first
    | refine gF ?_
    | ((first
      | ((with_reducible show CallK _ _ 33 _ _ _ _); refine CallK.lit [] h33 c33 ⟨⟨rfl, rfl, rfl, rfl, trivial⟩, ⟨rfl, rfl, rfl, rfl, trivial⟩, rfl, trivial⟩ rfl rfl ?_)
      | ((with_reducible show IdxK _ _ _ _ _); refine IdxK.mk k (eClass ⟨c1, c2, c3, c4, c5⟩) rfl (class_get hck) ?_)
      | ((with_reducible show CallK _ _ 26 _ _ _ _); refine CallK.lit [] h26 c26 ⟨⟨rfl, rfl, rfl, rfl, rfl, trivial⟩, rfl, trivial⟩ rfl rfl ?_)) <;> with_reducible refine wK ?_)
    | ((with_reducible show (_ ∧ _) ∧ _ ∧ _); (refine eK ?_ ?_ <;> with_reducible repeat' (first | exact trivial | (show _ ∧ _; refine aK ?_ ?_)))))); all_goals clear fct)
        all_goals first | rfl | simp
      | true =>
        by_cases k5 : x1 = 4
        · subst k5
          cases wb with
          | false =>
            rw [if_neg (by simp)]
            refine FnOK.startC (rvs := [.cell 10 72, .tmp 11]) G G_good Tryz.func60 rfl Tryz.ntmps60 rfl rfl ?_; with_reducible refine wD ?_
            refine IdxK.mk i (eState _) rfl (state_get hx) ?_; with_reducible refine wK ?_
            (have fct := (eq_false hk0); (repeat' (first
    | refine gF ?_
    | ((first
      | ((with_reducible show CallK _ _ 33 _ _ _ _); refine CallK.lit [] h33 c33 ⟨⟨rfl, rfl, rfl, rfl, trivial⟩, ⟨rfl, rfl, rfl, rfl, trivial⟩, rfl, trivial⟩ rfl rfl ?_)
      | ((with_reducible show IdxK _ _ _ _ _); refine IdxK.mk k (eClass ⟨c1, c2, c3, c4, c5⟩) rfl (class_get hck) ?_)
      | ((with_reducible show CallK _ _ 26 _ _ _ _); refine CallK.lit [] h26 c26 ⟨⟨rfl, rfl, rfl, rfl, rfl, trivial⟩, rfl, trivial⟩ rfl rfl ?_)
      | ((with_reducible show CallK _ _ 28 _ _ _ _); refine CallK.lit [] h28 c28 ⟨⟨rfl, rfl, rfl, rfl, rfl, trivial⟩, rfl, trivial⟩ rfl rfl ?_)) <;> with_reducible refine wK ?_)
    | ((with_reducible show (_ ∧ _) ∧ _ ∧ _); (refine eK ?_ ?_ <;> with_reducible repeat' (first | exact trivial | (show _ ∧ _; refine aK ?_ ?_)))))); all_goals clear fct)
            all_goals first | rfl | simp
          | true =>
            rw [if_pos (by simp)]
            refine FnOK.startC (rvs := [.cell 10 72, .tmp 11]) G G_good Tryz.func60 rfl Tryz.ntmps60 rfl rfl ?_; with_reducible refine wD ?_
            refine IdxK.mk i (eState _) rfl (state_get hx) ?_; with_reducible refine wK ?_
            (have fct := (eq_false hk0); (repeat' (first
    | refine gF ?_
    | ((first
      | ((with_reducible show CallK _ _ 33 _ _ _ _); refine CallK.lit [] h33 c33 ⟨⟨rfl, rfl, rfl, rfl, trivial⟩, ⟨rfl, rfl, rfl, rfl, trivial⟩, rfl, trivial⟩ rfl rfl ?_)
      | ((with_reducible show IdxK _ _ _ _ _); refine IdxK.mk k (eClass ⟨c1, c2, c3, c4, c5⟩) rfl (class_get hck) ?_)
      | ((with_reducible show CallK _ _ 26 _ _ _ _); refine CallK.lit [] h26 c26 ⟨⟨rfl, rfl, rfl, rfl, rfl, trivial⟩, rfl, trivial⟩ rfl rfl ?_)
      | ((with_reducible show CallK _ _ 28 _ _ _ _); refine CallK.lit [] h28 c28 ⟨⟨rfl, rfl, rfl, rfl, rfl, trivial⟩, rfl, trivial⟩ rfl rfl ?_)) <;> with_reducible refine wK ?_)
    | ((with_reducible show (_ ∧ _) ∧ _ ∧ _); (refine eK ?_ ?_ <;> with_reducible repeat' (first | exact trivial | (show _ ∧ _; refine aK ?_ ?_)))))); all_goals clear fct)
            all_goals first | rfl | simp
        · rw [if_pos ⟨rfl, rfl, by omega, by omega, rfl, fun h => absurd h k5⟩]
          refine FnOK.startC (rvs := [.cell 10 72, .tmp 11]) G G_good Tryz.func60 rfl Tryz.ntmps60 rfl rfl ?_; with_reducible refine wD ?_
          refine IdxK.mk i (eState _) rfl (state_get hx) ?_; with_reducible refine wK ?_
          (have fct := And.intro (eq_false hk0) (And.intro (eq_false k1) (And.intro (eq_false k4) ((eq_false k5)))); (repeat' (first
    | refine gF ?_
    | ((first
      | ((with_reducible show CallK _ _ 33 _ _ _ _); refine CallK.lit [] h33 c33 ⟨⟨rfl, rfl, rfl, rfl, trivial⟩, ⟨rfl, rfl, rfl, rfl, trivial⟩, rfl, trivial⟩ rfl rfl ?_)
      | ((with_reducible show IdxK _ _ _ _ _); refine IdxK.mk k (eClass ⟨c1, c2, c3, c4, c5⟩) rfl (class_get hck) ?_)
      | ((with_reducible show CallK _ _ 26 _ _ _ _); refine CallK.lit [] h26 c26 ⟨⟨rfl, rfl, rfl, rfl, rfl, trivial⟩, rfl, trivial⟩ rfl rfl ?_)) <;> with_reducible refine wK ?_)
    | ((with_reducible show (_ ∧ _) ∧ _ ∧ _); (refine eK ?_ ?_ <;> with_reducible repeat' (first | exact trivial | (show _ ∧ _; refine aK ?_ ?_)))))); all_goals clear fct)
          all_goals first | rfl | simp
    · rw [if_neg fun h => q3 h.1]
      refine FnOK.startC (rvs := [.cell 10 72, .tmp 11]) G G_good Tryz.func60 rfl Tryz.ntmps60 rfl rfl ?_; with_reducible refine wD ?_
      refine IdxK.mk i (eState _) rfl (state_get hx) ?_; with_reducible refine wK ?_
      by_cases q1 : s1 = 1
      · have q2 : ¬ x1 = 1 := fun h => p1 ⟨q1, h⟩
        (have fct := And.intro (eq_true q1) ((eq_false q2)); (repeat' (first
    | refine gF ?_
    | (((with_reducible show CallK _ _ 33 _ _ _ _); refine CallK.lit [] h33 c33 ⟨⟨rfl, rfl, rfl, rfl, trivial⟩, ⟨rfl, rfl, rfl, rfl, trivial⟩, rfl, trivial⟩ rfl rfl ?_) <;> with_reducible refine wK ?_)
    | ((with_reducible show (_ ∧ _) ∧ _ ∧ _); (refine eK ?_ ?_ <;> with_reducible repeat' (first | exact trivial | (show _ ∧ _; refine aK ?_ ?_)))))); all_goals clear fct)
        all_goals first | rfl | simp
      · (have fct := And.intro (eq_false q1) ((eq_false q3)); (repeat' (first
    | refine gF ?_
    | (((with_reducible show CallK _ _ 33 _ _ _ _); refine CallK.lit [] h33 c33 ⟨⟨rfl, rfl, rfl, rfl, trivial⟩, ⟨rfl, rfl, rfl, rfl, trivial⟩, rfl, trivial⟩ rfl rfl ?_) <;> with_reducible refine wK ?_)
    | ((with_reducible show (_ ∧ _) ∧ _ ∧ _); (refine eK ?_ ?_ <;> with_reducible repeat' (first | exact trivial | (show _ ∧ _; refine aK ?_ ?_)))))); all_goals clear fct)
        all_goals first | rfl | simp
end Go.Proofs.Heir
end
section
set_option linter.unusedSimpArgs false
set_option linter.unusedVariables false
namespace Go.Proofs.Heir
open Go Go.Am Go.RowKit Go.Lib
set_option maxRecDepth 100000
set_option maxHeartbeats 8000000
def rightW (f : ForM) (st : List StateM) (d : DeskM) (cs : List ClassM) : Bool := ((shortF f && shortB d) && shortC cs) && lookV f st d
structure RightW (f : ForM) (st : List StateM) (d : DeskM) (cs : List ClassM) : Prop where
  hs : SmallN f.nodes
  hd : SmallD d
  hc : SmallC cs
  look : lookV f st d = true
  len : st.length = f.nodes.length
  rf : rightF f = true
  rd : rightD d = true
theorem rightW_of {f : ForM} {st : List StateM} {d : DeskM} {cs : List ClassM} (h : rightW f st d cs = true) : RightW f st d cs := by
  unfold rightW at h
  simp only [Bool.and_eq_true] at h
  obtain ⟨⟨⟨h1, h2⟩, h3⟩, h4⟩ := h
  have h5 := h4
  unfold lookV at h5
  simp only [Bool.and_eq_true, decide_eq_true_eq] at h5
  exact ⟨shortF_iff.1 h1, (shortB_iff.1 h2).small, small_of_shortC h3, h4, h5.1.1, h5.1.2, h5.2⟩
theorem f39_ok (f : ForM) (st : List StateM) (d : DeskM) (cs : List ClassM) : FnOK Tryz.prog 39 [] [eFor f, eStates st, eDesk d, eClasses cs] [] (eBool (rightW f st d cs)) := by
  have h9 := f9_ok f
  have h10 := f10_ok d
  have h24 := f24_ok cs
  have hst := (show (st.map oState).length = st.length from List.length_map ..)
  have hlm := (show (f.nodes.map oNode).length = f.nodes.length from List.length_map ..)
  unfold rightW
  cases e1 : shortF f with
  | false =>
    rw [e1] at h9
    obtain ⟨l, m⟩ := f
    obtain ⟨d1, d2, d3, d4⟩ := d
    refine FnOK.startC (rvs := [.tmp 8]) G G_good Tryz.func39 rfl Tryz.ntmps39 rfl rfl ?_; with_reducible refine wD ?_
    repeat' (first
    | refine gK ?_
    | (((with_reducible show CallK _ _ 9 _ _ _ _); refine CallK.lit [] h9 c9 ⟨⟨rfl, rfl, trivial⟩, trivial⟩ rfl rfl ?_) <;> with_reducible refine wK ?_)
    | ((with_reducible show (_ ∧ _) ∧ _ ∧ _); (refine eK ?_ ?_ <;> with_reducible repeat' (first | exact trivial | (show _ ∧ _; refine aK ?_ ?_)))))
    all_goals rfl
  | true =>
    rw [e1] at h9
    have h48 := f48_ok f (shortF_iff.1 e1)
    cases e2 : shortB d with
    | false =>
      rw [e2] at h10
      obtain ⟨l, m⟩ := f
      obtain ⟨d1, d2, d3, d4⟩ := d
      refine FnOK.startC (rvs := [.tmp 8]) G G_good Tryz.func39 rfl Tryz.ntmps39 rfl rfl ?_; with_reducible refine wD ?_
      repeat' (first
    | refine gK ?_
    | ((first
      | ((with_reducible show CallK _ _ 9 _ _ _ _); refine CallK.lit [] h9 c9 ⟨⟨rfl, rfl, trivial⟩, trivial⟩ rfl rfl ?_)
      | ((with_reducible show CallK _ _ 10 _ _ _ _); refine CallK.lit [] h10 c10 ⟨⟨rfl, rfl, rfl, rfl, trivial⟩, trivial⟩ rfl rfl ?_)) <;> with_reducible refine wK ?_)
    | ((with_reducible show (_ ∧ _) ∧ _ ∧ _); (refine eK ?_ ?_ <;> with_reducible repeat' (first | exact trivial | (show _ ∧ _; refine aK ?_ ?_)))))
      all_goals rfl
    | true =>
      rw [e2] at h10
      have h62 := f62_ok d (shortB_iff.1 e2).small
      cases e3 : shortC cs with
      | false =>
        rw [e3] at h24
        obtain ⟨l, m⟩ := f
        obtain ⟨d1, d2, d3, d4⟩ := d
        refine FnOK.startC (rvs := [.tmp 8]) G G_good Tryz.func39 rfl Tryz.ntmps39 rfl rfl ?_; with_reducible refine wD ?_
        repeat' (first
    | refine gK ?_
    | ((first
      | ((with_reducible show CallK _ _ 9 _ _ _ _); refine CallK.lit [] h9 c9 ⟨⟨rfl, rfl, trivial⟩, trivial⟩ rfl rfl ?_)
      | ((with_reducible show CallK _ _ 10 _ _ _ _); refine CallK.lit [] h10 c10 ⟨⟨rfl, rfl, rfl, rfl, trivial⟩, trivial⟩ rfl rfl ?_)
      | ((with_reducible show CallK _ _ 24 _ _ _ _); refine CallK.lit [] h24 c24 ⟨rfl, trivial⟩ rfl rfl ?_)) <;> with_reducible refine wK ?_)
    | ((with_reducible show (_ ∧ _) ∧ _ ∧ _); (refine eK ?_ ?_ <;> with_reducible repeat' (first | exact trivial | (show _ ∧ _; refine aK ?_ ?_)))))
        all_goals rfl
      | true =>
        rw [e3] at h24
        unfold lookV
        obtain ⟨l, m⟩ := f
        obtain ⟨d1, d2, d3, d4⟩ := d
        simp only at h48 h62 hlm ⊢
        refine FnOK.startC (rvs := [.tmp 8]) G G_good Tryz.func39 rfl Tryz.ntmps39 rfl rfl ?_; with_reducible refine wD ?_
        by_cases g1 : st.length = l.length
        · rw [decide_eq_true g1]
          cases g2 : rightF ⟨l, m⟩ <;> rw [g2] at h48
          · (have fct := And.intro hst (And.intro hlm (g1)); (repeat' (first
    | refine gF ?_
    | ((first
      | ((with_reducible show CallK _ _ 9 _ _ _ _); refine CallK.lit [] h9 c9 ⟨⟨rfl, rfl, trivial⟩, trivial⟩ rfl rfl ?_)
      | ((with_reducible show CallK _ _ 10 _ _ _ _); refine CallK.lit [] h10 c10 ⟨⟨rfl, rfl, rfl, rfl, trivial⟩, trivial⟩ rfl rfl ?_)
      | ((with_reducible show CallK _ _ 24 _ _ _ _); refine CallK.lit [] h24 c24 ⟨rfl, trivial⟩ rfl rfl ?_)
      | ((with_reducible show CallK _ _ 48 _ _ _ _); refine CallK.lit [] h48 c48 ⟨⟨rfl, rfl, trivial⟩, trivial⟩ rfl rfl ?_)) <;> with_reducible refine wK ?_)
    | ((with_reducible show (_ ∧ _) ∧ _ ∧ _); (refine eK ?_ ?_ <;> with_reducible repeat' (first | exact trivial | (show _ ∧ _; refine aK ?_ ?_)))))); all_goals clear fct)
            all_goals rfl
          · cases g3 : rightD ⟨d1, d2, d3, d4⟩ <;> rw [g3] at h62
            · (have fct := And.intro hst (And.intro hlm (g1)); (repeat' (first
    | refine gF ?_
    | ((first
      | ((with_reducible show CallK _ _ 9 _ _ _ _); refine CallK.lit [] h9 c9 ⟨⟨rfl, rfl, trivial⟩, trivial⟩ rfl rfl ?_)
      | ((with_reducible show CallK _ _ 10 _ _ _ _); refine CallK.lit [] h10 c10 ⟨⟨rfl, rfl, rfl, rfl, trivial⟩, trivial⟩ rfl rfl ?_)
      | ((with_reducible show CallK _ _ 24 _ _ _ _); refine CallK.lit [] h24 c24 ⟨rfl, trivial⟩ rfl rfl ?_)
      | ((with_reducible show CallK _ _ 48 _ _ _ _); refine CallK.lit [] h48 c48 ⟨⟨rfl, rfl, trivial⟩, trivial⟩ rfl rfl ?_)
      | ((with_reducible show CallK _ _ 62 _ _ _ _); refine CallK.lit [] h62 c62 ⟨⟨rfl, rfl, rfl, rfl, trivial⟩, trivial⟩ rfl rfl ?_)) <;> with_reducible refine wK ?_)
    | ((with_reducible show (_ ∧ _) ∧ _ ∧ _); (refine eK ?_ ?_ <;> with_reducible repeat' (first | exact trivial | (show _ ∧ _; refine aK ?_ ?_)))))); all_goals clear fct)
              all_goals rfl
            · (have fct := And.intro hst (And.intro hlm (g1)); (repeat' (first
    | refine gF ?_
    | ((first
      | ((with_reducible show CallK _ _ 9 _ _ _ _); refine CallK.lit [] h9 c9 ⟨⟨rfl, rfl, trivial⟩, trivial⟩ rfl rfl ?_)
      | ((with_reducible show CallK _ _ 10 _ _ _ _); refine CallK.lit [] h10 c10 ⟨⟨rfl, rfl, rfl, rfl, trivial⟩, trivial⟩ rfl rfl ?_)
      | ((with_reducible show CallK _ _ 24 _ _ _ _); refine CallK.lit [] h24 c24 ⟨rfl, trivial⟩ rfl rfl ?_)
      | ((with_reducible show CallK _ _ 48 _ _ _ _); refine CallK.lit [] h48 c48 ⟨⟨rfl, rfl, trivial⟩, trivial⟩ rfl rfl ?_)
      | ((with_reducible show CallK _ _ 62 _ _ _ _); refine CallK.lit [] h62 c62 ⟨⟨rfl, rfl, rfl, rfl, trivial⟩, trivial⟩ rfl rfl ?_)) <;> with_reducible refine wK ?_)
    | ((with_reducible show (_ ∧ _) ∧ _ ∧ _); (refine eK ?_ ?_ <;> with_reducible repeat' (first | exact trivial | (show _ ∧ _; refine aK ?_ ?_)))))); all_goals clear fct)
              all_goals rfl
        · rw [decide_eq_false g1]
          (have fct := And.intro hst (And.intro hlm ((eq_false g1))); (repeat' (first
    | refine gF ?_
    | ((first
      | ((with_reducible show CallK _ _ 9 _ _ _ _); refine CallK.lit [] h9 c9 ⟨⟨rfl, rfl, trivial⟩, trivial⟩ rfl rfl ?_)
      | ((with_reducible show CallK _ _ 10 _ _ _ _); refine CallK.lit [] h10 c10 ⟨⟨rfl, rfl, rfl, rfl, trivial⟩, trivial⟩ rfl rfl ?_)
      | ((with_reducible show CallK _ _ 24 _ _ _ _); refine CallK.lit [] h24 c24 ⟨rfl, trivial⟩ rfl rfl ?_)) <;> with_reducible refine wK ?_)
    | ((with_reducible show (_ ∧ _) ∧ _ ∧ _); (refine eK ?_ ?_ <;> with_reducible repeat' (first | exact trivial | (show _ ∧ _; refine aK ?_ ?_)))))); all_goals clear fct)
          all_goals rfl
theorem dueL_mem {f : ForM} {st : List StateM} {d : DeskM} {cs : List ClassM} {ns : List NoteM} (R : RightW f st d cs) {y : DueN} (hy : y ∈ dueL f st d cs ns) : ∃ (i : Nat) (s : StateM), y.node = i ∧ st[i]? = some s ∧ (s.phase = 1 ∨ s.phase = 3) := by
  unfold dueL at hy
  rw [R.look, if_pos rfl, List.mem_flatMap] at hy
  obtain ⟨x, _, hx⟩ := hy
  unfold dueV at hx
  split at hx
  · rename_i he
    split at hx
    · rename_i ha
      rw [List.mem_singleton] at hx
      subst hx
      obtain ⟨i, s, hi, hs, hso⟩ := elem_at he R.len
      refine ⟨i, s, hi, hs, ?_⟩
      rw [hso] at ha
      unfold asksV at ha
      by_cases h1 : s.phase = 1
      · exact .inl h1
      · by_cases h3 : s.phase = 3
        · exact .inr h3
        · rw [if_neg h1, if_neg h3] at ha; cases ha
    · cases hx
  · cases hx
theorem dueL_app {f : ForM} {st : List StateM} {d : DeskM} {cs : List ClassM} (h : lookV f st d = true) (ns ms : List NoteM) : dueL f st d cs (ns ++ ms) = dueL f st d cs ns ++ dueL f st d cs ms := by
  unfold dueL
  rw [h, if_pos rfl, if_pos rfl, if_pos rfl, List.flatMap_append]
theorem dueL_len (f : ForM) (st : List StateM) (d : DeskM) (cs : List ClassM) (ns : List NoteM) : (dueL f st d cs ns).length ≤ ns.length := by
  unfold dueL
  split
  · exact flat_len _ (dueV_len f st d cs) _
  · simp
end Go.Proofs.Heir
end
section
set_option linter.unusedSimpArgs false
set_option linter.unusedVariables false
namespace Go.Proofs.Heir
open Go Go.Am Go.RowKit Go.Lib
set_option maxRecDepth 100000
set_option maxHeartbeats 8000000
theorem f7_main (h23 : FnOK Tryz.prog 23 [] [] [] (eBool true)) (f : ForM) (st : List StateM) (d : DeskM) (cs : List ClassM) (ns : List NoteM) (c : Int) (hc : 0 ≤ c ∧ c < 256) (R : RightW f st d cs) (h39 : FnOK Tryz.prog 39 [] [eFor f, eStates st, eDesk d, eClasses cs] [] (eBool true)) (hns : ns.length ≤ 80) : FnOK Tryz.prog 7 [] [eFor f, eStates st, eDesk d, eClasses cs, eNotes ns, .lit (.int .u8 c)] [] (eBool true) := by
  obtain ⟨k, hk⟩ : ∃ k : Nat, c % ((ns.length : Int) + 1) = k := ⟨_, (Int.toNat_of_nonneg (Int.emod_nonneg _ (by omega))).symm⟩
  have hkl : k ≤ ns.length := by have := Int.emod_lt_of_pos c (show 0 < (ns.length : Int) + 1 by omega); omega
  have h35 := fun ms hm => f35_ok f R.hs st d R.hd cs R.hc ms hm
  have ha := h35 (ns.take k) (by rw [List.length_take]; omega)
  have hb := h35 (ns.drop k) (by rw [List.length_drop]; omega)
  have hl := h35 ns (by omega)
  have hall : ∀ y ∈ dueL f st d cs ns, ∃ (i : Nat) (s : StateM), y.node = i ∧ st[i]? = some s ∧ (s.phase = 1 ∨ s.phase = 3) := fun y hy => dueL_mem R hy
  have hbd := dueL_len f st d cs ns
  have happ := dueL_app (cs := cs) R.look (ns.take k) (ns.drop k)
  rw [List.take_append_drop] at happ
  rw [happ] at hl hall hbd
  clear h35 happ
  generalize dueL f st d cs (ns.take k) = A at ha hl hall hbd
  generalize dueL f st d cs (ns.drop k) = B at hb hl hall hbd
  have hlm : (ns.map oNote).length = ns.length := List.length_map ..
  have hst := (show (st.map oState).length = st.length from List.length_map ..)
  have hA : (A.map oDueN).length = A.length := List.length_map ..
  have hB : (B.map oDueN).length = B.length := List.length_map ..
  have hAB : ((A ++ B).map oDueN).length = A.length + B.length := by simp
  rw [List.length_append] at hbd
  have h21a := f21n_ok A A (by omega)
  have h21b := f21n_ok B B (by omega)
  rw [decide_eq_true rfl] at h21a h21b
  have cutA : (ns.take k).map oNote = ((ns.map oNote).drop 0).take k := by rw [List.drop_zero, List.map_take]
  have cutB : (ns.drop k).map oNote = ((ns.map oNote).drop k).take (ns.length - k) := by rw [← List.map_drop, List.take_of_length_le (by simp)]
  have cutA' : A.map oDueN = (((A ++ B).map oDueN).drop 0).take A.length := by rw [List.drop_zero, ← List.map_take, List.take_left]
  have cutB' : B.map oDueN = (((A ++ B).map oDueN).drop A.length).take B.length := by rw [← List.map_drop, List.drop_left, List.take_of_length_le (by simp)]
  obtain ⟨l, m⟩ := f
  obtain ⟨d1, d2, d3, d4⟩ := d
  refine FnOK.startC (rvs := [.tmp 12]) G G_good Tryz.func7 rfl Tryz.ntmps7 rfl rfl ?_; with_reducible refine wD ?_
  (have fct := And.intro hlm ((show ¬ (80 : Int) < (ns.length : Int) by omega)); (repeat' (first
    | refine gF ?_
    | ((first
      | ((with_reducible show CallK _ _ 23 _ _ _ _); refine CallK.lit [] h23 c23 trivial rfl rfl ?_)
      | ((with_reducible show CallK _ _ 39 _ _ _ _); refine CallK.lit [] h39 c39 ⟨⟨rfl, rfl, trivial⟩, rfl, ⟨rfl, rfl, rfl, rfl, trivial⟩, rfl, trivial⟩ rfl rfl ?_)) <;> with_reducible refine wK ?_)
    | ((with_reducible show (_ ∧ _) ∧ _ ∧ _); (refine eK ?_ ?_ <;> with_reducible repeat' (first | exact trivial | (show _ ∧ _; refine aK ?_ ?_)))))); all_goals clear fct)
  refine ConvK.int (by kernel_rfl) (by kernel_rfl) (wrap_u8 hc) ?_; with_reducible refine wK ?_
  repeat' (first
    | refine gK ?_
    | ((with_reducible show (_ ∧ _) ∧ _ ∧ _); (refine eK ?_ ?_ <;> with_reducible repeat' (first | exact trivial | (show _ ∧ _; refine aK ?_ ?_)))))
  refine HandK.rem hc.1 (show 0 < ((ns.map oNote).length : Int) + 1 by omega) rfl rfl rfl rfl ?_; with_reducible refine wK ?_
  rw [hlm, hk]
  repeat' (first
    | refine gK ?_
    | ((first
      | ((with_reducible show CutFK _ _ _ _ _ _); first | refine CutFK.mk 0 k ((ns.take k).map oNote) rfl (by (try simp only [castN]); omega) (by rw [hlm]; omega) cutA ?_ | refine CutFK.mk k (ns.length - k) ((ns.drop k).map oNote) rfl (by (try simp only [castN]); rw [hlm]; omega) (by rw [hlm]; omega) cutB ?_)
      | ((with_reducible show CallK _ _ 35 _ _ _ _); first | refine CallK.val [] ha c35 ⟨⟨rfl, rfl, trivial⟩, rfl, ⟨rfl, rfl, rfl, rfl, trivial⟩, rfl, rfl, trivial⟩ rfl rfl rfl ?_ | refine CallK.val [] hb c35 ⟨⟨rfl, rfl, trivial⟩, rfl, ⟨rfl, rfl, rfl, rfl, trivial⟩, rfl, rfl, trivial⟩ rfl rfl rfl ?_ | refine CallK.val [] hl c35 ⟨⟨rfl, rfl, trivial⟩, rfl, ⟨rfl, rfl, rfl, rfl, trivial⟩, rfl, rfl, trivial⟩ rfl rfl rfl ?_)) <;> with_reducible refine wK ?_)
    | ((with_reducible show (_ ∧ _) ∧ _ ∧ _); (refine eK ?_ ?_ <;> with_reducible repeat' (first | exact trivial | (show _ ∧ _; refine aK ?_ ?_)))))
  (have fct := And.intro hA (And.intro hB (And.intro hAB (hlm))); (repeat' (first
    | refine gF ?_
    | ((first
      | ((with_reducible show CutFK _ _ _ _ _ _); first | refine CutFK.mk 0 A.length (A.map oDueN) rfl (by (try simp only [castN]); rw [hA]; omega) (by rw [hAB]; omega) cutA' ?_ | refine CutFK.mk A.length B.length (B.map oDueN) (by (try simp only [castN]); rw [hA]) (by (try simp only [castN]); rw [hAB]; omega) (by rw [hAB]; omega) cutB' ?_)
      | ((with_reducible show CallK _ _ 35 _ _ _ _); refine CallK.val [] hl c35 ⟨⟨rfl, rfl, trivial⟩, rfl, ⟨rfl, rfl, rfl, rfl, trivial⟩, rfl, rfl, trivial⟩ rfl rfl rfl ?_)
      | ((with_reducible show CallK _ _ 21 _ _ _ _); first | refine CallK.lit [] h21a c21 ⟨rfl, rfl, trivial⟩ rfl rfl ?_ | refine CallK.lit [] h21b c21 ⟨rfl, rfl, trivial⟩ rfl rfl ?_)) <;> with_reducible refine wK ?_)
    | ((with_reducible show (_ ∧ _) ∧ _ ∧ _); (refine eK ?_ ?_ <;> with_reducible repeat' (first | exact trivial | (show _ ∧ _; refine aK ?_ ?_)))))); all_goals clear fct)
  generalize A ++ B = C at hall hAB ⊢
  clear h23 h39 ha hb hl h21a h21b cutA cutB cutA' cutB'
  refine LoopK.use G G_good (fun (j : Nat) => [(1, eStates st), (16, eDuesN C), (17, eInt j)]) (fun _ => []) (fun j => j ≤ C.length) (fun j => C.length - j) 0 (Nat.zero_le _)
    ⟨⟨rfl, rfl⟩, ⟨rfl, rfl, rfl, trivial⟩, trivial⟩ ?_
  have hCl : C.length ≤ 80 := by rw [List.length_map] at hAB; omega
  have hCm : (C.map oDueN).length = C.length := List.length_map ..
  intro j hj
  with_reducible refine wK ?_
  refine IfK.mk (fun h1 => ?_) (fun h1 => ?_) <;> (try simp only [castN] at h1) <;> with_reducible refine wK ?_
  · have hj' : j < C.length := by simp only [hCm, decide_eq_true_eq] at h1; omega
    obtain ⟨⟨y0, y1, y2, y3, y4, y5, y6, y7, y8, y9, y10⟩, hy⟩ : ∃ y, C[j]? = some y := ⟨_, List.getElem?_eq_getElem hj'⟩
    obtain ⟨i, ⟨s1, s2, s3, s4⟩, hi, hs, hp⟩ := hall _ (List.mem_of_getElem? hy)
    simp only at hi hp
    subst hi
    have hil := (List.getElem?_eq_some_iff.1 hs).1
    have hx : ¬ (st.length : Int) ≤ (i : Int) := by omega
    rcases hp with rfl | rfl
    all_goals (have fct := And.intro hst (And.intro (eq_false hx) ((show ¬ (i : Int) < 0 by omega))); (repeat' (first
    | refine gF ?_
    | ((first
      | ((with_reducible show IdxK _ _ _ _ _); first | refine IdxK.mk j (eDueN ⟨(i : Int), ⟨y1, y2, y3, y4, y5, y6, y7, y8, y9, y10⟩⟩) rfl (dueN_get hy) ?_ | refine IdxK.mk i (eState _) rfl (state_get hs) ?_)
      | ((with_reducible show NextK _ _); refine NextK.mk (j + 1) (by omega) (by omega) ⟨⟨rfl, rfl⟩, ⟨rfl, rfl, by show ((j + 1 : Nat) : Int) = (j : Int) + 1; omega, trivial⟩, trivial⟩)) <;> with_reducible refine wK ?_)
    | ((with_reducible show (_ ∧ _) ∧ _ ∧ _); (refine eK ?_ ?_ <;> with_reducible repeat' (first | exact trivial | (show _ ∧ _; refine aK ?_ ?_)))))); all_goals clear fct)
  · repeat' (first
    | refine gK ?_
    | ((with_reducible show (_ ∧ _) ∧ _ ∧ _); (refine eK ?_ ?_ <;> with_reducible repeat' (first | exact trivial | (show _ ∧ _; refine aK ?_ ?_)))))
theorem f7_ok (h23 : FnOK Tryz.prog 23 [] [] [] (eBool true)) (f : ForM) (st : List StateM) (d : DeskM) (cs : List ClassM) (ns : List NoteM) (c : Int) (hc : 0 ≤ c ∧ c < 256) : FnOK Tryz.prog 7 [] [eFor f, eStates st, eDesk d, eClasses cs, eNotes ns, .lit (.int .u8 c)] [] (eBool true) := by
  have h39 := f39_ok f st d cs
  have hlm : (ns.map oNote).length = ns.length := List.length_map ..
  cases e0 : rightW f st d cs with
  | false =>
    rw [e0] at h39
    obtain ⟨l, m⟩ := f
    obtain ⟨d1, d2, d3, d4⟩ := d
    refine FnOK.startC (rvs := [.tmp 12]) G G_good Tryz.func7 rfl Tryz.ntmps7 rfl rfl ?_; with_reducible refine wD ?_
    repeat' (first
    | refine gK ?_
    | ((first
      | ((with_reducible show CallK _ _ 23 _ _ _ _); refine CallK.lit [] h23 c23 trivial rfl rfl ?_)
      | ((with_reducible show CallK _ _ 39 _ _ _ _); refine CallK.lit [] h39 c39 ⟨⟨rfl, rfl, trivial⟩, rfl, ⟨rfl, rfl, rfl, rfl, trivial⟩, rfl, trivial⟩ rfl rfl ?_)) <;> with_reducible refine wK ?_)
    | ((with_reducible show (_ ∧ _) ∧ _ ∧ _); (refine eK ?_ ?_ <;> with_reducible repeat' (first | exact trivial | (show _ ∧ _; refine aK ?_ ?_)))))
  | true =>
    rw [e0] at h39
    by_cases e1 : (80 : Int) < (ns.length : Int)
    · obtain ⟨l, m⟩ := f
      obtain ⟨d1, d2, d3, d4⟩ := d
      refine FnOK.startC (rvs := [.tmp 12]) G G_good Tryz.func7 rfl Tryz.ntmps7 rfl rfl ?_; with_reducible refine wD ?_
      (have fct := And.intro hlm (e1); (repeat' (first
    | refine gF ?_
    | ((first
      | ((with_reducible show CallK _ _ 23 _ _ _ _); refine CallK.lit [] h23 c23 trivial rfl rfl ?_)
      | ((with_reducible show CallK _ _ 39 _ _ _ _); refine CallK.lit [] h39 c39 ⟨⟨rfl, rfl, trivial⟩, rfl, ⟨rfl, rfl, rfl, rfl, trivial⟩, rfl, trivial⟩ rfl rfl ?_)) <;> with_reducible refine wK ?_)
    | ((with_reducible show (_ ∧ _) ∧ _ ∧ _); (refine eK ?_ ?_ <;> with_reducible repeat' (first | exact trivial | (show _ ∧ _; refine aK ?_ ?_)))))); all_goals clear fct)
    · exact f7_main h23 f st d cs ns c hc (rightW_of e0) h39 (by omega)
end Go.Proofs.Heir
end
section
set_option linter.unusedSimpArgs false
set_option linter.unusedVariables false
namespace Go.Proofs.Heir
open Go Go.Am Go.RowKit Go.Lib
set_option maxRecDepth 100000
set_option maxHeartbeats 8000000
theorem right_pos {f : ForM} (h : rightF f = true) : 1 ≤ f.nodes.length := by
  unfold rightF headOK at h
  simp only [Bool.and_eq_true, decide_eq_true_eq] at h
  omega
theorem no_hooks {c : ClassM} (h : c.hooks = []) : (∀ k, hearsC c k = false) ∧ ∀ s, watchesC c s = false := by
  have h1 : ∀ k, hearsC c k = false := fun k => by unfold hearsC hookAt; rw [h]; rfl
  exact ⟨h1, fun s => by unfold watchesC; rw [h1]; rfl⟩
theorem flat_nil {α β : Type} (g : α → List β) (h : ∀ x, g x = []) : ∀ l : List α, l.flatMap g = []
  | [] => rfl
  | a :: r => by rw [List.flatMap_cons, h, flat_nil g h r]; rfl
theorem f6_main (h23 : FnOK Tryz.prog 23 [] [] [] (eBool true)) (f : ForM) (st : List StateM) (d : DeskM) (cs : List ClassM) (c : Int) (hc : 0 ≤ c ∧ c < 256) (R : RightW f st d cs) (h39 : FnOK Tryz.prog 39 [] [eFor f, eStates st, eDesk d, eClasses cs] [] (eBool true)) : FnOK Tryz.prog 6 [] [eFor f, eStates st, eDesk d, eClasses cs, .lit (.int .u8 c)] [] (eBool true) := by
  have hp := right_pos R.rf
  obtain ⟨n, hn⟩ : ∃ n : Nat, c % (f.nodes.length : Int) = n := ⟨_, (Int.toNat_of_nonneg (Int.emod_nonneg _ (by omega))).symm⟩
  have hnl : n < f.nodes.length := by have := Int.emod_lt_of_pos c (show 0 < (f.nodes.length : Int) by omega); omega
  have hlen := R.len
  obtain ⟨y, hy⟩ : ∃ y, f.nodes[n]? = some y := ⟨_, List.getElem?_eq_getElem hnl⟩
  obtain ⟨s, hs⟩ : ∃ s, st[n]? = some s := ⟨_, List.getElem?_eq_getElem (by omega)⟩
  have hso : stOf st n = s := by unfold stOf; rw [Int.toNat_natCast, hs]; rfl
  have h36 := f36_ok f R.hs st d R.hd cs R.hc n
  have h32 := f32_ok s d cs
  have h40 := f40_ok f R.hs n
  have hcv := small_classV R.hc s d
  have h27 := fun n => f27_ok (classV s d cs) hcv.hooks hcv.watch n
  have h25 := f25_ok (classV s d cs) hcv.hooks 1
  have hya := R.hs.attrs y (List.mem_of_getElem? hy)
  have hel : elemV f.nodes n = decide (y.kind = 1) := by unfold elemV; rw [there_get hy, nd_get hy]; rfl
  unfold firstL firstC at h36
  rw [R.look, hel, hso, nd_get hy] at h36
  have hno := fun h => @no_hooks (classV s d cs) h
  generalize classV s d cs = k at h36 h32 h27 h25 hno
  generalize classB s d cs = kb at h36 h32
  have hlm := (show (f.nodes.map oNode).length = f.nodes.length from List.length_map ..)
  obtain ⟨l, m⟩ := f
  obtain ⟨d1, d2, d3, d4⟩ := d
  obtain ⟨s1, s2, s3, s4⟩ := s
  obtain ⟨k1, k2, k3, k4, k5⟩ := k
  obtain ⟨a1, a2, a3, a4, a5, a6, a7, a8, a9, a10⟩ := y
  have n5 : (k5.map oHook).length = k5.length := List.length_map ..
  have na : (a5.map oAttr).length = a5.length := List.length_map ..
  simp only at hy h36 h32 h40 hya hlm hn hp hno
  refine FnOK.startC (rvs := [.tmp 10]) G G_good Tryz.func6 rfl Tryz.ntmps6 rfl rfl ?_; with_reducible refine wD ?_
  repeat' (first
    | refine gK ?_
    | ((first
      | ((with_reducible show CallK _ _ 23 _ _ _ _); refine CallK.lit [] h23 c23 trivial rfl rfl ?_)
      | ((with_reducible show CallK _ _ 39 _ _ _ _); refine CallK.lit [] h39 c39 ⟨⟨rfl, rfl, trivial⟩, rfl, ⟨rfl, rfl, rfl, rfl, trivial⟩, rfl, trivial⟩ rfl rfl ?_)) <;> with_reducible refine wK ?_)
    | ((with_reducible show (_ ∧ _) ∧ _ ∧ _); (refine eK ?_ ?_ <;> with_reducible repeat' (first | exact trivial | (show _ ∧ _; refine aK ?_ ?_)))))
  refine ConvK.int (by kernel_rfl) (by kernel_rfl) (wrap_u8 hc) ?_; with_reducible refine wK ?_
  repeat' (first
    | refine gK ?_
    | ((with_reducible show (_ ∧ _) ∧ _ ∧ _); (refine eK ?_ ?_ <;> with_reducible repeat' (first | exact trivial | (show _ ∧ _; refine aK ?_ ?_)))))
  refine HandK.rem hc.1 (show 0 < ((l.map oNode).length : Int) by omega) rfl rfl rfl rfl ?_; with_reducible refine wK ?_
  rw [hlm, hn]
  by_cases e1 : kb = true
  case neg =>
    have e1 : kb = false := by simpa using e1
    subst e1
    rw [Bool.and_false, if_neg (by simp)] at h36
    repeat' (first
    | refine gK ?_
    | ((first
      | ((with_reducible show CallK _ _ 36 _ _ _ _); refine CallK.val [] h36 c36 ⟨⟨rfl, rfl, trivial⟩, rfl, ⟨rfl, rfl, rfl, rfl, trivial⟩, rfl, rfl, trivial⟩ rfl rfl rfl ?_)
      | ((with_reducible show IdxK _ _ _ _ _); refine IdxK.mk n (eState _) rfl (state_get hs) ?_)
      | ((with_reducible show CallK _ _ 32 _ _ _ _); refine CallK.val [] h32 c32 ⟨⟨rfl, rfl, rfl, rfl, trivial⟩, ⟨rfl, rfl, rfl, rfl, trivial⟩, rfl, trivial⟩ rfl rfl rfl ?_)) <;> with_reducible refine wK ?_)
    | ((with_reducible show (_ ∧ _) ∧ _ ∧ _); (refine eK ?_ ?_ <;> with_reducible repeat' (first | exact trivial | (show _ ∧ _; refine aK ?_ ?_)))))
    all_goals rfl
  subst e1
  rw [Bool.and_true, Bool.true_and] at h36
  by_cases e2 : a1 = 1
  case neg =>
    rw [decide_eq_false e2, if_neg (by simp)] at h36
    (have fct := (eq_false e2); (repeat' (first
    | refine gF ?_
    | ((first
      | ((with_reducible show CallK _ _ 36 _ _ _ _); refine CallK.val [] h36 c36 ⟨⟨rfl, rfl, trivial⟩, rfl, ⟨rfl, rfl, rfl, rfl, trivial⟩, rfl, rfl, trivial⟩ rfl rfl rfl ?_)
      | ((with_reducible show IdxK _ _ _ _ _); first | refine IdxK.mk n (eState _) rfl (state_get hs) ?_ | refine IdxK.mk n (eNode _) rfl (node_get hy) ?_)
      | ((with_reducible show CallK _ _ 32 _ _ _ _); refine CallK.val [] h32 c32 ⟨⟨rfl, rfl, rfl, rfl, trivial⟩, ⟨rfl, rfl, rfl, rfl, trivial⟩, rfl, trivial⟩ rfl rfl rfl ?_)) <;> with_reducible refine wK ?_)
    | ((with_reducible show (_ ∧ _) ∧ _ ∧ _); (refine eK ?_ ?_ <;> with_reducible repeat' (first | exact trivial | (show _ ∧ _; refine aK ?_ ?_)))))); all_goals clear fct)
    all_goals rfl
  subst e2
  rw [decide_eq_true rfl, if_pos rfl] at h36
  by_cases e3 : k5.length = 0
  · have e3' : k5 = [] := List.eq_nil_of_length_eq_zero e3
    obtain ⟨q1, q2⟩ := hno e3'
    rw [flat_nil _ (fun a => by unfold firstA; rw [q2]; rfl), q1, Bool.false_and, show cameT false n = [] from rfl] at h36
    (have fct := And.intro n5 (e3); (repeat' (first
    | refine gF ?_
    | ((first
      | ((with_reducible show CallK _ _ 36 _ _ _ _); refine CallK.val [] h36 c36 ⟨⟨rfl, rfl, trivial⟩, rfl, ⟨rfl, rfl, rfl, rfl, trivial⟩, rfl, rfl, trivial⟩ rfl rfl rfl ?_)
      | ((with_reducible show IdxK _ _ _ _ _); first | refine IdxK.mk n (eState _) rfl (state_get hs) ?_ | refine IdxK.mk n (eNode _) rfl (node_get hy) ?_)
      | ((with_reducible show CallK _ _ 32 _ _ _ _); refine CallK.val [] h32 c32 ⟨⟨rfl, rfl, rfl, rfl, trivial⟩, ⟨rfl, rfl, rfl, rfl, trivial⟩, rfl, trivial⟩ rfl rfl rfl ?_)) <;> with_reducible refine wK ?_)
    | ((with_reducible show (_ ∧ _) ∧ _ ∧ _); (refine eK ?_ ?_ <;> with_reducible repeat' (first | exact trivial | (show _ ∧ _; refine aK ?_ ?_)))))); all_goals clear fct)
    all_goals rfl
  obtain ⟨ks, hks⟩ : ∃ ks : Nat → List DueN, ks = fun j => (a5.take j).flatMap (firstA ⟨k1, k2, k3, k4, k5⟩ n) := ⟨_, rfl⟩
  have hk0 : ks 0 = [] := by rw [hks]; rfl
  have hke : a5.flatMap (firstA ⟨k1, k2, k3, k4, k5⟩ n) = ks a5.length := by rw [hks]; show _ = List.flatMap _ (a5.take a5.length); rw [List.take_length]
  have hstep : ∀ (j : Nat) (x : AttrM), a5[j]? = some x → ks (j + 1) = ks j ++ firstA ⟨k1, k2, k3, k4, k5⟩ n x := fun j x hx => by rw [hks]; exact flat_step _ hx
  have hpre : ∀ j, j ≤ a5.length → ∃ r, ks a5.length = ks j ++ r := fun j hj => by
    rw [hks]
    refine ⟨(a5.drop j).flatMap (firstA ⟨k1, k2, k3, k4, k5⟩ n), ?_⟩
    show List.flatMap _ (a5.take a5.length) = List.flatMap _ (a5.take j) ++ _
    rw [List.take_length, ← List.flatMap_append, List.take_append_drop]
  have hkl : ∀ j, (ks j).length ≤ j := fun j => by
    rw [hks]; exact Nat.le_trans (flat_len _ (firstA_len _ n) _) (by rw [List.length_take]; omega)
  rw [hke] at h36
  unfold firstA at hstep
  clear hks hke hno
  generalize hearsC ⟨k1, k2, k3, k4, k5⟩ 1 = hb at h25 h36
  generalize conF ⟨l, m⟩ n = cn at h40 h36
  generalize watchesC ⟨k1, k2, k3, k4, k5⟩ = wf at h27 hstep
  obtain ⟨L, hL⟩ : ∃ L, L = ks a5.length ++ cameT (hb && cn) n := ⟨_, rfl⟩
  rw [← hL] at h36
  have nL : (L.map oDueN).length = L.length := List.length_map ..
  (have fct := And.intro n5 ((eq_false e3)); (repeat' (first
    | refine gF ?_
    | ((first
      | ((with_reducible show CallK _ _ 36 _ _ _ _); refine CallK.val [] h36 c36 ⟨⟨rfl, rfl, trivial⟩, rfl, ⟨rfl, rfl, rfl, rfl, trivial⟩, rfl, rfl, trivial⟩ rfl rfl rfl ?_)
      | ((with_reducible show IdxK _ _ _ _ _); first | refine IdxK.mk n (eState _) rfl (state_get hs) ?_ | refine IdxK.mk n (eNode _) rfl (node_get hy) ?_)
      | ((with_reducible show CallK _ _ 32 _ _ _ _); refine CallK.val [] h32 c32 ⟨⟨rfl, rfl, rfl, rfl, trivial⟩, ⟨rfl, rfl, rfl, rfl, trivial⟩, rfl, trivial⟩ rfl rfl rfl ?_)) <;> with_reducible refine wK ?_)
    | ((with_reducible show (_ ∧ _) ∧ _ ∧ _); (refine eK ?_ ?_ <;> with_reducible repeat' (first | exact trivial | (show _ ∧ _; refine aK ?_ ?_)))))); all_goals clear fct)
  refine LoopK.use G G_good (fun (j : Nat) => [(5, .ptr 50 0 0), (11, eInt n), (12, eDuesN L), (13, .ptr 130 0 0), (15, eInt (ks j).length), (16, eInt j)]) (fun _ => [(50, .live 2 [eFor ⟨l, m⟩] false), (130, .live 5 [eClass ⟨k1, k2, k3, k4, k5⟩] false)]) (fun j => j ≤ a5.length) (fun j => a5.length - j) 0 (Nat.zero_le _)
    (by rw [hk0]; exact ⟨⟨rfl, rfl⟩, ⟨⟨rfl, rfl⟩, rfl, rfl, ⟨rfl, rfl⟩, rfl, rfl, trivial⟩, ⟨⟨rfl, rfl, trivial⟩, trivial⟩, ⟨⟨rfl, rfl, rfl, rfl, rfl, trivial⟩, trivial⟩, trivial⟩) ?_
  intro j hj
  with_reducible refine wK ?_
  refine IdxK.mk n (eNode _) rfl (node_get hy) ?_; with_reducible refine wK ?_
  have hkj := hkl j
  refine IfK.mk (fun h1 => ?_) (fun h1 => ?_) <;> (try simp only [castN] at h1) <;> with_reducible refine wK ?_
  · have hj' : j < a5.length := by simp only [na, decide_eq_true_eq] at h1; omega
    obtain ⟨⟨u1, u2⟩, hx⟩ : ∃ x, a5[j]? = some x := ⟨_, List.getElem?_eq_getElem hj'⟩
    have hstp := hstep j _ hx
    have h27' := h27 u1
    obtain ⟨r, hr⟩ := hpre (j + 1) hj'
    simp only at hstp
    clear hstep h27
    generalize wf u1 = wb at h27' hstp
    cases wb with
    | false =>
      rw [if_neg (by simp), List.append_nil] at hstp
      repeat' (first
    | refine gK ?_
    | ((first
      | ((with_reducible show IdxK _ _ _ _ _); first | refine IdxK.mk n (eNode _) rfl (node_get hy) ?_ | refine IdxK.mk j (eAttr ⟨u1, u2⟩) rfl (attr_get hx) ?_)
      | ((with_reducible show CallK _ _ 27 _ _ _ _); refine CallK.lit [] h27' c27 ⟨⟨rfl, rfl, rfl, rfl, rfl, trivial⟩, rfl, trivial⟩ rfl rfl ?_)) <;> with_reducible refine wK ?_)
    | ((with_reducible show (_ ∧ _) ∧ _ ∧ _); (refine eK ?_ ?_ <;> with_reducible repeat' (first | exact trivial | (show _ ∧ _; refine aK ?_ ?_)))))
      refine NextK.mk (j + 1) (by omega) (by omega) ⟨⟨rfl, rfl⟩, ⟨⟨rfl, rfl⟩, rfl, rfl, ⟨rfl, rfl⟩, by rw [hstp], by show ((j + 1 : Nat) : Int) = (j : Int) + 1; omega, trivial⟩, ⟨⟨rfl, rfl, trivial⟩, trivial⟩, ⟨⟨rfl, rfl, rfl, rfl, rfl, trivial⟩, trivial⟩, trivial⟩
    | true =>
      rw [if_pos rfl] at hstp
      rw [hstp] at hr
      have hget : L[(ks j).length]? = some ⟨(n : Int), ⟨4, 0, u1, false, true, ⟨#[]⟩, u2, 0, 0, false⟩⟩ := by
        rw [hL, hr, List.append_assoc, List.append_assoc, List.getElem?_append_right (Nat.le_refl _), Nat.sub_self]; rfl
      have hlt : ¬ (L.length : Int) ≤ ((ks j).length : Int) := by have := (List.getElem?_eq_some_iff.1 hget).1; omega
      (have fct := And.intro nL ((eq_false hlt)); (repeat' (first
    | refine gF ?_
    | ((first
      | ((with_reducible show IdxK _ _ _ _ _); first | refine IdxK.mk n (eNode _) rfl (node_get hy) ?_ | refine IdxK.mk j (eAttr ⟨u1, u2⟩) rfl (attr_get hx) ?_ | refine IdxK.mk (ks j).length (eDueN _) rfl (dueN_get hget) ?_)
      | ((with_reducible show CallK _ _ 27 _ _ _ _); refine CallK.lit [] h27' c27 ⟨⟨rfl, rfl, rfl, rfl, rfl, trivial⟩, rfl, trivial⟩ rfl rfl ?_)) <;> with_reducible refine wK ?_)
    | ((with_reducible show (_ ∧ _) ∧ _ ∧ _); (refine eK ?_ ?_ <;> with_reducible repeat' (first | exact trivial | (show _ ∧ _; refine aK ?_ ?_)))))); all_goals clear fct)
      refine EqK.mk _ (fun y z w => dueN_neq ⟨(n : Int), ⟨4, 0, u1, false, true, ⟨#[]⟩, u2, 0, 0, false⟩⟩ ⟨(n : Int), ⟨4, 0, u1, false, true, ⟨#[]⟩, u2, 0, 0, false⟩⟩ y z w) ?_; with_reducible refine wK ?_
      rw [decide_eq_true rfl]
      repeat' (first
    | refine gK ?_
    | ((with_reducible show (_ ∧ _) ∧ _ ∧ _); (refine eK ?_ ?_ <;> with_reducible repeat' (first | exact trivial | (show _ ∧ _; refine aK ?_ ?_)))))
      refine NextK.mk (j + 1) (by omega) (by omega) ⟨⟨rfl, rfl⟩, ⟨⟨rfl, rfl⟩, rfl, rfl, ⟨rfl, rfl⟩, by rw [hstp]; show (((ks j ++ _).length : Nat) : Int) = ((ks j).length : Int) + 1; simp, by show ((j + 1 : Nat) : Int) = (j : Int) + 1; omega, trivial⟩, ⟨⟨rfl, rfl, trivial⟩, trivial⟩, ⟨⟨rfl, rfl, rfl, rfl, rfl, trivial⟩, trivial⟩, trivial⟩
  · have hjl : j = a5.length := by simp only [na, decide_eq_false_iff_not] at h1; omega
    subst hjl
    clear hstep h27
    generalize ks a5.length = W at hL hkj
    cases cn with
    | false =>
      have e : L.length = W.length := by rw [hL, Bool.and_false]; simp [cameT]
      (have fct := And.intro nL (e); (repeat' (first
    | refine gF ?_
    | (((with_reducible show CallK _ _ 40 _ _ _ _); refine CallK.lit [] h40 c40 ⟨⟨rfl, rfl, trivial⟩, rfl, trivial⟩ rfl rfl ?_) <;> with_reducible refine wK ?_)
    | ((with_reducible show (_ ∧ _) ∧ _ ∧ _); (refine eK ?_ ?_ <;> with_reducible repeat' (first | exact trivial | (show _ ∧ _; refine aK ?_ ?_)))))); all_goals clear fct)
      all_goals simp [nL, e]
    | true =>
      cases hb with
      | false =>
        have e : L.length = W.length := by rw [hL, Bool.false_and]; simp [cameT]
        (have fct := And.intro nL (e); (repeat' (first
    | refine gF ?_
    | ((first
      | ((with_reducible show CallK _ _ 40 _ _ _ _); refine CallK.lit [] h40 c40 ⟨⟨rfl, rfl, trivial⟩, rfl, trivial⟩ rfl rfl ?_)
      | ((with_reducible show CallK _ _ 25 _ _ _ _); refine CallK.lit [] h25 c25 ⟨⟨rfl, rfl, rfl, rfl, rfl, trivial⟩, rfl, trivial⟩ rfl rfl ?_)) <;> with_reducible refine wK ?_)
    | ((with_reducible show (_ ∧ _) ∧ _ ∧ _); (refine eK ?_ ?_ <;> with_reducible repeat' (first | exact trivial | (show _ ∧ _; refine aK ?_ ?_)))))); all_goals clear fct)
        all_goals simp [nL, e]
      | true =>
        have e : L.length = W.length + 1 := by rw [hL]; simp [cameT]
        have hget : L[W.length]? = some ⟨(n : Int), ⟨1, 0, ⟨#[]⟩, false, false, ⟨#[]⟩, ⟨#[]⟩, 0, 0, false⟩⟩ := by
          rw [hL, List.getElem?_append_right (Nat.le_refl _), Nat.sub_self]; rfl
        (have fct := And.intro nL (e); (repeat' (first
    | refine gF ?_
    | ((first
      | ((with_reducible show CallK _ _ 40 _ _ _ _); refine CallK.lit [] h40 c40 ⟨⟨rfl, rfl, trivial⟩, rfl, trivial⟩ rfl rfl ?_)
      | ((with_reducible show CallK _ _ 25 _ _ _ _); refine CallK.lit [] h25 c25 ⟨⟨rfl, rfl, rfl, rfl, rfl, trivial⟩, rfl, trivial⟩ rfl rfl ?_)
      | ((with_reducible show IdxK _ _ _ _ _); refine IdxK.mk W.length (eDueN _) rfl (dueN_get hget) ?_)) <;> with_reducible refine wK ?_)
    | ((with_reducible show (_ ∧ _) ∧ _ ∧ _); (refine eK ?_ ?_ <;> with_reducible repeat' (first | exact trivial | (show _ ∧ _; refine aK ?_ ?_)))))); all_goals clear fct)
        refine EqK.mk _ (fun y z w => dueN_eql ⟨(n : Int), ⟨1, 0, ⟨#[]⟩, false, false, ⟨#[]⟩, ⟨#[]⟩, 0, 0, false⟩⟩ ⟨(n : Int), ⟨1, 0, ⟨#[]⟩, false, false, ⟨#[]⟩, ⟨#[]⟩, 0, 0, false⟩⟩ y z w) ?_; with_reducible refine wK ?_
        (have fct := And.intro nL (e); (repeat' (first
    | refine gF ?_
    | ((with_reducible show (_ ∧ _) ∧ _ ∧ _); (refine eK ?_ ?_ <;> with_reducible repeat' (first | exact trivial | (show _ ∧ _; refine aK ?_ ?_)))))); all_goals clear fct)
        all_goals simp
theorem f6_ok (h23 : FnOK Tryz.prog 23 [] [] [] (eBool true)) (f : ForM) (st : List StateM) (d : DeskM) (cs : List ClassM) (c : Int) (hc : 0 ≤ c ∧ c < 256) : FnOK Tryz.prog 6 [] [eFor f, eStates st, eDesk d, eClasses cs, .lit (.int .u8 c)] [] (eBool true) := by
  have h39 := f39_ok f st d cs
  cases e0 : rightW f st d cs with
  | false =>
    rw [e0] at h39
    obtain ⟨l, m⟩ := f
    obtain ⟨d1, d2, d3, d4⟩ := d
    refine FnOK.startC (rvs := [.tmp 10]) G G_good Tryz.func6 rfl Tryz.ntmps6 rfl rfl ?_; with_reducible refine wD ?_
    repeat' (first
    | refine gK ?_
    | ((first
      | ((with_reducible show CallK _ _ 23 _ _ _ _); refine CallK.lit [] h23 c23 trivial rfl rfl ?_)
      | ((with_reducible show CallK _ _ 39 _ _ _ _); refine CallK.lit [] h39 c39 ⟨⟨rfl, rfl, trivial⟩, rfl, ⟨rfl, rfl, rfl, rfl, trivial⟩, rfl, trivial⟩ rfl rfl ?_)) <;> with_reducible refine wK ?_)
    | ((with_reducible show (_ ∧ _) ∧ _ ∧ _); (refine eK ?_ ?_ <;> with_reducible repeat' (first | exact trivial | (show _ ∧ _; refine aK ?_ ?_)))))
  | true =>
    rw [e0] at h39
    exact f6_main h23 f st d cs c hc (rightW_of e0) h39
end Go.Proofs.Heir
end
section
set_option linter.unusedSimpArgs false
set_option linter.unusedVariables false
namespace Go.Proofs.Heir
open Go Go.Am Go.RowKit Go.Lib
set_option maxRecDepth 100000
set_option maxHeartbeats 8000000
theorem asks_cases {f : ForM} {s : StateM} {d : DeskM} {cs : List ClassM} {x : NoteM} (h : (asksV f s d cs x).2 = true) :
    (s.phase = 1 ∧ x.kind = 1 ∧ fateF f x.node d ≠ -1 ∧ (asksV f s d cs x).1 = ⟨9, fateF f x.node d, ⟨#[]⟩, false, false, ⟨#[]⟩, ⟨#[]⟩, 0, 0, false⟩) ∨
    (s.phase = 3 ∧ (asksV f s d cs x).1 = callT x ∧ classB s d cs = true ∧ hearsC (classV s d cs) x.kind = true ∧ (x.kind = 4 → watchesC (classV s d cs) x.name = true) ∧ 1 ≤ x.kind ∧ x.kind ≤ 4) := by
  unfold asksV at h ⊢
  by_cases h1 : s.phase = 1
  · rw [if_pos h1] at h ⊢
    simp only [Bool.and_eq_true, decide_eq_true_eq, Bool.not_eq_true', decide_eq_false_iff_not] at h
    exact .inl ⟨h1, h.1, h.2, rfl⟩
  rw [if_neg h1] at h ⊢
  by_cases h3 : s.phase = 3
  · rw [if_pos h3] at h ⊢
    by_cases k4 : x.kind = 4
    · rw [if_pos k4] at h ⊢
      simp only [Bool.and_eq_true] at h
      exact .inr ⟨h3, rfl, h.1.1, h.2, fun _ => h.1.2, by omega, by omega⟩
    · rw [if_neg k4] at h ⊢
      by_cases k : x.kind = 1 ∨ x.kind = 2 ∨ x.kind = 3
      · rw [if_pos k] at h ⊢
        simp only [Bool.and_eq_true] at h
        exact .inr ⟨h3, rfl, h.1, h.2, fun e => absurd e k4, by omega, by omega⟩
      · rw [if_neg k] at h; cases h
  · rw [if_neg h3] at h; cases h
theorem due_cases {f : ForM} {st : List StateM} {d : DeskM} {cs : List ClassM} (hl : st.length = f.nodes.length) (x : NoteM) : dueV f st d cs x = [] ∨ ∃ (i : Nat) (s : StateM) (y : NodeM), x.node = i ∧ st[i]? = some s ∧ f.nodes[i]? = some y ∧ y.kind = 1 ∧ dueV f st d cs x = [⟨x.node, (asksV f s d cs x).1⟩] ∧ (asksV f s d cs x).2 = true := by
  unfold dueV
  by_cases he : elemV f.nodes x.node = true
  · rw [if_pos he]
    obtain ⟨i, s, hi, hs, hso⟩ := elem_at he hl
    rw [hso]
    by_cases ha : (asksV f s d cs x).2 = true
    · rw [if_pos ha]
      have hil := (List.getElem?_eq_some_iff.1 hs).1
      have hy : f.nodes[i]? = some f.nodes[i] := List.getElem?_eq_getElem (by omega)
      refine .inr ⟨i, s, _, hi, hs, hy, ?_, rfl, ha⟩
      unfold elemV at he
      rw [hi, nd_get hy] at he
      simp only [Bool.and_eq_true, decide_eq_true_eq] at he
      exact he.2
    · rw [if_neg ha]; exact .inl rfl
  · rw [if_neg he]; exact .inl rfl
theorem f5_main (h23 : FnOK Tryz.prog 23 [] [] [] (eBool true)) (f : ForM) (st : List StateM) (d : DeskM) (cs : List ClassM) (ns : List NoteM) (R : RightW f st d cs) (h39 : FnOK Tryz.prog 39 [] [eFor f, eStates st, eDesk d, eClasses cs] [] (eBool true)) (hns : ns.length ≤ 80) : FnOK Tryz.prog 5 [] [eFor f, eStates st, eDesk d, eClasses cs, eNotes ns] [] (eBool true) := by
  have h35 := fun ms hm => f35_ok f R.hs st d R.hd cs R.hc ms hm
  have hone : ∀ x : NoteM, FnOK Tryz.prog 35 [] [eFor f, eStates st, eDesk d, eClasses cs, eNotes [x]] [] (eDuesN (dueV f st d cs x)) := fun x => by
    have h := h35 [x] (by simp)
    have e : dueL f st d cs [x] = dueV f st d cs x := by unfold dueL; rw [R.look, if_pos rfl, List.flatMap_cons]; simp
    rwa [e] at h
  have hl := h35 ns (by omega)
  obtain ⟨ks, hks⟩ : ∃ ks : Nat → List DueN, ks = fun j => (ns.take j).flatMap (dueV f st d cs) := ⟨_, rfl⟩
  have hk0 : ks 0 = [] := by rw [hks]; rfl
  have hstep : ∀ (j : Nat) (x : NoteM), ns[j]? = some x → ks (j + 1) = ks j ++ dueV f st d cs x := fun j x hx => by rw [hks]; exact flat_step _ hx
  have hke : dueL f st d cs ns = ks ns.length := by unfold dueL; rw [R.look, if_pos rfl, hks]; show _ = List.flatMap _ (ns.take ns.length); rw [List.take_length]
  have hpre : ∀ j, j ≤ ns.length → ∃ r, ks ns.length = ks j ++ r := fun j hj => by
    rw [hks]
    refine ⟨(ns.drop j).flatMap (dueV f st d cs), ?_⟩
    show List.flatMap _ (ns.take ns.length) = List.flatMap _ (ns.take j) ++ _
    rw [List.take_length, ← List.flatMap_append, List.take_append_drop]
  have hkl : ∀ j, (ks j).length ≤ j := fun j => by
    rw [hks]; exact Nat.le_trans (flat_len _ (dueV_len f st d cs) _) (by rw [List.length_take]; omega)
  have hdc := fun x => due_cases (d := d) (cs := cs) R.len x
  have hac := fun s x => @asks_cases f s d cs x
  have h15 := fun n => f15_ok f R.hs n d R.hd
  have h32 := fun s => f32_ok s d cs
  have hcv := fun s => small_classV R.hc s d
  have h27 := fun s n => f27_ok (classV s d cs) (hcv s).hooks (hcv s).watch n
  have h25 := fun s k => f25_ok (classV s d cs) (hcv s).hooks k
  rw [hke] at hl
  clear h35 hke hks hcv
  obtain ⟨L, hL⟩ : ∃ L, L = ks ns.length := ⟨_, rfl⟩
  rw [← hL] at hl hpre
  have hLl : L.length ≤ 80 := by rw [hL]; exact Nat.le_trans (hkl _) hns
  have hlm : (ns.map oNote).length = ns.length := List.length_map ..
  have nL : (L.map oDueN).length = L.length := List.length_map ..
  have hst := (show (st.map oState).length = st.length from List.length_map ..)
  generalize hdv : dueV f st d cs = dv at hone hstep hdc
  obtain ⟨l, m⟩ := f
  obtain ⟨d1, d2, d3, d4⟩ := d
  refine FnOK.startC (rvs := [.tmp 10]) G G_good Tryz.func5 rfl Tryz.ntmps5 rfl rfl ?_; with_reducible refine wD ?_
  (have fct := And.intro hlm ((show ¬ (80 : Int) < (ns.length : Int) by omega)); (repeat' (first
    | refine gF ?_
    | ((first
      | ((with_reducible show CallK _ _ 23 _ _ _ _); refine CallK.lit [] h23 c23 trivial rfl rfl ?_)
      | ((with_reducible show CallK _ _ 39 _ _ _ _); refine CallK.lit [] h39 c39 ⟨⟨rfl, rfl, trivial⟩, rfl, ⟨rfl, rfl, rfl, rfl, trivial⟩, rfl, trivial⟩ rfl rfl ?_)
      | ((with_reducible show CallK _ _ 35 _ _ _ _); refine CallK.val [] hl c35 ⟨⟨rfl, rfl, trivial⟩, rfl, ⟨rfl, rfl, rfl, rfl, trivial⟩, rfl, rfl, trivial⟩ rfl rfl rfl ?_)) <;> with_reducible refine wK ?_)
    | ((with_reducible show (_ ∧ _) ∧ _ ∧ _); (refine eK ?_ ?_ <;> with_reducible repeat' (first | exact trivial | (show _ ∧ _; refine aK ?_ ?_)))))); all_goals clear fct)
  refine LoopK.use G G_good (fun (j : Nat) => [(1, eStates st), (3, eClasses cs), (4, eNotes ns), (5, .ptr 50 0 0), (7, .ptr 70 0 0), (11, eDuesN L), (12, eInt (ks j).length), (13, eInt j)]) (fun _ => [(50, .live 2 [eFor ⟨l, m⟩] false), (70, .live 4 [eDesk ⟨d1, d2, d3, d4⟩] false)]) (fun j => j ≤ ns.length) (fun j => ns.length - j) 0 (Nat.zero_le _)
    (by rw [hk0]; exact ⟨⟨rfl, rfl⟩, ⟨rfl, rfl, rfl, ⟨rfl, rfl⟩, ⟨rfl, rfl⟩, rfl, rfl, rfl, trivial⟩, ⟨⟨rfl, rfl, trivial⟩, trivial⟩, ⟨⟨rfl, rfl, rfl, rfl, trivial⟩, trivial⟩, trivial⟩) ?_
  intro j hj
  have hkj := hkl j
  with_reducible refine wK ?_
  refine IfK.mk (fun h1 => ?_) (fun h1 => ?_) <;> (try simp only [castN] at h1) <;> with_reducible refine wK ?_
  · have hj' : j < ns.length := by simp only [hlm, decide_eq_true_eq] at h1; omega
    obtain ⟨x, hx⟩ : ∃ x, ns[j]? = some x := ⟨_, List.getElem?_eq_getElem hj'⟩
    have hstp := hstep j x hx
    have hone' := hone x
    obtain ⟨r, hr⟩ := hpre (j + 1) hj'
    have cut : [x].map oNote = ((ns.map oNote).drop j).take 1 := by
      have e : ns[j] = x := Option.some.inj ((List.getElem?_eq_getElem hj').symm.trans hx)
      rw [← List.map_drop, List.drop_eq_getElem_cons hj', e]; rfl
    have hcase := hdc x
    clear hdc hone hstep hpre hkl h23 h39 hl
    have hnx : ∀ q, ks (j + 1) = q → True := fun _ _ => trivial
    rcases hcase with h0 | ⟨i, ⟨s1, s2, s3, s4⟩, ⟨b1, b2, b3, b4, b5, b6, b7, b8, b9, b10⟩, hi, hs, hy, hb1, hd1, hasks⟩
    · rw [h0] at hstp hone'
      rw [List.append_nil] at hstp
      obtain ⟨x1, x2, x3, x4, x5, x6, x7, x8, x9⟩ := x
      (have fct := hlm; (repeat' (first
    | refine gF ?_
    | ((first
      | ((with_reducible show IdxK _ _ _ _ _); refine IdxK.mk j (eNote _) rfl (note_get hx) ?_)
      | ((with_reducible show CutFK _ _ _ _ _ _); refine CutFK.mk j 1 _ rfl (by (try simp only [castN]); omega) (by rw [hlm]; omega) cut ?_)
      | ((with_reducible show CallK _ _ 35 _ _ _ _); refine CallK.val [] hone' c35 ⟨⟨rfl, rfl, trivial⟩, rfl, ⟨rfl, rfl, rfl, rfl, trivial⟩, rfl, rfl, trivial⟩ rfl rfl rfl ?_)) <;> with_reducible refine wK ?_)
    | ((with_reducible show (_ ∧ _) ∧ _ ∧ _); (refine eK ?_ ?_ <;> with_reducible repeat' (first | exact trivial | (show _ ∧ _; refine aK ?_ ?_)))))); all_goals clear fct)
      refine NextK.mk (j + 1) (by omega) (by omega) ⟨⟨rfl, rfl⟩, ⟨rfl, rfl, rfl, ⟨rfl, rfl⟩, ⟨rfl, rfl⟩, rfl, by rw [hstp], by show ((j + 1 : Nat) : Int) = (j : Int) + 1; omega, trivial⟩, ⟨⟨rfl, rfl, trivial⟩, trivial⟩, ⟨⟨rfl, rfl, rfl, rfl, trivial⟩, trivial⟩, trivial⟩
    · rw [hd1] at hstp hone'
      rw [hstp] at hr
      simp only at hb1
      subst hb1
      have hil := (List.getElem?_eq_some_iff.1 hs).1
      have hget : L[(ks j).length]? = some ⟨x.node, (asksV ⟨l, m⟩ ⟨s1, s2, s3, s4⟩ ⟨d1, d2, d3, d4⟩ cs x).1⟩ := by
        rw [hr, List.append_assoc, List.getElem?_append_right (Nat.le_refl _), Nat.sub_self]; rfl
      have hlt : ¬ (L.length : Int) ≤ ((ks j).length : Int) := by have := (List.getElem?_eq_some_iff.1 hget).1; omega
      have hnode : ¬ (st.length : Int) ≤ (i : Int) := by omega
      have hi0 : ¬ (i : Int) < 0 := by omega
      have hlen1 : ((ks (j + 1)).length : Int) = ((ks j).length : Int) + 1 := by rw [hstp]; simp
      have hac' := hac _ _ hasks
      clear hac hasks hd1 hr hstp
      rcases hac' with ⟨p1, p2, p3, p4⟩ | ⟨p1, p4, p5, p6, p7, p8, p9⟩
      · have h15' := h15 i
        rw [p4] at hget hone'
        obtain ⟨x1, x2, x3, x4, x5, x6, x7, x8, x9⟩ := x
        simp only at hi p1 p2 p3 hget hone'
        subst hi p1 p2
        clear p4 h15 h32 h27 h25
        generalize fateF ⟨l, m⟩ i ⟨d1, d2, d3, d4⟩ = at' at h15' p3 hget hone'
        (have fct := And.intro hlm (And.intro nL (And.intro hst (And.intro (eq_false hlt) (And.intro (eq_false hnode) (And.intro (eq_false hi0) ((eq_false p3))))))); (repeat' (first
    | refine gF ?_
    | ((first
      | ((with_reducible show IdxK _ _ _ _ _); first | refine IdxK.mk j (eNote _) rfl (note_get hx) ?_ | refine IdxK.mk (ks j).length (eDueN _) rfl (dueN_get hget) ?_ | refine IdxK.mk 0 (eDueN _) rfl (dueN_get rfl) ?_ | refine IdxK.mk i (eNode _) rfl (node_get hy) ?_ | refine IdxK.mk i (eState _) rfl (state_get hs) ?_)
      | ((with_reducible show CutFK _ _ _ _ _ _); refine CutFK.mk j 1 _ rfl (by (try simp only [castN]); omega) (by rw [hlm]; omega) cut ?_)
      | ((with_reducible show CallK _ _ 35 _ _ _ _); refine CallK.val [] hone' c35 ⟨⟨rfl, rfl, trivial⟩, rfl, ⟨rfl, rfl, rfl, rfl, trivial⟩, rfl, rfl, trivial⟩ rfl rfl rfl ?_)
      | ((with_reducible show CallK _ _ 15 _ _ _ _); refine CallK.lit [] h15' c15 ⟨⟨rfl, rfl, trivial⟩, rfl, ⟨rfl, rfl, rfl, rfl, trivial⟩, trivial⟩ rfl rfl ?_)
      | ((with_reducible show EqK _ _ _ _ _ _ _ _); refine EqK.mk (!true) (fun y z w => by have h := dueN_neq ⟨(i : Int), ⟨9, at', ⟨#[]⟩, false, false, ⟨#[]⟩, ⟨#[]⟩, 0, 0, false⟩⟩ ⟨(i : Int), ⟨9, at', ⟨#[]⟩, false, false, ⟨#[]⟩, ⟨#[]⟩, 0, 0, false⟩⟩ y z w; rwa [decide_eq_true rfl] at h) ?_)) <;> with_reducible refine wK ?_)
    | ((with_reducible show (_ ∧ _) ∧ _ ∧ _); (refine eK ?_ ?_ <;> with_reducible repeat' (first | exact trivial | (show _ ∧ _; refine aK ?_ ?_)))))); all_goals clear fct)
        refine NextK.mk (j + 1) (by omega) (by omega) ⟨⟨rfl, rfl⟩, ⟨rfl, rfl, rfl, ⟨rfl, rfl⟩, ⟨rfl, rfl⟩, rfl, by show (((ks (j + 1)).length : Nat) : Int) = ((ks j).length : Int) + 1; exact hlen1, by show ((j + 1 : Nat) : Int) = (j : Int) + 1; omega, trivial⟩, ⟨⟨rfl, rfl, trivial⟩, trivial⟩, ⟨⟨rfl, rfl, rfl, rfl, trivial⟩, trivial⟩, trivial⟩
      · have h32' := h32 ⟨s1, s2, s3, s4⟩
        have h27' := h27 ⟨s1, s2, s3, s4⟩
        have h25' := h25 ⟨s1, s2, s3, s4⟩
        rw [p4] at hget hone'
        unfold callT at hget hone'
        obtain ⟨x1, x2, x3, x4, x5, x6, x7, x8, x9⟩ := x
        simp only at hi p1 p6 p7 p8 p9 hget hone'
        subst hi p1
        clear p4 h15 h32 h27 h25
        rw [p5] at h32'
        generalize classV ⟨3, s2, s3, s4⟩ ⟨d1, d2, d3, d4⟩ cs = c at h32' h27' h25' p6 p7
        have h25'' := h25' x1
        have h27'' := h27' x5
        rw [p6] at h25''
        clear h25' h27'
        have k9 : ¬ x1 = 9 := by omega
        by_cases k4 : x1 = 4
        · rw [p7 k4] at h27''
          subst k4
          obtain ⟨c1, c2, c3, c4, c5⟩ := c
          (have fct := And.intro hlm (And.intro nL (And.intro hst (And.intro (eq_false hlt) (And.intro (eq_false hnode) ((eq_false hi0)))))); (repeat' (first
    | refine gF ?_
    | ((first
      | ((with_reducible show IdxK _ _ _ _ _); first | refine IdxK.mk j (eNote _) rfl (note_get hx) ?_ | refine IdxK.mk (ks j).length (eDueN _) rfl (dueN_get hget) ?_ | refine IdxK.mk 0 (eDueN _) rfl (dueN_get rfl) ?_ | refine IdxK.mk i (eNode _) rfl (node_get hy) ?_ | refine IdxK.mk i (eState _) rfl (state_get hs) ?_)
      | ((with_reducible show CutFK _ _ _ _ _ _); refine CutFK.mk j 1 _ rfl (by (try simp only [castN]); omega) (by rw [hlm]; omega) cut ?_)
      | ((with_reducible show CallK _ _ 35 _ _ _ _); refine CallK.val [] hone' c35 ⟨⟨rfl, rfl, trivial⟩, rfl, ⟨rfl, rfl, rfl, rfl, trivial⟩, rfl, rfl, trivial⟩ rfl rfl rfl ?_)
      | ((with_reducible show CallK _ _ 32 _ _ _ _); refine CallK.val [] h32' c32 ⟨⟨rfl, rfl, rfl, rfl, trivial⟩, ⟨rfl, rfl, rfl, rfl, trivial⟩, rfl, trivial⟩ rfl rfl rfl ?_)
      | ((with_reducible show CallK _ _ 25 _ _ _ _); refine CallK.lit [] h25'' c25 ⟨⟨rfl, rfl, rfl, rfl, rfl, trivial⟩, rfl, trivial⟩ rfl rfl ?_)
      | ((with_reducible show CallK _ _ 27 _ _ _ _); refine CallK.lit [] h27'' c27 ⟨⟨rfl, rfl, rfl, rfl, rfl, trivial⟩, rfl, trivial⟩ rfl rfl ?_)
      | ((with_reducible show EqK _ _ _ _ _ _ _ _); refine EqK.mk (!true) (fun y z w => by have h := dueN_neq ⟨(i : Int), ⟨4, 0, x5, x6, x7, x8, x9, x3, x4, false⟩⟩ ⟨(i : Int), ⟨4, 0, x5, x6, x7, x8, x9, x3, x4, false⟩⟩ y z w; rwa [decide_eq_true rfl] at h) ?_)) <;> with_reducible refine wK ?_)
    | ((with_reducible show (_ ∧ _) ∧ _ ∧ _); (refine eK ?_ ?_ <;> with_reducible repeat' (first | exact trivial | (show _ ∧ _; refine aK ?_ ?_)))))); all_goals clear fct)
          refine NextK.mk (j + 1) (by omega) (by omega) ⟨⟨rfl, rfl⟩, ⟨rfl, rfl, rfl, ⟨rfl, rfl⟩, ⟨rfl, rfl⟩, rfl, by show (((ks (j + 1)).length : Nat) : Int) = ((ks j).length : Int) + 1; exact hlen1, by show ((j + 1 : Nat) : Int) = (j : Int) + 1; omega, trivial⟩, ⟨⟨rfl, rfl, trivial⟩, trivial⟩, ⟨⟨rfl, rfl, rfl, rfl, trivial⟩, trivial⟩, trivial⟩
        · obtain ⟨c1, c2, c3, c4, c5⟩ := c
          (have fct := And.intro hlm (And.intro nL (And.intro hst (And.intro (eq_false hlt) (And.intro (eq_false hnode) (And.intro (eq_false hi0) (And.intro (eq_false k9) ((eq_false k4)))))))); (repeat' (first
    | refine gF ?_
    | ((first
      | ((with_reducible show IdxK _ _ _ _ _); first | refine IdxK.mk j (eNote _) rfl (note_get hx) ?_ | refine IdxK.mk (ks j).length (eDueN _) rfl (dueN_get hget) ?_ | refine IdxK.mk 0 (eDueN _) rfl (dueN_get rfl) ?_ | refine IdxK.mk i (eNode _) rfl (node_get hy) ?_ | refine IdxK.mk i (eState _) rfl (state_get hs) ?_)
      | ((with_reducible show CutFK _ _ _ _ _ _); refine CutFK.mk j 1 _ rfl (by (try simp only [castN]); omega) (by rw [hlm]; omega) cut ?_)
      | ((with_reducible show CallK _ _ 35 _ _ _ _); refine CallK.val [] hone' c35 ⟨⟨rfl, rfl, trivial⟩, rfl, ⟨rfl, rfl, rfl, rfl, trivial⟩, rfl, rfl, trivial⟩ rfl rfl rfl ?_)
      | ((with_reducible show CallK _ _ 32 _ _ _ _); refine CallK.val [] h32' c32 ⟨⟨rfl, rfl, rfl, rfl, trivial⟩, ⟨rfl, rfl, rfl, rfl, trivial⟩, rfl, trivial⟩ rfl rfl rfl ?_)
      | ((with_reducible show CallK _ _ 25 _ _ _ _); refine CallK.lit [] h25'' c25 ⟨⟨rfl, rfl, rfl, rfl, rfl, trivial⟩, rfl, trivial⟩ rfl rfl ?_)
      | ((with_reducible show CallK _ _ 27 _ _ _ _); refine CallK.lit [] h27'' c27 ⟨⟨rfl, rfl, rfl, rfl, rfl, trivial⟩, rfl, trivial⟩ rfl rfl ?_)
      | ((with_reducible show EqK _ _ _ _ _ _ _ _); refine EqK.mk (!true) (fun y z w => by have h := dueN_neq ⟨(i : Int), ⟨x1, 0, x5, x6, x7, x8, x9, x3, x4, false⟩⟩ ⟨(i : Int), ⟨x1, 0, x5, x6, x7, x8, x9, x3, x4, false⟩⟩ y z w; rwa [decide_eq_true rfl] at h) ?_)) <;> with_reducible refine wK ?_)
    | ((with_reducible show (_ ∧ _) ∧ _ ∧ _); (refine eK ?_ ?_ <;> with_reducible repeat' (first | exact trivial | (show _ ∧ _; refine aK ?_ ?_)))))); all_goals clear fct)
          refine NextK.mk (j + 1) (by omega) (by omega) ⟨⟨rfl, rfl⟩, ⟨rfl, rfl, rfl, ⟨rfl, rfl⟩, ⟨rfl, rfl⟩, rfl, by show (((ks (j + 1)).length : Nat) : Int) = ((ks j).length : Int) + 1; exact hlen1, by show ((j + 1 : Nat) : Int) = (j : Int) + 1; omega, trivial⟩, ⟨⟨rfl, rfl, trivial⟩, trivial⟩, ⟨⟨rfl, rfl, rfl, rfl, trivial⟩, trivial⟩, trivial⟩
  · have hjl : j = ns.length := by simp only [hlm, decide_eq_false_iff_not] at h1; omega
    subst hjl
    rw [← hL]
    repeat' (first
    | refine gK ?_
    | ((with_reducible show (_ ∧ _) ∧ _ ∧ _); (refine eK ?_ ?_ <;> with_reducible repeat' (first | exact trivial | (show _ ∧ _; refine aK ?_ ?_)))))
    all_goals simp [nL]
theorem f5_ok (h23 : FnOK Tryz.prog 23 [] [] [] (eBool true)) (f : ForM) (st : List StateM) (d : DeskM) (cs : List ClassM) (ns : List NoteM) : FnOK Tryz.prog 5 [] [eFor f, eStates st, eDesk d, eClasses cs, eNotes ns] [] (eBool true) := by
  have h39 := f39_ok f st d cs
  have hlm : (ns.map oNote).length = ns.length := List.length_map ..
  cases e0 : rightW f st d cs with
  | false =>
    rw [e0] at h39
    obtain ⟨l, m⟩ := f
    obtain ⟨d1, d2, d3, d4⟩ := d
    refine FnOK.startC (rvs := [.tmp 10]) G G_good Tryz.func5 rfl Tryz.ntmps5 rfl rfl ?_; with_reducible refine wD ?_
    repeat' (first
    | refine gK ?_
    | ((first
      | ((with_reducible show CallK _ _ 23 _ _ _ _); refine CallK.lit [] h23 c23 trivial rfl rfl ?_)
      | ((with_reducible show CallK _ _ 39 _ _ _ _); refine CallK.lit [] h39 c39 ⟨⟨rfl, rfl, trivial⟩, rfl, ⟨rfl, rfl, rfl, rfl, trivial⟩, rfl, trivial⟩ rfl rfl ?_)) <;> with_reducible refine wK ?_)
    | ((with_reducible show (_ ∧ _) ∧ _ ∧ _); (refine eK ?_ ?_ <;> with_reducible repeat' (first | exact trivial | (show _ ∧ _; refine aK ?_ ?_)))))
  | true =>
    rw [e0] at h39
    by_cases e1 : (80 : Int) < (ns.length : Int)
    · obtain ⟨l, m⟩ := f
      obtain ⟨d1, d2, d3, d4⟩ := d
      refine FnOK.startC (rvs := [.tmp 10]) G G_good Tryz.func5 rfl Tryz.ntmps5 rfl rfl ?_; with_reducible refine wD ?_
      (have fct := And.intro hlm (e1); (repeat' (first
    | refine gF ?_
    | ((first
      | ((with_reducible show CallK _ _ 23 _ _ _ _); refine CallK.lit [] h23 c23 trivial rfl rfl ?_)
      | ((with_reducible show CallK _ _ 39 _ _ _ _); refine CallK.lit [] h39 c39 ⟨⟨rfl, rfl, trivial⟩, rfl, ⟨rfl, rfl, rfl, rfl, trivial⟩, rfl, trivial⟩ rfl rfl ?_)) <;> with_reducible refine wK ?_)
    | ((with_reducible show (_ ∧ _) ∧ _ ∧ _); (refine eK ?_ ?_ <;> with_reducible repeat' (first | exact trivial | (show _ ∧ _; refine aK ?_ ?_)))))); all_goals clear fct)
    · exact f5_main h23 f st d cs ns (rightW_of e0) h39 (by omega)
end Go.Proofs.Heir
end
section
set_option linter.unusedSimpArgs false
set_option linter.unusedVariables false
namespace Go.Proofs.Heir
open Go Go.Am Go.RowKit Go.Lib
set_option maxRecDepth 100000
set_option maxHeartbeats 8000000
theorem one_asks {f : ForM} {s : StateM} {d : DeskM} {cs : List ClassM} {x : NoteM} (hr : rightF f = true) (ht : thereN f.nodes x.node = true) : (oneV f s d cs x).2 = (asksV f s d cs x).2 ∧ ((asksV f s d cs x).2 = true → (oneV f s d cs x).1 = (asksV f s d cs x).1) := by
  have hf : fateF f x.node d = fateD (nd f.nodes x.node) d := by unfold fateF; rw [hr, ht]; rfl
  have hge := fate_ge (nd f.nodes x.node) d
  unfold oneV asksV
  rw [hf]
  generalize fateD (nd f.nodes x.node) d = a at hge ⊢
  generalize classB s d cs = cb
  generalize classV s d cs = c
  by_cases h1 : s.phase = 1
  · rw [if_pos h1]
    have h3 : ¬ s.phase = 3 := by omega
    by_cases k1 : x.kind = 1
    · rw [if_pos ⟨h1, k1⟩, decide_eq_true k1, Bool.true_and]
      refine ⟨?_, fun _ => rfl⟩
      show decide (0 ≤ a) = !decide (a = -1)
      rw [← decide_not]
      exact decide_eq_decide.2 (by omega)
    · rw [if_neg (fun h => k1 h.2), if_neg (fun h => h3 h.1), decide_eq_false k1]
      exact ⟨rfl, fun h => by cases h⟩
  · rw [if_neg (fun h => h1 h.1), if_neg h1]
    by_cases h3 : s.phase = 3
    · rw [if_pos h3]
      by_cases k4 : x.kind = 4
      · rw [if_pos k4]
        cases cb <;> cases e1 : hearsC c x.kind <;> cases e2 : watchesC c x.name <;> simp [h3, k4]
      · rw [if_neg k4]
        by_cases k : x.kind = 1 ∨ x.kind = 2 ∨ x.kind = 3
        · rw [if_pos k]
          have k5 : 1 ≤ x.kind ∧ x.kind ≤ 4 := by omega
          cases cb <;> cases e1 : hearsC c x.kind <;> simp [h3, k4, k5]
        · rw [if_neg k]
          have k5 : ¬ (1 ≤ x.kind ∧ x.kind ≤ 4) := by omega
          rw [if_neg (fun h => k5 ⟨h.2.2.1, h.2.2.2.1⟩)]
          exact ⟨rfl, fun h => by cases h⟩
    · rw [if_neg h3, if_neg (fun h => h3 h.1)]
      exact ⟨rfl, fun h => by cases h⟩
theorem f37_ok (f : ForM) (st : List StateM) (d : DeskM) (hd : SmallD d) (cs : List ClassM) (hc : SmallC cs) (ns : List NoteM) (hns : ns.length ≤ 100000) (hlk : lookV f st d = true) : FnOK Tryz.prog 37 [] [eFor f, eStates st, eDesk d, eClasses cs, eNotes ns] [] (eDuesN (dueL f st d cs ns)) := by
  have h60 := fun hr x i s y => f60_ok f st d hd hr cs hc x i s y
  have hlm : (ns.map oNote).length = ns.length := List.length_map ..
  have hln := (show (f.nodes.map oNode).length = f.nodes.length from List.length_map ..)
  unfold dueL
  rw [hlk, if_pos rfl]
  obtain ⟨hle, hrf, hrd⟩ : st.length = f.nodes.length ∧ rightF f = true ∧ rightD d = true := by
    unfold lookV at hlk; simp only [Bool.and_eq_true, decide_eq_true_eq] at hlk; exact ⟨hlk.1.1, hlk.1.2, hlk.2⟩
  obtain ⟨ks, hks⟩ : ∃ ks : Nat → List DueN, ks = fun k => (ns.take k).flatMap (dueV f st d cs) := ⟨_, rfl⟩
  have hkl : ∀ k, (ks k).length ≤ k := fun k => by
    rw [hks]; exact Nat.le_trans (flat_len _ (dueV_len f st d cs) _) (by rw [List.length_take]; omega)
  have hk0 : ks 0 = [] := by rw [hks]; rfl
  have hke : ks ns.length = ns.flatMap (dueV f st d cs) := by rw [hks]; show List.flatMap _ (ns.take ns.length) = _; rw [List.take_length]
  have hstep : ∀ (k : Nat) (x : NoteM), ns[k]? = some x → ks (k + 1) = ks k ++ dueV f st d cs x := fun k x hx => by rw [hks]; exact flat_step _ hx
  have hdue : ∀ x : NoteM, (elemV f.nodes x.node = false ∧ dueV f st d cs x = []) ∨ ∃ (i : Nat) (s : StateM) (y : NodeM), x.node = i ∧ st[i]? = some s ∧ f.nodes[i]? = some y ∧ y.kind = 1 ∧ dueV f st d cs x = if (oneV f s d cs x).2 = true then [⟨x.node, (oneV f s d cs x).1⟩] else [] := fun x => by
    unfold dueV
    by_cases he : elemV f.nodes x.node = true
    · rw [if_pos he]
      obtain ⟨i, s, hi, hs, hso⟩ := elem_at he hle
      rw [hso]
      have hil := (List.getElem?_eq_some_iff.1 hs).1
      have hy : f.nodes[i]? = some f.nodes[i] := List.getElem?_eq_getElem (by omega)
      have ht : thereN f.nodes x.node = true := by rw [hi]; exact there_get hy
      obtain ⟨o1, o2⟩ := one_asks (s := s) (d := d) (cs := cs) hrf ht
      refine .inr ⟨i, s, _, hi, hs, hy, ?_, ?_⟩
      · unfold elemV at he
        rw [hi, nd_get hy] at he
        simp only [Bool.and_eq_true, decide_eq_true_eq] at he
        exact he.2
      · rw [o1]
        by_cases h : (asksV f s d cs x).2 = true
        · rw [if_pos h, if_pos h, o2 h]
        · rw [if_neg h, if_neg h]
    · rw [if_neg he]; exact .inl ⟨by simpa using he, rfl⟩
  have h60 := h60 hrd
  rw [← hke]
  clear hks hke hlk hrf hrd
  generalize dueV f st d cs = dv at hstep hdue
  obtain ⟨l, m⟩ := f
  obtain ⟨d1, d2, d3, d4⟩ := d
  simp only at hle hln
  refine FnOK.startC (rvs := [.tmp 10]) G G_good Tryz.func37 rfl Tryz.ntmps37 rfl rfl ?_; with_reducible refine wD ?_
  refine LoopK.ghost 11 111 11 rfl rfl ?_
  refine LoopK.use G G_good (fun (k : Nat) => [(1, eStates st), (3, eClasses cs), (4, eNotes ns), (5, .ptr 50 0 0), (7, .ptr 70 0 0), (11, .own 111 0 (ks k).length), (12, eInt k)])
    (fun k => [(50, .live 2 [eFor ⟨l, m⟩] false), (70, .live 4 [eDesk ⟨d1, d2, d3, d4⟩] false), (111, rDuesN (ks k))]) (fun k => k ≤ ns.length) (fun k => ns.length - k) 0 (Nat.zero_le _)
    (by rw [hk0]; exact ⟨⟨rfl, rfl⟩, ⟨rfl, rfl, rfl, ⟨rfl, rfl⟩, ⟨rfl, rfl⟩, ⟨rfl, rfl⟩, rfl, trivial⟩, ⟨⟨rfl, rfl, trivial⟩, trivial⟩, ⟨⟨rfl, rfl, rfl, rfl, trivial⟩, trivial⟩, ⟨.refl rfl, noRef_duesN _⟩, trivial⟩) ?_
  intro k hk
  with_reducible refine wK ?_
  refine IfK.mk (fun h1 => ?_) (fun h1 => ?_) <;> (try simp only [castN] at h1) <;> with_reducible refine wK ?_
  · have hk' : k < ns.length := by simp only [hlm, decide_eq_true_eq] at h1; omega
    obtain ⟨x, hx⟩ : ∃ x, ns[k]? = some x := ⟨_, List.getElem?_eq_getElem hk'⟩
    have hstp := hstep k _ hx
    have hkk := hkl k
    have hcase := hdue x
    clear hstep hdue
    rcases hcase with ⟨he, h0⟩ | ⟨i, s, ⟨b1, b2, b3, b4, b5, b6, b7, b8, b9, b10⟩, hi, hs, hy, hb1, h0⟩
    · rw [h0, List.append_nil] at hstp
      obtain ⟨x1, x2, x3, x4, x5, x6, x7, x8, x9⟩ := x
      simp only at he
      refine IdxK.mk k (eNote _) rfl (note_get hx) ?_; with_reducible refine wK ?_
      by_cases e1 : x2 < 0
      · (have fct := (eq_true e1); (repeat' (first
    | refine gF ?_
    | ((with_reducible show (_ ∧ _) ∧ _ ∧ _); (refine eK ?_ ?_ <;> with_reducible repeat' (first | exact trivial | (show _ ∧ _; refine aK ?_ ?_)))))); all_goals clear fct)
        refine NextK.mk (k + 1) (by omega) (by omega) ⟨⟨rfl, rfl⟩, ⟨rfl, rfl, rfl, ⟨rfl, rfl⟩, ⟨rfl, rfl⟩, ⟨rfl, by rw [hstp]⟩, by show ((k + 1 : Nat) : Int) = (k : Int) + 1; omega, trivial⟩, ⟨⟨rfl, rfl, trivial⟩, trivial⟩, ⟨⟨rfl, rfl, rfl, rfl, trivial⟩, trivial⟩, ⟨by rw [hstp]; exact .refl (noRef_duesN _), noRef_duesN _⟩, trivial⟩
      by_cases e2 : (l.length : Int) ≤ x2
      · (have fct := And.intro (eq_false e1) (And.intro hln ((eq_true e2))); (repeat' (first
    | refine gF ?_
    | ((with_reducible show (_ ∧ _) ∧ _ ∧ _); (refine eK ?_ ?_ <;> with_reducible repeat' (first | exact trivial | (show _ ∧ _; refine aK ?_ ?_)))))); all_goals clear fct)
        refine NextK.mk (k + 1) (by omega) (by omega) ⟨⟨rfl, rfl⟩, ⟨rfl, rfl, rfl, ⟨rfl, rfl⟩, ⟨rfl, rfl⟩, ⟨rfl, by rw [hstp]⟩, by show ((k + 1 : Nat) : Int) = (k : Int) + 1; omega, trivial⟩, ⟨⟨rfl, rfl, trivial⟩, trivial⟩, ⟨⟨rfl, rfl, rfl, rfl, trivial⟩, trivial⟩, ⟨by rw [hstp]; exact .refl (noRef_duesN _), noRef_duesN _⟩, trivial⟩
      obtain ⟨i, rfl⟩ : ∃ i : Nat, x2 = i := ⟨_, (Int.toNat_of_nonneg (by omega)).symm⟩
      obtain ⟨⟨b1, b2, b3, b4, b5, b6, b7, b8, b9, b10⟩, hy⟩ : ∃ y, l[i]? = some y := ⟨_, List.getElem?_eq_getElem (by omega)⟩
      have hb1 : ¬ b1 = 1 := fun h => by
        unfold elemV at he
        rw [there_get hy, nd_get hy, Bool.true_and] at he
        exact absurd h (by simpa using he)
      (have fct := And.intro (eq_false e1) (And.intro hln (And.intro (eq_false e2) ((eq_false hb1)))); (repeat' (first
    | refine gF ?_
    | (((with_reducible show IdxK _ _ _ _ _); refine IdxK.mk i (eNode _) rfl (node_get hy) ?_) <;> with_reducible refine wK ?_)
    | ((with_reducible show (_ ∧ _) ∧ _ ∧ _); (refine eK ?_ ?_ <;> with_reducible repeat' (first | exact trivial | (show _ ∧ _; refine aK ?_ ?_)))))); all_goals clear fct)
      refine NextK.mk (k + 1) (by omega) (by omega) ⟨⟨rfl, rfl⟩, ⟨rfl, rfl, rfl, ⟨rfl, rfl⟩, ⟨rfl, rfl⟩, ⟨rfl, by rw [hstp]⟩, by show ((k + 1 : Nat) : Int) = (k : Int) + 1; omega, trivial⟩, ⟨⟨rfl, rfl, trivial⟩, trivial⟩, ⟨⟨rfl, rfl, rfl, rfl, trivial⟩, trivial⟩, ⟨by rw [hstp]; exact .refl (noRef_duesN _), noRef_duesN _⟩, trivial⟩
    · rw [h0] at hstp
      have h60' := h60 x i s _ hi hs hy
      have hil := (List.getElem?_eq_some_iff.1 hs).1
      simp only at hb1
      subst hb1
      have e1 : ¬ (i : Int) < 0 := by omega
      have e2 : ¬ (l.length : Int) ≤ (i : Int) := by omega
      clear h60 h0
      generalize oneV ⟨l, m⟩ s ⟨d1, d2, d3, d4⟩ cs x = r at h60' hstp
      obtain ⟨⟨t1, t2, t3, t4, t5, t6, t7, t8, t9, t10⟩, b⟩ := r
      obtain ⟨x1, x2, x3, x4, x5, x6, x7, x8, x9⟩ := x
      simp only at hi hstp h60'
      subst hi
      refine IdxK.mk k (eNote _) rfl (note_get hx) ?_; with_reducible refine wK ?_
      (have fct := And.intro (eq_false e1) (And.intro hln ((eq_false e2))); (repeat' (first
    | refine gF ?_
    | ((first
      | ((with_reducible show IdxK _ _ _ _ _); first | refine IdxK.mk i (eNode _) rfl (node_get hy) ?_ | refine IdxK.mk k (eNote _) rfl (note_get hx) ?_)
      | ((with_reducible show CallK _ _ 60 _ _ _ _); refine CallK.val [] h60' c60 ⟨⟨rfl, rfl, trivial⟩, rfl, ⟨rfl, rfl, rfl, rfl, trivial⟩, rfl, ⟨rfl, rfl, rfl, rfl, rfl, rfl, rfl, rfl, rfl, trivial⟩, trivial⟩ rfl rfl rfl ?_)) <;> with_reducible refine wK ?_)
    | ((with_reducible show (_ ∧ _) ∧ _ ∧ _); (refine eK ?_ ?_ <;> with_reducible repeat' (first | exact trivial | (show _ ∧ _; refine aK ?_ ?_)))))); all_goals clear fct)
      cases b with
      | false =>
        rw [if_neg (by simp), List.append_nil] at hstp
        repeat' (first
    | refine gK ?_
    | ((with_reducible show (_ ∧ _) ∧ _ ∧ _); (refine eK ?_ ?_ <;> with_reducible repeat' (first | exact trivial | (show _ ∧ _; refine aK ?_ ?_)))))
        refine NextK.mk (k + 1) (by omega) (by omega) ⟨⟨rfl, rfl⟩, ⟨rfl, rfl, rfl, ⟨rfl, rfl⟩, ⟨rfl, rfl⟩, ⟨rfl, by rw [hstp]⟩, by show ((k + 1 : Nat) : Int) = (k : Int) + 1; omega, trivial⟩, ⟨⟨rfl, rfl, trivial⟩, trivial⟩, ⟨⟨rfl, rfl, rfl, rfl, trivial⟩, trivial⟩, ⟨by rw [hstp]; exact .refl (noRef_duesN _), noRef_duesN _⟩, trivial⟩
      | true =>
        rw [if_pos rfl] at hstp
        repeat' (first
    | refine gK ?_
    | (((with_reducible show AppK _ _ _ _ _ _ _ _ _ _); refine AppK.mk ((ks k).map oDueN) [eDueN ⟨(i : Int), ⟨t1, t2, t3, t4, t5, t6, t7, t8, t9, t10⟩⟩] ⟨rfl, (List.length_map ..).symm, rfl⟩ ⟨rfl, rfl, rfl⟩ rfl (by simp; omega) (by simp; omega) ?_) <;> with_reducible refine wK ?_)
    | ((with_reducible show (_ ∧ _) ∧ _ ∧ _); (refine eK ?_ ?_ <;> with_reducible repeat' (first | exact trivial | (show _ ∧ _; refine aK ?_ ?_)))))
        refine NextK.mk (k + 1) (by omega) (by omega) ⟨⟨rfl, rfl⟩, ⟨rfl, rfl, rfl, ⟨rfl, rfl⟩, ⟨rfl, rfl⟩, ⟨rfl, by rw [hstp]; simp⟩, by show ((k + 1 : Nat) : Int) = (k : Int) + 1; omega, trivial⟩, ⟨⟨rfl, rfl, trivial⟩, trivial⟩, ⟨⟨rfl, rfl, rfl, rfl, trivial⟩, trivial⟩, ⟨by rw [hstp, List.map_append]; exact .refl (by rw [← List.map_append]; exact noRef_duesN _), noRef_duesN _⟩, trivial⟩
  · have hkn : k = ns.length := by simp only [hlm, decide_eq_false_iff_not] at h1; omega
    subst hkn
    (refine eK ?_ ?_ <;> with_reducible repeat' (first | exact trivial | (show _ ∧ _; refine aK ?_ ?_)))
    all_goals exact frz_duesN rfl rfl rfl rfl
end Go.Proofs.Heir
end
section
set_option linter.unusedSimpArgs false
set_option linter.unusedVariables false
namespace Go.Proofs.Heir
open Go Go.Am Go.RowKit Go.Lib
set_option maxRecDepth 100000
set_option maxHeartbeats 8000000
theorem f38_ok (f : ForM) (hs : SmallN f.nodes) (st : List StateM) (d : DeskM) (cs : List ClassM) (hc : SmallC cs) (hrf : rightF f = true) (i : Nat) (s : StateM) (y : NodeM) (hsi : st[i]? = some s) (hy : f.nodes[i]? = some y) : FnOK Tryz.prog 38 [] [eFor f, eStates st, eDesk d, eClasses cs, eInt i] [] (eDuesN (if classB s d cs = true then firstC f (classV s d cs) i else [])) := by
  have T := U.tree_of hrf
  have hti := there_get hy
  have h61 := f61_ok f T i hti
  have hcon : conF f i = decide ((nd f.nodes (topN f.nodes i)).kind = 0) := by unfold conF; rw [hrf, hti]; rfl
  have h33 := f33_ok s d cs
  have hya := hs.attrs y (List.mem_of_getElem? hy)
  have hcase : classAt s d cs.length = -1 ∨ ∃ (k : Nat) (c : ClassM), classAt s d cs.length = k ∧ cs[k]? = some c := by
    rcases classAt_cases s d cs.length with e | ⟨k, hk, e⟩
    · exact .inl e
    · exact .inr ⟨k, _, e, List.getElem?_eq_getElem hk⟩
  rcases hcase with e | ⟨k, c, e, hck⟩
  · rw [(classV_no e).2, if_neg (by simp)]
    rw [e] at h33
    obtain ⟨l, m⟩ := f
    obtain ⟨d1, d2, d3, d4⟩ := d
    obtain ⟨s1, s2, s3, s4⟩ := s
    refine FnOK.startC (rvs := [.tmp 10]) G G_good Tryz.func38 rfl Tryz.ntmps38 rfl rfl ?_; with_reducible refine wD ?_
    repeat' (first
    | refine gK ?_
    | ((first
      | ((with_reducible show IdxK _ _ _ _ _); refine IdxK.mk i (eState _) rfl (state_get hsi) ?_)
      | ((with_reducible show CallK _ _ 33 _ _ _ _); refine CallK.lit [] h33 c33 ⟨⟨rfl, rfl, rfl, rfl, trivial⟩, ⟨rfl, rfl, rfl, rfl, trivial⟩, rfl, trivial⟩ rfl rfl ?_)) <;> with_reducible refine wK ?_)
    | ((with_reducible show (_ ∧ _) ∧ _ ∧ _); (refine eK ?_ ?_ <;> with_reducible repeat' (first | exact trivial | (show _ ∧ _; refine aK ?_ ?_)))))
    all_goals exact .inr (.inr ⟨_, rfl⟩)
  · have hcs := hc c (List.mem_of_getElem? hck)
    have h26 := f26_ok c hcs.hooks 1
    have h28 := fun n => f28_ok c hcs.hooks hcs.watch n
    rw [(classV_at e hck).1, (classV_at e hck).2, if_pos rfl]
    rw [e] at h33
    have hk0 : ¬ (k : Int) < 0 := by omega
    unfold firstC
    rw [nd_get hy, hcon]
    obtain ⟨ks, hks⟩ : ∃ ks : Nat → List DueN, ks = fun k => (y.attrs.take k).flatMap (firstA c i) := ⟨_, rfl⟩
    have hkl : ∀ k, (ks k).length ≤ k := fun k => by
      rw [hks]; exact Nat.le_trans (flat_len _ (firstA_len c i) _) (by rw [List.length_take]; omega)
    have hk00 : ks 0 = [] := by rw [hks]; rfl
    have hke : ks y.attrs.length = y.attrs.flatMap (firstA c i) := by rw [hks]; show List.flatMap _ (y.attrs.take y.attrs.length) = _; rw [List.take_length]
    have hstep : ∀ (k : Nat) (x : AttrM), y.attrs[k]? = some x → ks (k + 1) = ks k ++ firstA c i x := fun k x hx => by rw [hks]; exact flat_step _ hx
    rw [← hke]
    unfold firstA at hstep
    clear hks hke hcon
    obtain ⟨l, m⟩ := f
    obtain ⟨d1, d2, d3, d4⟩ := d
    obtain ⟨s1, s2, s3, s4⟩ := s
    obtain ⟨a1, a2, a3, a4, a5, a6, a7, a8, a9, a10⟩ := y
    simp only at hy h33 hkl hstep hya h61 ⊢
    generalize hearsC c 1 = hb at h26 ⊢
    generalize decide ((nd l (topN l i)).kind = 0) = hcn at h61 ⊢
    generalize watchesC c = wf at h28 hstep
    obtain ⟨c1, c2, c3, c4, c5⟩ := c
    have hlm : (a5.map oAttr).length = a5.length := List.length_map ..
    refine FnOK.startC (rvs := [.tmp 10]) G G_good Tryz.func38 rfl Tryz.ntmps38 rfl rfl ?_; with_reducible refine wD ?_
    (have fct := (eq_false hk0); (repeat' (first
    | refine gF ?_
    | ((first
      | ((with_reducible show IdxK _ _ _ _ _); first | refine IdxK.mk i (eState _) rfl (state_get hsi) ?_ | refine IdxK.mk i (eNode _) rfl (node_get hy) ?_)
      | ((with_reducible show CallK _ _ 33 _ _ _ _); refine CallK.lit [] h33 c33 ⟨⟨rfl, rfl, rfl, rfl, trivial⟩, ⟨rfl, rfl, rfl, rfl, trivial⟩, rfl, trivial⟩ rfl rfl ?_)) <;> with_reducible refine wK ?_)
    | ((with_reducible show (_ ∧ _) ∧ _ ∧ _); (refine eK ?_ ?_ <;> with_reducible repeat' (first | exact trivial | (show _ ∧ _; refine aK ?_ ?_)))))); all_goals clear fct)
    refine LoopK.ghost 12 121 11 rfl rfl ?_
    refine LoopK.use G G_good (fun (j : Nat) => [(3, eClasses cs), (4, eInt i), (5, .ptr 50 0 0), (11, eInt k), (12, .own 121 0 (ks j).length), (13, eAttrs a5), (14, eInt j)])
      (fun j => [(50, .live 2 [eFor ⟨l, m⟩] false), (121, rDuesN (ks j))]) (fun j => j ≤ a5.length) (fun j => a5.length - j) 0 (Nat.zero_le _)
      (by rw [hk00]; exact ⟨⟨rfl, rfl⟩, ⟨rfl, rfl, ⟨rfl, rfl⟩, rfl, ⟨rfl, rfl⟩, rfl, rfl, trivial⟩, ⟨⟨rfl, rfl, trivial⟩, trivial⟩, ⟨.refl rfl, noRef_duesN _⟩, trivial⟩) ?_
    intro j hj
    with_reducible refine wK ?_
    have hkk := hkl j
    refine IfK.mk (fun h1 => ?_) (fun h1 => ?_) <;> (try simp only [castN] at h1) <;> with_reducible refine wK ?_
    · have hj' : j < a5.length := by simp only [hlm, decide_eq_true_eq] at h1; omega
      obtain ⟨⟨u1, u2⟩, hx⟩ : ∃ x, a5[j]? = some x := ⟨_, List.getElem?_eq_getElem hj'⟩
      have hstp := hstep j _ hx
      have h28' := h28 u1
      simp only at hstp
      clear hstep h28
      generalize wf u1 = wb at h28' hstp
      cases wb with
      | false =>
        rw [if_neg (by simp), List.append_nil] at hstp
        repeat' (first
    | refine gK ?_
    | ((first
      | ((with_reducible show IdxK _ _ _ _ _); first | refine IdxK.mk k (eClass ⟨c1, c2, c3, c4, c5⟩) rfl (class_get hck) ?_ | refine IdxK.mk j (eAttr ⟨u1, u2⟩) rfl (attr_get hx) ?_)
      | ((with_reducible show CallK _ _ 28 _ _ _ _); refine CallK.lit [] h28' c28 ⟨⟨rfl, rfl, rfl, rfl, rfl, trivial⟩, rfl, trivial⟩ rfl rfl ?_)) <;> with_reducible refine wK ?_)
    | ((with_reducible show (_ ∧ _) ∧ _ ∧ _); (refine eK ?_ ?_ <;> with_reducible repeat' (first | exact trivial | (show _ ∧ _; refine aK ?_ ?_)))))
        refine NextK.mk (j + 1) (by omega) (by omega) ⟨⟨rfl, rfl⟩, ⟨rfl, rfl, ⟨rfl, rfl⟩, rfl, ⟨rfl, by rw [hstp]⟩, rfl, by show ((j + 1 : Nat) : Int) = (j : Int) + 1; omega, trivial⟩, ⟨⟨rfl, rfl, trivial⟩, trivial⟩, ⟨by rw [hstp]; exact .refl (noRef_duesN _), noRef_duesN _⟩, trivial⟩
      | true =>
        rw [if_pos rfl] at hstp
        repeat' (first
    | refine gK ?_
    | ((first
      | ((with_reducible show IdxK _ _ _ _ _); first | refine IdxK.mk k (eClass ⟨c1, c2, c3, c4, c5⟩) rfl (class_get hck) ?_ | refine IdxK.mk j (eAttr ⟨u1, u2⟩) rfl (attr_get hx) ?_)
      | ((with_reducible show CallK _ _ 28 _ _ _ _); refine CallK.lit [] h28' c28 ⟨⟨rfl, rfl, rfl, rfl, rfl, trivial⟩, rfl, trivial⟩ rfl rfl ?_)
      | ((with_reducible show AppK _ _ _ _ _ _ _ _ _ _); refine AppK.mk ((ks j).map oDueN) [eDueN ⟨(i : Int), ⟨4, 0, u1, false, true, ⟨#[]⟩, u2, 0, 0, false⟩⟩] ⟨rfl, (List.length_map ..).symm, rfl⟩ ⟨rfl, rfl, rfl⟩ rfl (by simp; omega) (by simp; omega) ?_)) <;> with_reducible refine wK ?_)
    | ((with_reducible show (_ ∧ _) ∧ _ ∧ _); (refine eK ?_ ?_ <;> with_reducible repeat' (first | exact trivial | (show _ ∧ _; refine aK ?_ ?_)))))
        refine NextK.mk (j + 1) (by omega) (by omega) ⟨⟨rfl, rfl⟩, ⟨rfl, rfl, ⟨rfl, rfl⟩, rfl, ⟨rfl, by rw [hstp]; simp⟩, rfl, by show ((j + 1 : Nat) : Int) = (j : Int) + 1; omega, trivial⟩, ⟨⟨rfl, rfl, trivial⟩, trivial⟩, ⟨by rw [hstp, List.map_append]; exact .refl (by rw [← List.map_append]; exact noRef_duesN _), noRef_duesN _⟩, trivial⟩
    · have hkn : j = a5.length := by simp only [hlm, decide_eq_false_iff_not] at h1; omega
      subst hkn
      clear hstep h28
      unfold cameT
      cases hcn with
      | false =>
        rw [Bool.and_false, if_neg (by simp), List.append_nil]
        repeat' (first
    | refine gK ?_
    | (((with_reducible show CallK _ _ 61 _ _ _ _); refine CallK.lit [] h61 c61 ⟨⟨rfl, rfl, trivial⟩, rfl, trivial⟩ rfl rfl ?_) <;> with_reducible refine wK ?_)
    | ((with_reducible show (_ ∧ _) ∧ _ ∧ _); (refine eK ?_ ?_ <;> with_reducible repeat' (first | exact trivial | (show _ ∧ _; refine aK ?_ ?_)))))
        all_goals exact frz_duesN rfl rfl rfl rfl
      | true =>
        rw [Bool.and_true]
        cases hb with
        | false =>
          rw [if_neg (by simp), List.append_nil]
          repeat' (first
    | refine gK ?_
    | ((first
      | ((with_reducible show CallK _ _ 61 _ _ _ _); refine CallK.lit [] h61 c61 ⟨⟨rfl, rfl, trivial⟩, rfl, trivial⟩ rfl rfl ?_)
      | ((with_reducible show IdxK _ _ _ _ _); refine IdxK.mk k (eClass ⟨c1, c2, c3, c4, c5⟩) rfl (class_get hck) ?_)
      | ((with_reducible show CallK _ _ 26 _ _ _ _); refine CallK.lit [] h26 c26 ⟨⟨rfl, rfl, rfl, rfl, rfl, trivial⟩, rfl, trivial⟩ rfl rfl ?_)) <;> with_reducible refine wK ?_)
    | ((with_reducible show (_ ∧ _) ∧ _ ∧ _); (refine eK ?_ ?_ <;> with_reducible repeat' (first | exact trivial | (show _ ∧ _; refine aK ?_ ?_)))))
          all_goals exact frz_duesN rfl rfl rfl rfl
        | true =>
          rw [if_pos rfl]
          repeat' (first
    | refine gK ?_
    | ((first
      | ((with_reducible show CallK _ _ 61 _ _ _ _); refine CallK.lit [] h61 c61 ⟨⟨rfl, rfl, trivial⟩, rfl, trivial⟩ rfl rfl ?_)
      | ((with_reducible show IdxK _ _ _ _ _); refine IdxK.mk k (eClass ⟨c1, c2, c3, c4, c5⟩) rfl (class_get hck) ?_)
      | ((with_reducible show CallK _ _ 26 _ _ _ _); refine CallK.lit [] h26 c26 ⟨⟨rfl, rfl, rfl, rfl, rfl, trivial⟩, rfl, trivial⟩ rfl rfl ?_)
      | ((with_reducible show AppK _ _ _ _ _ _ _ _ _ _); refine AppK.mk ((ks a5.length).map oDueN) [eDueN ⟨(i : Int), ⟨1, 0, ⟨#[]⟩, false, false, ⟨#[]⟩, ⟨#[]⟩, 0, 0, false⟩⟩] ⟨rfl, (List.length_map ..).symm, rfl⟩ ⟨rfl, rfl, rfl⟩ rfl (by simp; omega) (by simp; omega) ?_)) <;> with_reducible refine wK ?_)
    | ((with_reducible show (_ ∧ _) ∧ _ ∧ _); (refine eK ?_ ?_ <;> with_reducible repeat' (first | exact trivial | (show _ ∧ _; refine aK ?_ ?_)))))
          all_goals exact frz_duesN rfl rfl (by rw [List.map_append]; rfl) (by simp)
end Go.Proofs.Heir
end
section
set_option linter.unusedSimpArgs false
set_option linter.unusedVariables false
namespace Go.Proofs.Heir
open Go Go.Am
set_option maxRecDepth 100000
set_option maxHeartbeats 8000000
theorem mt78 : MapTy Tryz.prog 176 .string (.agg #[.string ByteArray.empty, .string ByteArray.empty]) := ⟨9, 77, by kernel_rfl, by kernel_rfl, fun w => Tryz.zeroValue77 w⟩
noncomputable def fnsT : List (Nat × Func) := [(9, Tryz.f9), (18, Tryz.f18), (41, Tryz.f41), (42, Tryz.f42), (48, Tryz.f48), (55, Tryz.f55), (64, Tryz.f64), (65, Tryz.f65), (66, Tryz.f66), (69, Tryz.f69), (71, Tryz.f71), (77, Tryz.f77), (83, Tryz.f83), (88, Tryz.f88), (89, Tryz.f89), (90, Tryz.f90), (92, Tryz.f92), (96, Tryz.f96), (97, Tryz.f97), (98, Tryz.f98), (99, Tryz.f99), (100, Tryz.f100), (101, Tryz.f101), (106, Tryz.f106), (107, Tryz.f107), (108, Tryz.f108), (109, Tryz.f109), (110, Tryz.f110), (111, Tryz.f111), (114, Tryz.f114), (115, Tryz.f115), (116, Tryz.f116), (117, Tryz.f117), (118, Tryz.f118), (119, Tryz.f119), (120, Tryz.f120), (123, Tryz.f123), (124, Tryz.f124), (125, Tryz.f125), (126, Tryz.f126), (133, Tryz.f133), (134, Tryz.f134), (135, Tryz.f135), (136, Tryz.f136), (137, Tryz.f137), (139, Tryz.f139), (140, Tryz.f140), (144, Tryz.f144), (146, Tryz.f146)]
def kindsT : List (Nat × IntKind) := [(3, .i64), (5, .u8), (21, .i32), (81, .i64)]
theorem fnsT_ok : ∀ p ∈ fnsT, Tryz.prog.funcs[p.1]? = some p.2 ∧ Callable Tryz.prog p.1 := List.forall_mem_cons.2 ⟨⟨Tryz.func9, c9⟩, List.forall_mem_cons.2 ⟨⟨Tryz.func18, c18⟩, List.forall_mem_cons.2 ⟨⟨Tryz.func41, c41⟩, List.forall_mem_cons.2 ⟨⟨Tryz.func42, c42⟩, List.forall_mem_cons.2 ⟨⟨Tryz.func48, c48⟩, List.forall_mem_cons.2 ⟨⟨Tryz.func55, c55⟩, List.forall_mem_cons.2 ⟨⟨Tryz.func64, c64⟩, List.forall_mem_cons.2 ⟨⟨Tryz.func65, c65⟩, List.forall_mem_cons.2 ⟨⟨Tryz.func66, c66⟩, List.forall_mem_cons.2 ⟨⟨Tryz.func69, c69⟩, List.forall_mem_cons.2 ⟨⟨Tryz.func71, c71⟩, List.forall_mem_cons.2 ⟨⟨Tryz.func77, c77⟩, List.forall_mem_cons.2 ⟨⟨Tryz.func83, c83⟩, List.forall_mem_cons.2 ⟨⟨Tryz.func88, c88⟩, List.forall_mem_cons.2 ⟨⟨Tryz.func89, c89⟩, List.forall_mem_cons.2 ⟨⟨Tryz.func90, c90⟩, List.forall_mem_cons.2 ⟨⟨Tryz.func92, c92⟩, List.forall_mem_cons.2 ⟨⟨Tryz.func96, c96⟩, List.forall_mem_cons.2 ⟨⟨Tryz.func97, c97⟩, List.forall_mem_cons.2 ⟨⟨Tryz.func98, c98⟩, List.forall_mem_cons.2 ⟨⟨Tryz.func99, c99⟩, List.forall_mem_cons.2 ⟨⟨Tryz.func100, c100⟩, List.forall_mem_cons.2 ⟨⟨Tryz.func101, c101⟩, List.forall_mem_cons.2 ⟨⟨Tryz.func106, c106⟩, List.forall_mem_cons.2 ⟨⟨Tryz.func107, c107⟩, List.forall_mem_cons.2 ⟨⟨Tryz.func108, c108⟩, List.forall_mem_cons.2 ⟨⟨Tryz.func109, c109⟩, List.forall_mem_cons.2 ⟨⟨Tryz.func110, c110⟩, List.forall_mem_cons.2 ⟨⟨Tryz.func111, c111⟩, List.forall_mem_cons.2 ⟨⟨Tryz.func114, c114⟩, List.forall_mem_cons.2 ⟨⟨Tryz.func115, c115⟩, List.forall_mem_cons.2 ⟨⟨Tryz.func116, c116⟩, List.forall_mem_cons.2 ⟨⟨Tryz.func117, c117⟩, List.forall_mem_cons.2 ⟨⟨Tryz.func118, c118⟩, List.forall_mem_cons.2 ⟨⟨Tryz.func119, c119⟩, List.forall_mem_cons.2 ⟨⟨Tryz.func120, c120⟩, List.forall_mem_cons.2 ⟨⟨Tryz.func123, c123⟩, List.forall_mem_cons.2 ⟨⟨Tryz.func124, c124⟩, List.forall_mem_cons.2 ⟨⟨Tryz.func125, c125⟩, List.forall_mem_cons.2 ⟨⟨Tryz.func126, c126⟩, List.forall_mem_cons.2 ⟨⟨Tryz.func133, c133⟩, List.forall_mem_cons.2 ⟨⟨Tryz.func134, c134⟩, List.forall_mem_cons.2 ⟨⟨Tryz.func135, c135⟩, List.forall_mem_cons.2 ⟨⟨Tryz.func136, c136⟩, List.forall_mem_cons.2 ⟨⟨Tryz.func137, c137⟩, List.forall_mem_cons.2 ⟨⟨Tryz.func139, c139⟩, List.forall_mem_cons.2 ⟨⟨Tryz.func140, c140⟩, List.forall_mem_cons.2 ⟨⟨Tryz.func144, c144⟩, List.forall_mem_cons.2 ⟨⟨Tryz.func146, c146⟩, fun _ h => by simp at h⟩⟩⟩⟩⟩⟩⟩⟩⟩⟩⟩⟩⟩⟩⟩⟩⟩⟩⟩⟩⟩⟩⟩⟩⟩⟩⟩⟩⟩⟩⟩⟩⟩⟩⟩⟩⟩⟩⟩⟩⟩⟩⟩⟩⟩⟩⟩⟩⟩
theorem kindsT_ok : ∀ p ∈ kindsT, Tryz.prog.underlying p.1 = some (.int p.2) := List.forall_mem_cons.2 ⟨by kernel_rfl, List.forall_mem_cons.2 ⟨by kernel_rfl, List.forall_mem_cons.2 ⟨by kernel_rfl, List.forall_mem_cons.2 ⟨by kernel_rfl, fun _ h => by simp at h⟩⟩⟩⟩
def mapsT : MEnv := [(131, .int .i64, .int .i64 0), (176, .string, .agg #[.string ByteArray.empty, .string ByteArray.empty])]
theorem mapsT_ok : MEnv.Good Tryz.prog mapsT := List.forall_mem_cons.2 ⟨mt74, List.forall_mem_cons.2 ⟨mt78, fun _ h => by simp at h⟩⟩
end Go.Proofs.Heir
end
section
set_option linter.unusedSimpArgs false
set_option linter.unusedVariables false
namespace Go.Proofs.Heir
open Go Go.Am Go.RowKit Go.Lib
set_option maxRecDepth 100000
set_option maxHeartbeats 8000000
theorem i32_run (s t : TypeId) (c : Int) (h1 : Tryz.prog.underlying s = some (.int .i32)) (h2 : Tryz.prog.underlying t = some .string) : ∀ w, (convert s t (.int .i32 c)).run Tryz.prog w = .ok (.string (Utf8.encode c)) w :=
  fun w => run_convert_int_string w s t .i32 c (by rw [h1]; rfl) h2
theorem enc_size (c : Int) : (Utf8.encode c).size ≤ 4 := by
  unfold Utf8.encode
  simp only
  repeat' split
  all_goals exact Nat.le_of_ble_eq_true rfl
@[reducible] def aB : ByteArray := ⟨#[97]⟩
def wordB (r : Nat) : Bool := !rightS (aB ++ Utf8.encode (r : Int))
theorem f140_ok (c : Int) : FnOK Tryz.prog 140 [] [eRune c] [] (eBool (!rightS (aB ++ Utf8.encode c))) := by
  have hsz := enc_size c
  have ha : aB.size = 1 := rfl
  refine FnOK.startC (rvs := [.tmp 2]) G G_good Tryz.func140 rfl Tryz.ntmps140 rfl rfl ?_; with_reducible refine wD ?_
  refine ConvK.mk _ (i32_run 21 9 c (by kernel_rfl) (by kernel_rfl)) ?_; with_reducible refine wK ?_
  refine NeedK.mk (by have := enc_size c; have h1 : (⟨⟨[97]⟩⟩ : ByteArray).size = 1 := rfl; omega) ?_; with_reducible refine wK ?_
  refine CallK.lit [] (f66_ok _) c66 ⟨rfl, trivial⟩ rfl rfl ?_; with_reducible refine wK ?_
  (refine eK ?_ ?_ <;> with_reducible repeat' (first | exact trivial | (show _ ∧ _; refine aK ?_ ?_)))
  all_goals first | rfl | trace_state
theorem f93_word (s : ByteArray) : FnOK Tryz.prog 93 [] [eStr s, .lit (.func (.func 140) #[] #[])] [] (eInt (Lib.idxFunc wordB true s)) :=
  FnOK.of_calls (vs := [.string s, .func (.func 140) #[] #[]]) fun w ht => f93_calls 140 c140 wordB s w ht fun W x ht _ => (f140_ok (x : Int)).below (vs := [.int .i32 (x : Int)]) W ht
theorem f127_nil : FnOK Tryz.prog 127 [.live 2 [.agg [.lit (.pointer none), .lit (.slice none 0 0)]] false] [.ptr 0 0 0] [.live 2 [.agg [.lit (.pointer none), .lit (.slice none 0 0)]] false] (eStr ⟨#[]⟩) := by
  refine FnOK.startC (rvs := [.tmp 2]) G G_good Tryz.func127 rfl Tryz.ntmps127 rfl rfl ?_; with_reducible refine wD ?_
  refine ⟨[], .lit (.pointer none), [], EffOK.lits (ρ := fun _ => .slice none 0 0) (r := .pointer none) (by simp) (fun y hy => ?_) (fun w => ?_) (dst_ok rfl), ?_⟩
  · simp [Op.operands, Call.operands] at hy
    subst hy
    rfl
  · kernel_rfl
  with_reducible refine wK ?_
  refine ⟨[], .lit (.string ⟨#[]⟩), [], EffOK.lits (ρ := fun y => match y with | .tmp 7 => .pointer none | _ => .int .i64 0) (r := .string ⟨#[]⟩) (by simp) (fun y hy => ?_) (fun w => ?_) (dst_ok rfl), ?_⟩
  · simp [Op.operands, Call.operands] at hy
    rcases hy with rfl | rfl <;> rfl
  · kernel_rfl
  with_reducible refine wK ?_
  refine dK ?_; with_reducible refine wK ?_
  (refine eK ?_ ?_ <;> with_reducible repeat' (first | exact trivial | (show _ ∧ _; refine aK ?_ ?_)))
  all_goals first | rfl | exact .inl rfl | exact ⟨rfl, rfl⟩ | trace_state
def orcA : CallT := fun g ins args => match g with
  | 42 => match ins, args with
    | [], [.lit (.string s)] => some ([], eBool (customS s))
    | _, _ => none
  | 66 => match ins, args with
    | [], [.lit (.string s)] => some ([], eBool (rightS s))
    | _, _ => none
  | 114 => match ins, args with
    | [], [.lit (.string s)] => some ([], .tup [eStr (if rightS s then lowS s else ⟨#[]⟩), eInt (if rightS s then 0 else 4)])
    | _, _ => none
  | 93 => match ins, args with
    | [], [.lit (.string s), .lit (.func (.func 140) a b)] => match a.toList, b.toList with
      | [], [] => some ([], eInt (Lib.idxFunc wordB true s))
      | _, _ => none
    | _, _ => none
  | 127 => match ins, args with
    | [.live 2 [.agg [.lit (.pointer none), .lit (.slice none 0 0)]] false], [.ptr 0 0 0] => some ([.live 2 [.agg [.lit (.pointer none), .lit (.slice none 0 0)]] false], eStr ⟨#[]⟩)
    | _, _ => none
  | _ => none
theorem orcA_ok : ∀ g ins args outs res, orcA g ins args = some (outs, res) → FnOK Tryz.prog g ins args outs res ∧ Callable Tryz.prog g := by
  intro g ins args outs res h
  unfold orcA at h
  split at h
  · split at h
    · cases h; exact ⟨f42_ok _, c42⟩
    · cases h
  · split at h
    · cases h; exact ⟨f66_ok _, c66⟩
    · cases h
  · split at h
    · cases h; exact ⟨f114_ok _, c114⟩
    · cases h
  · split at h
    · split at h
      · rename_i ha hb
        cases h
        rename_i a b _ _
        obtain rfl := (Array.ext' ha : _ = #[])
        obtain rfl := (Array.ext' hb : _ = #[])
        exact ⟨f93_word _, c93⟩
      · cases h
    · cases h
  · split at h
    · cases h; exact ⟨f127_nil, c127⟩
    · cases h
  · cases h
noncomputable def envA : EEnv := ⟨G, mapsT, fnsT, kindsT, orcA⟩
theorem envA_good : envA.Good Tryz.prog := ⟨G_good, mapsT_ok, fnsT_ok, kindsT_ok, orcA_ok, by kernel_rfl⟩
end Go.Proofs.Heir
end
section
set_option linter.unusedSimpArgs false
set_option linter.unusedVariables false
namespace Go.Proofs.Heir
open Go Go.Am
set_option maxRecDepth 100000
def r15 : Ans := ⟨41, [], [.lit (.string ⟨⟨[60, 112, 62, 60, 120, 45, 97, 62, 60, 47, 120, 45, 97, 62, 60, 98, 33, 120, 45, 98, 62, 60, 47, 98, 62, 60, 120, 45, 98, 62, 60, 47, 120, 45, 98, 62, 60, 47, 112, 62]⟩⟩), .lit (.int .i64 (9))], [.live 10 [.agg [.lit (.int .i64 (0)), .lit (.string ⟨⟨[]⟩⟩), .lit (.string ⟨⟨[]⟩⟩), .lit (.string ⟨⟨[]⟩⟩), .lit (.slice none 0 0), .lit (.int .i64 (-1)), .lit (.slice none 0 0), .lit (.int .i64 (-1)), .lit (.int .i64 (-1)), .lit (.int .i64 (0))], .agg [.lit (.int .i64 (1)), .lit (.string ⟨⟨[112]⟩⟩), .lit (.string ⟨⟨[]⟩⟩), .lit (.string ⟨⟨[]⟩⟩), .lit (.slice none 0 0), .lit (.int .i64 (-1)), .own 1 0 3, .lit (.int .i64 (-1)), .lit (.int .i64 (-1)), .lit (.int .i64 (0))], .agg [.lit (.int .i64 (1)), .lit (.string ⟨⟨[120, 45, 97]⟩⟩), .lit (.string ⟨⟨[]⟩⟩), .lit (.string ⟨⟨[]⟩⟩), .lit (.slice none 0 0), .lit (.int .i64 (1)), .lit (.slice none 0 0), .lit (.int .i64 (-1)), .lit (.int .i64 (-1)), .lit (.int .i64 (0))], .agg [.lit (.int .i64 (1)), .lit (.string ⟨⟨[98]⟩⟩), .lit (.string ⟨⟨[120, 45, 98]⟩⟩), .lit (.string ⟨⟨[]⟩⟩), .lit (.slice none 0 0), .lit (.int .i64 (1)), .lit (.slice none 0 0), .lit (.int .i64 (-1)), .lit (.int .i64 (-1)), .lit (.int .i64 (0))], .agg [.lit (.int .i64 (1)), .lit (.string ⟨⟨[120, 45, 98]⟩⟩), .lit (.string ⟨⟨[]⟩⟩), .lit (.string ⟨⟨[]⟩⟩), .lit (.slice none 0 0), .lit (.int .i64 (1)), .lit (.slice none 0 0), .lit (.int .i64 (-1)), .lit (.int .i64 (-1)), .lit (.int .i64 (0))]] false, .live 1 [.lit (.int .i64 (2)), .lit (.int .i64 (3)), .lit (.int .i64 (4))] false], .tup [.agg [.own 0 0 5, .lit (.int .i64 (9))], .lit (.int .i64 (1)), .lit (.int .i64 (0))]⟩
theorem r15_run : runF envA 1000 60 r15.g r15.ins r15.args = some (r15.outs, r15.res) := by kernel_rfl
theorem r15_ok : r15.OK Tryz.prog := Ans.of envA_good r15_run
def rl15 : List Ans := r15 :: []
theorem rl15_ok : ∀ r ∈ rl15, r.OK Tryz.prog := Ans.cons r15_ok (fun _ h => by cases h)
/-- The last one. -/
theorem r_last : FnOK Tryz.prog 41 r15.ins r15.args r15.outs r15.res := r15_ok.1
end Go.Proofs.Heir
end
section
set_option linter.unusedSimpArgs false
set_option linter.unusedVariables false
namespace Go.Am
open Go
theorem RowsM.of {R : AV → AV → Prop} : ∀ {a b : List AV}, MFL R a b → RowsM R a b
  | [], [], _ => ⟨rfl, fun i x y h => by simp at h⟩
  | x :: xs, y :: ys, h => by
    obtain ⟨h1, h2⟩ := RowsM.of h.2
    refine ⟨by simp [h1], fun i u v hu hv => ?_⟩
    cases i with
    | zero => cases hu; cases hv; exact h.1
    | succ i => exact h2 i u v hu hv
  | [], _ :: _, h => h.elim
  | _ :: _, [], h => h.elim
def wideB (wd : Nat) (rows : List AV) : Bool := rows.all fun r => (cells r).length == wd
def wideM (m : ML) : Bool := m.all fun p => match p.2 with
  | .live wd rows _ => wideB wd rows
  | _ => true
theorem wideM_ok {m : ML} (h : wideM m = true) : ∀ t wd rows ro, lkM m t = .live wd rows ro → Wide wd rows := by
  induction m with
  | nil => intro t wd rows ro h; cases h
  | cons p r ih =>
    intro t wd rows ro hl
    obtain ⟨a, b⟩ := p
    unfold wideM at h
    rw [List.all_cons, Bool.and_eq_true] at h
    rw [lkM_eq] at hl
    simp only [lookM] at hl
    cases hta : t == a with
    | true =>
      rw [hta] at hl
      change b = _ at hl
      subst hl
      exact Wide.of_mem fun x hx => by simpa using (List.all_eq_true.1 h.1) x hx
    | false =>
      rw [hta] at hl
      exact ih h.2 t wd rows ro (by rw [lkM_eq]; exact hl)
theorem FnOK.frozen {P : Program} {f : FuncId} {args : List AV} {outs : List MS} {res res' : AV} (m : ML) (hm : lookM m = objsOf outs) (hw : wideM m = true) (h : FnOK P f [] args outs res) (hcv : MF [] (fun _ => true) m 12 res' res) : FnOK P f [] args [] res' := by
  intro w W0 L vs hL hs hargs
  refine (h w W0 L vs hL hs hargs).mono ?_
  rintro e w' ⟨v, μ', rfl, hs', hv⟩
  have hLn : ∀ t, L t = none := fun t => hL t (Nat.zero_le _)
  have hW : ∀ b, Wr W0 (fun _ => none) (objsOf []) b → W0 b := by
    rintro b (h | ⟨t, B, wd, rows, _, h, _⟩)
    · exact h
    · cases h
  refine ⟨v, fun _ => none, rfl, ?_, ?_⟩
  · refine ⟨hs'.tsize, hs'.defers, hs'.os, hs'.tape, hs'.output, hs'.hsize, hs'.shp, hs'.keep, hs'.w0lt, fun t B _ h => (by rw [hLn] at h; cases h), fun t => by simp [bare, objsOf], fun _ => .any, fun t wd rows ro h => ?_, fun t t' wd rows wd' rows' ro' B B' _ h => ?_, fun t wd rows ro B h => ?_, hs'.tabs⟩ <;> simp [bare, objsOf] at h
  · have hc : Cv (lookM m) (renT []) (fun _ => False) (fun t => ∃ wd rows ro, lookM m t = .live wd rows ro) res' res :=
      MF_cv (fun t wd rows ro h _ => wideM_ok hw t wd rows ro h) (fun t u h => by cases h) (fun t wd rows ro h _ => ⟨wd, rows, ro, by rw [← lkM_eq]; exact h⟩) 12 res' res hcv
    rw [hm] at hc
    refine Cv.rep (W := Wr W0 μ' (objsOf outs)) (μ := μ') (fun t wd rows ro h => hs'.objs t wd rows ro h) (fun b _ hb => .inl (hW b hb)) (fun t h => h.elim) ?_ hc hv
    rintro s B ⟨wd, rows, ro, hl⟩ hB hv hb
    exact (hs'.out s wd rows ro B hl hB hv).1 (hW _ hb)
end Go.Am
namespace Go.Proofs.Heir
open Go Go.Am Go.RowKit Go.Lib
set_option maxRecDepth 100000
set_option maxHeartbeats 8000000
def awA : ByteArray := ⟨#[120, 45, 97]⟩
end Go.Proofs.Heir
end
