/- Models, plain laws and contracts of functions of the given program; conditions as stated in each theorem. By an AI agent. -/
import Derived.Test.YtkhjcnjicjgfiaaGreatDoorW10
import Derived.Test.YtkhjcnjicjgfiaaGreatDoorW8
import Derived.Test.YtkhjcnjicjgfiaaGreatDoorW11
import Derived.Test.YtkhjcnjicjgfiaaGreatDoorW5
import Derived.WalkKit
import Derived.LaidEql
import Derived.Stop.Asserts
import Derived.RowKitTokens
import Derived.Tactics
import Derived.Laws.Cells
set_option linter.unusedSimpArgs false
set_option linter.unusedVariables false
namespace Go.Proofs.Heir
open Go Go.Am Go.RowKit Go.Lib
set_option maxRecDepth 100000
set_option maxHeartbeats 8000000
def keepL (l : List NodeM) (ks : List Int) : Nat → List (Int × List (ByteArray × Int))
  | 0 => []
  | j + 1 => match ks[j]? with
    | some a => stepC l (keepL l ks j) a
    | none => keepL l ks j
theorem keepL_ok (l : List NodeM) (ks : List Int) : ∀ k, k ≤ 64 → IdsOK l (keepL l ks k) ∧ (keepL l ks k).length ≤ k
  | 0, _ => ⟨idsOK_nil l, Nat.le_refl _⟩
  | k + 1, h => by
    obtain ⟨h1, h2⟩ := keepL_ok l ks k (by omega)
    unfold keepL
    cases hk : ks[k]? with
    | none => exact ⟨h1, by show (keepL l ks k).length ≤ _; omega⟩
    | some a =>
      have h3 := stepC_len l (keepL l ks k) a
      exact ⟨⟨stepC_is h1.is _, by show (stepC l (keepL l ks k) a).length ≤ _; omega⟩, by show (stepC l (keepL l ks k) a).length ≤ _; omega⟩
def memV (f : ForM) (x : Int) : List Int := if (thereN f.nodes x && rightF f) = true then memF f.nodes x else []
theorem keptI_mem {l : List NodeM} {x : Int} : keptI (fun a => !decide (ownN l a = x)) (ordN l l.length (rootN l x)) = memN l x := by
  unfold keptI memN
  congr 1
  funext a
  simp
theorem frz_kept {m : ML} {fz : Nat → Bool} {tab : List (Nat × Nat)} {n t k : Nat} {ro : Bool} {rows : List AV} {l r : List Int} (h1 : lkM m t = .live 1 rows ro) (h2 : fz t = true) (h3 : rows = (l ++ r).map oInt) (h4 : k = l.length) : FrzK m fz (MF tab fz m n) (eInts l) t 0 k := by
  subst h3; subst h4
  have e : (l.map oInt).length = l.length := List.length_map ..
  exact .cut h1 h2 (by simp) (by rw [List.drop_zero, List.map_append, List.take_left' e]) (noRef_ints l)
theorem ints_outs (l : List Int) : okOuts [rInts l] := ⟨Wide.of_mem fun r hr => by
  obtain ⟨a, _, rfl⟩ := List.mem_map.1 hr
  rfl, noRef_ints l, trivial⟩
theorem f103_ok (f : ForM) (hs : SmallN f.nodes) (n : Int) : FnOK Tryz.prog 103 [] [eFor f, eInt n] [] (eInts (memV f n)) := by
  have h15 := f17_ok f hs
  have h73 := f104_ok f
  have h48 := f165_ok f hs
  have h78 := f164_own f hs
  have h83 := f166_ok f.nodes f.most hs
  have h60 := hs.len
  obtain ⟨l, m⟩ := f
  simp only at h73 h48 h78 h60 h83
  have hlm : (l.map oNode).length = l.length := List.length_map ..
  obtain ⟨o, ho⟩ : ∃ o, memV ⟨l, m⟩ n = o := ⟨_, rfl⟩
  rw [ho]
  unfold memV at ho
  simp only at ho
  refine FnOK.startS (rvs := [.tmp 4]) G G_good Tryz.func103 rfl Tryz.ntmps103 rfl rfl ?_; with_reducible refine wD ?_
  refine LoopK.fit (sl' := [(2, .fptr (eFor ⟨l, m⟩) 0), (3, .fptr (eInt n) 0), (4, nilA)]) (m' := []) ?_ ?_
  · (refine fK ?_; (with_reducible repeat' (first | exact trivial | (show _ ∧ _; refine aK ?_ ?_))); (all_goals try rfl))
    all_goals first
      | exact ⟨2, [eFor ⟨l, m⟩], false, eFor ⟨l, m⟩, eFor ⟨l, m⟩, rfl, rfl, rfl, rfl, rfl, ⟨rfl, rfl, trivial⟩⟩
      | exact ⟨1, [eInt n], false, eInt n, eInt n, rfl, rfl, rfl, rfl, rfl, rfl⟩
      | exact .inl rfl
      | trace_state
  refine LoopK.run G G_good ?_
  with_reducible refine wK ?_
  cases ht : thereN l n with
  | false =>
    have ht' : ¬ (0 ≤ n ∧ n < (l.length : Int)) := fun h => by
      unfold thereN at ht; simp [h.1, h.2] at ht
    rw [ht, Bool.false_and, if_neg (by simp)] at ho
    subst ho
    by_cases e1 : n < 0
    · (have fct := (eq_true e1); (repeat' (first
    | refine gF ?_
    | ((with_reducible show (_ ∧ _) ∧ _ ∧ _); (refine eK ?_ ?_ <;> with_reducible repeat' (first | exact trivial | (show _ ∧ _; refine aK ?_ ?_)))))); all_goals clear fct)
      all_goals exact .inr (.inr ⟨1, rfl⟩)
    · have e2 : (l.length : Int) ≤ n := by omega
      (have fct := And.intro (eq_false e1) (And.intro hlm ((eq_true e2))); (repeat' (first
    | refine gF ?_
    | ((with_reducible show (_ ∧ _) ∧ _ ∧ _); (refine eK ?_ ?_ <;> with_reducible repeat' (first | exact trivial | (show _ ∧ _; refine aK ?_ ?_)))))); all_goals clear fct)
      all_goals exact .inr (.inr ⟨1, rfl⟩)
  | true =>
    obtain ⟨e1, e2⟩ := there_pos ht
    have e1' : ¬ n < 0 := by omega
    have e2' : ¬ (l.length : Int) ≤ n := by omega
    cases hr : rightF ⟨l, m⟩ with
    | false =>
      rw [hr] at h15
      rw [ht, hr, Bool.true_and, if_neg (by simp)] at ho
      subst ho
      (have fct := And.intro (eq_false e1') (And.intro hlm ((eq_false e2'))); (repeat' (first
    | refine gF ?_
    | (((with_reducible show CallK _ _ 17 _ _ _ _); refine CallK.lit [] h15 c17 ⟨⟨rfl, rfl, trivial⟩, trivial⟩ rfl rfl ?_) <;> with_reducible refine wK ?_)
    | ((with_reducible show (_ ∧ _) ∧ _ ∧ _); (refine eK ?_ ?_ <;> with_reducible repeat' (first | exact trivial | (show _ ∧ _; refine aK ?_ ?_)))))); all_goals clear fct)
      all_goals exact .inr (.inr ⟨1, rfl⟩)
    | true =>
      rw [hr] at h15
      rw [ht, hr, Bool.true_and, if_pos rfl] at ho
      have T : Tree l := tree_of hr
      have h48 := h48 hr n ht
      have hrt := (root_there T n ht).1
      have h78 := h78 (rootN l n) (by rw [hr, show thereN l (rootN l n) = true from hrt]; rfl)
      have hol := ord_len T l.length hrt
      have hot : ∀ k ∈ ordN l l.length (rootN l n), thereN l k = true := fun k hk => (ord_root T hrt hk).1
      have hkp := keptI_mem (l := l) (x := n)
      obtain ⟨p, hp⟩ : ∃ p : Int → Bool, p = fun a => !decide (ownN l a = n) := ⟨_, rfl⟩
      rw [← hp] at hkp
      generalize ordN l l.length (rootN l n) = ks at h78 hol hot hkp
      have hasks : Asks l m n p ks (keepL l ks) := fun j a ha => by
        have hj := (List.getElem?_eq_some_iff.1 ha).1
        have := h83 hr (keepL l ks j) (keepL_ok l ks j (by omega)).1 n a (hot a (List.mem_of_getElem? ha))
        have e : keepL l ks (j + 1) = stepC l (keepL l ks j) a := by show (match ks[j]? with | some a => stepC l (keepL l ks j) a | none => keepL l ks j) = _; rw [ha]
        rw [e, hp]
        exact this
      have h82 := f81_fin (show ks.length ≤ 100000 by omega) hasks
      rw [hkp] at h82
      have hk0 : keepL l ks 0 = [] := rfl
      rw [hk0] at h82
      unfold memF at ho
      generalize memN l n = mm at h82 ho
      generalize keepL l ks ks.length = c2 at h82
      generalize List.replicate (ks.length - mm.length) (0 : Int) = gar at h82
      generalize rootN l n = r at h48 h78
      obtain ⟨i, x, e, hx, hnx⟩ := there_iff.1 ht
      rw [hnx] at ho
      have h81 := f163_ok x
      obtain ⟨fm, hfm⟩ : ∃ fm, isForm x = fm := ⟨_, rfl⟩
      rw [hfm] at h81 ho
      obtain ⟨a1, a2, a3, a4, a5, a6, a7, a8, a9, a10⟩ := x
      clear hfm
      cases fm with
      | false =>
        rw [if_neg (by simp)] at ho
        subst ho
        (have fct := And.intro (eq_false e1') (And.intro hlm ((eq_false e2'))); (repeat' (first
    | refine gF ?_
    | ((first
      | ((with_reducible show CallK _ _ 17 _ _ _ _); refine CallK.lit [] h15 c17 ⟨⟨rfl, rfl, trivial⟩, trivial⟩ rfl rfl ?_)
      | (refine IdxK.mk i (eNode ⟨a1, a2, a3, a4, a5, a6, a7, a8, a9, a10⟩) e (node_get hx) ?_)
      | ((with_reducible show CallK _ _ 163 _ _ _ _); refine CallK.lit [] h81 c163 ⟨⟨rfl, rfl, rfl, rfl, rfl, rfl, rfl, rfl, rfl, rfl, trivial⟩, trivial⟩ rfl rfl ?_)) <;> with_reducible refine wK ?_)
    | ((with_reducible show (_ ∧ _) ∧ _ ∧ _); (refine eK ?_ ?_ <;> with_reducible repeat' (first | exact trivial | (show _ ∧ _; refine aK ?_ ?_)))))); all_goals clear fct)
        all_goals exact .inr (.inr ⟨1, rfl⟩)
      | true =>
        rw [if_pos rfl] at ho
        subst ho
        (have fct := And.intro (eq_false e1') (And.intro hlm ((eq_false e2'))); (repeat' (first
    | refine gF ?_
    | ((first
      | ((with_reducible show CallK _ _ 17 _ _ _ _); refine CallK.lit [] h15 c17 ⟨⟨rfl, rfl, trivial⟩, trivial⟩ rfl rfl ?_)
      | (refine IdxK.mk i (eNode ⟨a1, a2, a3, a4, a5, a6, a7, a8, a9, a10⟩) e (node_get hx) ?_)
      | ((with_reducible show CallK _ _ 163 _ _ _ _); refine CallK.lit [] h81 c163 ⟨⟨rfl, rfl, rfl, rfl, rfl, rfl, rfl, rfl, rfl, rfl, trivial⟩, trivial⟩ rfl rfl ?_)
      | ((with_reducible show CallK _ _ 104 _ _ _ _); refine CallK.new 301 [] h73 c104 ⟨⟨rfl, rfl, trivial⟩, trivial⟩ rfl rfl rfl ⟨.nil _, rfl, trivial⟩ rfl ?_)
      | ((with_reducible show CallK _ _ 165 _ _ _ _); refine CallK.lit [] h48 c165 ⟨⟨rfl, rfl, trivial⟩, rfl, trivial⟩ rfl rfl ?_)
      | ((with_reducible show CallK _ _ 164 _ _ _ _); refine CallK.new 351 [] h78 c164 ⟨⟨rfl, rfl, trivial⟩, rfl, trivial⟩ rfl rfl rfl (ints_outs ks) rfl ?_)) <;> with_reducible refine wK ?_)
    | ((with_reducible show (_ ∧ _) ∧ _ ∧ _); (refine eK ?_ ?_ <;> with_reducible repeat' (first | exact trivial | (show _ ∧ _; refine aK ?_ ?_)))))); all_goals clear fct)
        refine CallK.lend (news := [mFin l m 301, idsM c2, rInts (mm ++ gar)]) [50, 301, 351] [] h82 c81 ⟨⟨rfl, rfl⟩, ⟨rfl, trivial, ⟨rfl, rfl⟩, ⟨rfl, rfl⟩, trivial⟩, trivial⟩ (ins_fin3 rfl rfl rfl) rfl ⟨⟨rfl, rfl⟩, rfl⟩ rfl news_fin3 rfl rfl ?_
        with_reducible refine wK ?_
        repeat' (first
    | refine gK ?_
    | ((with_reducible show (_ ∧ _) ∧ _ ∧ _); (refine eK ?_ ?_ <;> with_reducible repeat' (first | exact trivial | (show _ ∧ _; refine aK ?_ ?_)))))
        all_goals first | exact frz_kept rfl rfl rfl rfl | trace_state
def elK (f : ForM) (n : Int) : List Int := keepI (fun c => !decide ((nd f.nodes c).kind = 1)) (allU f n)
def exK (f : ForM) (n : Int) : List Int := List.replicate ((allU f n).length - (elK f n).length) 0
theorem f34_own (f : ForM) (hs : SmallN f.nodes) (n : Int) (e0 : (rightF f && thereN f.nodes n) = true) (hl : (allU f n).length ≤ 100000) : FnOK Tryz.prog 34 [] [eFor f, eInt n] [.live 1 ((elK f n ++ exK f n).map oInt) false] (.own 0 0 (elK f n).length) := by
  have h82 := f82_own f hs n e0
  have h81 := f81_box (f := f) (p := fun c => !decide ((nd f.nodes c).kind = 1)) hl fun a ha => f83_ok f a (allU_there a ha)
  unfold exK
  rw [show keepI (fun c => !decide ((nd f.nodes c).kind = 1)) (allU f n) = elK f n from rfl] at h81
  generalize allU f n = al at h82 h81 ⊢
  generalize elK f n = el at h81 ⊢
  obtain ⟨l, m⟩ := f
  refine FnOK.startC (rvs := [.tmp 4]) G G_good Tryz.func34 rfl Tryz.ntmps34 rfl rfl ?_; with_reducible refine wD ?_
  repeat' (first
    | refine gK ?_
    | ((first
      | ((with_reducible show CallK _ _ 82 _ _ _ _); refine CallK.new 71 [] h82 c82 ⟨⟨rfl, rfl, trivial⟩, rfl, trivial⟩ rfl rfl rfl (ints_outs _) rfl ?_)
      | ((with_reducible show CallK _ _ 81 _ _ _ _); refine CallK.lend (news := [mBox ⟨l, m⟩, rInts (el ++ List.replicate (al.length - el.length) 0)]) [20, 71] [] h81 c81 ⟨⟨rfl, rfl⟩, ⟨rfl, trivial, ⟨rfl, rfl⟩, trivial⟩, trivial⟩ ⟨⟨rfl, .inl ⟨rfl, rfl⟩⟩, ⟨rfl, .inl ⟨rfl, noRef_ints _⟩⟩, trivial⟩ rfl ⟨⟨rfl, rfl⟩, rfl⟩ rfl ⟨⟨rfl, .inl ⟨rfl, rfl⟩⟩, ⟨rfl, .inl ⟨rfl, noRef_ints _⟩⟩, trivial⟩ rfl rfl ?_)
      | ((with_reducible show DrawK _ _ _ _); refine dK ?_)) <;> with_reducible refine wK ?_)
    | ((with_reducible show (_ ∧ _) ∧ _ ∧ _); (refine eK ?_ ?_ <;> with_reducible repeat' (first | exact trivial | (show _ ∧ _; refine aK ?_ ?_)))))
  all_goals first
    | rfl
    | exact mfl_ints rfl
    | exact ⟨.refl (noRef_ints _), noRef_ints _⟩
    | trace_state
end Go.Proofs.Heir
namespace Go.Proofs.Heir
open Go Go.Am Go.RowKit Go.Lib Go.Extern.Stop Go.Stop Go.Extern
set_option maxRecDepth 100000
set_option maxHeartbeats 8000000
theorem as_valueOfT (t : Addr) (w : World) : (ReflectliteValue.unpack (.iface 220 (.pointer (some t)))).run Tryz.prog w
    = .ok (.agg #[.pointer (some ⟨5, 220, none⟩), .pointer (some ⟨w.heap.size, 0, none⟩), .int .u64 150]) (w.alloc (.cells #[.pointer (some t)] 220)) := by kernel_rfl
theorem as_typeT (a : Addr) (w : World) : (ReflectliteValue.methodAny (ReflectliteValue.valueError "reflectlite.Value.Type" 0) (fun t _ _ _ => ReflectliteType.toType t) #[.agg #[.pointer (some ⟨5, 220, none⟩), .pointer (some a), .int .u64 150]]).run Tryz.prog w
    = .ok (.iface 264 (.agg #[.pointer (some ⟨5, 220, none⟩)])) w := by kernel_rfl
theorem as_methodKind (h : Value) (w : World) : (Go.method 435 264 (.agg #[h]) "Kind").run Tryz.prog w = .ok (263, h) w := by kernel_rfl
theorem as_kindT (w : World) : ((ReflectliteType.abiMethod fun t => (fun a : Nat => Value.int IntKind.u8 (a : Int)) <$> Rtype.kind t) #[.pointer (some ⟨5, 220, none⟩)]).run Tryz.prog w = .ok (.int .u8 22) w := by kernel_rfl
theorem as_kindC (w : World) : ((ReflectliteType.abiMethod fun t => (fun a : Nat => Value.int IntKind.u8 (a : Int)) <$> Rtype.kind t) #[.pointer (some ⟨5, 176, none⟩)]).run Tryz.prog w = .ok (.int .u8 25) w := by kernel_rfl
theorem as_rlm (z : Sem Value) (f : TypeId → Addr → Nat → Nat → Sem Value) (v : Value) :
    ReflectliteValue.method z f #[v] = (do match ← ReflectliteValue.parts v with | none => z | some (t, a, fl) => f t a fl (fl % 32)) := rfl
theorem as_partsT (a : Addr) (w : World) : (ReflectliteValue.parts (.agg #[.pointer (some ⟨5, 220, none⟩), .pointer (some a), .int .u64 150])).run Tryz.prog w = .ok (some (220, a, 150)) w := by kernel_rfl
theorem as_isNilT (a p : Addr) (W : World) (ha : W.cell? a = some (.pointer (some p))) :
    (ReflectliteValue.method (ReflectliteValue.valueError "reflectlite.Value.IsNil" 0) ReflectliteValue.isNil #[.agg #[.pointer (some ⟨5, 220, none⟩), .pointer (some a), .int .u64 150]]).run Tryz.prog W = .ok (.bool false) W := by
  rw [as_rlm]
  simp only [Sem.run_bind, as_partsT, Result.andThen]
  simp [ReflectliteValue.isNil, loadVar, isAgg, underlying, Tryz.underlying220, ha, Result.andThen]
theorem as_methodElem (h : Value) (w : World) : (Go.method 435 264 (.agg #[h]) "Elem").run Tryz.prog w = .ok (276, .agg #[h]) w := by kernel_rfl
theorem as_methodImplements (h : Value) (w : World) : (Go.method 435 264 (.agg #[h]) "Implements").run Tryz.prog w = .ok (277, .agg #[h]) w := by kernel_rfl
theorem as_methodAssignableTo (h : Value) (w : World) : (Go.method 435 264 (.agg #[h]) "AssignableTo").run Tryz.prog w = .ok (274, .agg #[h]) w := by kernel_rfl
theorem as_methodUnwrap (h : Value) (w : World) : (Go.method 435 178 h "Unwrap").run Tryz.prog w = .ok (268, h) w := by kernel_rfl
theorem as_elemT (w : World) : (ReflectliteType.method ReflectliteType.elem #[.agg #[.pointer (some ⟨5, 220, none⟩)]]).run Tryz.prog w = .ok (.iface 264 (.agg #[.pointer (some ⟨5, 176, none⟩)])) w := by kernel_rfl
theorem as_implementsC (w : World) : (ReflectliteType.relation "Implements" ReflectliteType.implements_ #[.agg #[.pointer (some ⟨5, 176, none⟩)], .iface 264 (.agg #[.pointer (some ⟨5, 98, none⟩)])]).run Tryz.prog w = .ok (.bool true) w := by kernel_rfl
theorem as_typeOfC (v : Value) (w : World) : (ReflectliteType.typeOf #[.iface 176 v]).run Tryz.prog w = .ok (.iface 264 (.agg #[.pointer (some ⟨5, 176, none⟩)])) w := by kernel_rfl
theorem as_typeOfS (v : Value) (w : World) : (ReflectliteType.typeOf #[.iface 178 v]).run Tryz.prog w = .ok (.iface 264 (.agg #[.pointer (some ⟨5, 178, none⟩)])) w := by kernel_rfl
theorem as_assignableC (w : World) : (ReflectliteType.relation "AssignableTo" ReflectliteType.assignableTo #[.agg #[.pointer (some ⟨5, 176, none⟩)], .iface 264 (.agg #[.pointer (some ⟨5, 176, none⟩)])]).run Tryz.prog w = .ok (.bool true) w := by kernel_rfl
theorem as_assignableS (w : World) : (ReflectliteType.relation "AssignableTo" ReflectliteType.assignableTo #[.agg #[.pointer (some ⟨5, 178, none⟩)], .iface 264 (.agg #[.pointer (some ⟨5, 176, none⟩)])]).run Tryz.prog w = .ok (.bool false) w := by kernel_rfl
theorem as_valueOfC (e : Int) (w : World) : (ReflectliteValue.unpack (.iface 176 (.agg #[.int .i64 e]))).run Tryz.prog w
    = .ok (.agg #[.pointer (some ⟨5, 176, none⟩), .pointer (some ⟨w.heap.size, 0, none⟩), .int .u64 153]) (w.alloc (.cells #[.int .i64 e] 176)) := by kernel_rfl
theorem as_elemOfT (w : World) : (Rtype.elem? 220).run Tryz.prog w = .ok (some 176) w := by kernel_rfl
theorem as_mkC (p : Addr) (w : World) : (ReflectliteValue.mk 176 p ReflectliteValue.flagAddr).run Tryz.prog w = .ok (.agg #[.pointer (some ⟨5, 176, none⟩), .pointer (some p), .int .u64 409]) w := by kernel_rfl
theorem as_elemVT (a p : Addr) (W : World) (ha : W.cell? a = some (.pointer (some p))) :
    (ReflectliteValue.method (ReflectliteValue.valueError "reflectlite.Value.Elem" 0) ReflectliteValue.elem #[.agg #[.pointer (some ⟨5, 220, none⟩), .pointer (some a), .int .u64 150]]).run Tryz.prog W
      = .ok (.agg #[.pointer (some ⟨5, 176, none⟩), .pointer (some p), .int .u64 409]) W := by
  rw [as_rlm]
  simp only [Sem.run_bind, as_partsT, Result.andThen]
  simp [ReflectliteValue.elem, loadVar, isAgg, underlying, Tryz.underlying220, ha, Result.andThen, as_elemOfT, as_mkC]
theorem as_rls (v x : Value) : ReflectliteValue.set #[v, x] = (do
    let (some (dst, a, fl), some (src, b, _)) := (← ReflectliteValue.parts v, ← ReflectliteValue.parts x)
      | unsupported (.noEntry "extern/(internal/reflectlite.Value).Set.zeroValue")
    if fl / ReflectliteValue.flagAddr % 2 == 0 then unsupported (.noEntry "extern/(internal/reflectlite.Value).Set.unaddressable")
    let val ← loadVar src b
    if ← Rtype.directlyAssignable dst src then storeVar dst a val
    else if ← Rtype.implements dst src then
      if (← Rtype.kind src) == 20 then
        match val with
        | .nilIface => unsupported (.noEntry "extern/reflectlite: a nil value of one interface type handed on as a value of another")
        | _ => storeVar dst a val
      else storeVar dst a (.iface src val)
    else panicString ("reflectlite.Set: value of type " ++ (← Rtype.spelt src) ++ " is not assignable to type " ++ (← Rtype.spelt dst))
    pure (.tuple #[])) := rfl
theorem as_partsCa (a : Addr) (w : World) : (ReflectliteValue.parts (.agg #[.pointer (some ⟨5, 176, none⟩), .pointer (some a), .int .u64 409])).run Tryz.prog w = .ok (some (176, a, 409)) w := by kernel_rfl
theorem as_partsC (a : Addr) (w : World) : (ReflectliteValue.parts (.agg #[.pointer (some ⟨5, 176, none⟩), .pointer (some a), .int .u64 153])).run Tryz.prog w = .ok (some (176, a, 153)) w := by kernel_rfl
theorem as_directC (w : World) : (Rtype.directlyAssignable 176 176).run Tryz.prog w = .ok true w := by kernel_rfl
theorem as_loadC (b : Addr) (e : Int) (W : World) (hb : W.cell? b = some (.int .i64 e)) : (loadVar 176 b).run Tryz.prog W = .ok (.agg #[.int .i64 e]) W := by
  simp [loadVar, isAgg, underlying, Tryz.underlying176, Result.andThen, Addr.add]
  rw [run_loadCells W b 1 (fun _ => .int .i64 e) (fun j hj => by rw [Nat.lt_one_iff.1 hj]; simpa [Addr.add] using hb)]
  rfl
theorem as_setC (ta b : Addr) (e : Int) (old : Value) (W : World) (hb : W.cell? b = some (.int .i64 e)) (ht : W.cell? ta = some old) (hf : W.frozen? ta = false) :
    (ReflectliteValue.set #[.agg #[.pointer (some ⟨5, 176, none⟩), .pointer (some ta), .int .u64 409], .agg #[.pointer (some ⟨5, 176, none⟩), .pointer (some b), .int .u64 153]]).run Tryz.prog W
      = .ok (.tuple #[]) (W.setCell ta (.int .i64 e)) := by
  rw [as_rls]
  simp only [Sem.run_bind, as_partsCa, as_partsC, Result.andThen]
  simp [ReflectliteValue.flagAddr, as_loadC b e W hb, Result.andThen, as_directC, storeVar, Value.cells, storeCells, Addr.add]
  rw [run_store Tryz.prog W ta _ _ (by rfl)]
  simp [ht, hf]
theorem as_err {W : World} (ht : Tabs Tryz.prog W fun _ => none) : W.cell? ⟨0, 0, none⟩ = some (.iface 264 (.agg #[.pointer (some ⟨5, 98, none⟩)])) ∧ 0 < W.heap.size := by
  obtain ⟨_, h2, v, ⟨u, ty, hu, hty, hn, rfl⟩, hc⟩ := ht.2 0 (by kernel_rfl)
  have hu' : (Tryz.prog.cutTypes.find? (·.1 == "internal/reflectlite.rtype")).map (·.2) = some 264 := by kernel_rfl
  obtain rfl := Option.some.inj (hu.symm.trans hu')
  have hall : (List.range Tryz.prog.types.size).all (fun t => !(Tryz.prog.rowNamed t [101, 114, 114, 111, 114]) || Nat.beq t 98) = true := by kernel_rfl
  have h98 := List.all_eq_true.1 hall ty (List.mem_range.2 hty)
  rw [hn] at h98
  obtain rfl : ty = 98 := by simpa using Nat.eq_of_beq_eq_true h98
  exact ⟨hc, h2⟩
theorem as_noAs (v : Value) (w : World) : (Instr.typeAssert (.iface 178 v) 98 269 true).run Tryz.prog w = .ok (.tuple #[.nilIface, .bool false]) w := run_typeAssert_lacksB Tryz.underlying269 (by kernel_rfl) (by kernel_rfl) v 98 w
theorem as_hasU (v : Value) (w : World) : (Instr.typeAssert (.iface 178 v) 98 272 true).run Tryz.prog w = .ok (.tuple #[.iface 178 v, .bool true]) w := run_typeAssert_hasB Tryz.underlying272 (by kernel_rfl) v 98 w
theorem as_two (what : ByteArray) (e : Int) (t : Addr) (old : Value) (w : World) (hg : w.cell? ⟨0, 0, none⟩ = some (.iface 264 (.agg #[.pointer (some ⟨5, 98, none⟩)]))) (ht0 : w.cell? t = some old) (hf0 : w.frozen? t = false) :
    Calls Tryz.prog 178 #[.iface 178 (.agg #[.string what, .iface 176 (.agg #[.int .i64 e])]), .iface 220 (.pointer (some t))] w fun ev w' => ev = .returned (.bool true) ∧ w' = (((((w.alloc (.cells #[.pointer (some t)] 220)).alloc (.cells #[.pointer (some ⟨5, 220, none⟩), .pointer (some ⟨w.heap.size, 0, none⟩), .int .u64 150] 242)).alloc (.cells #[.pointer (some ⟨5, 220, none⟩), .pointer (some ⟨w.heap.size, 0, none⟩), .int .u64 150] 242)).alloc (.cells #[.string what, .iface 176 (.agg #[.int .i64 e])] 178)).alloc (.cells #[.int .i64 e] 176)).setCell t (.int .i64 e) := by
  have h209 := @run_callFunc_extern Tryz.prog 209 _ (fun args => ReflectliteValue.unpack (args.getD 0 (.tuple #[]))) Tryz.func209 (by kernel_rfl) (by kernel_rfl) (by kernel_rfl) (by kernel_rfl)
  have h210 := @run_callFunc_extern Tryz.prog 210 _ (ReflectliteValue.methodAny (ReflectliteValue.valueError "reflectlite.Value.Type" 0) (fun t _ _ _ => ReflectliteType.toType t)) Tryz.func210 (by kernel_rfl) (by kernel_rfl) (by kernel_rfl) (by kernel_rfl)
  have h211 := @run_callFunc_extern Tryz.prog 211 _ (ReflectliteValue.method (ReflectliteValue.valueError "reflectlite.Value.IsNil" 0) ReflectliteValue.isNil) Tryz.func211 (by kernel_rfl) (by kernel_rfl) (by kernel_rfl) (by kernel_rfl)
  have h263 := @run_callFunc_extern Tryz.prog 263 _ (ReflectliteType.abiMethod fun t => do pure (.int .u8 (← Rtype.kind t))) Tryz.func263 (by kernel_rfl) (by kernel_rfl) (by kernel_rfl) (by kernel_rfl)
  have h276 := @run_callFunc_extern Tryz.prog 276 _ (ReflectliteType.method ReflectliteType.elem) Tryz.func276 (by kernel_rfl) (by kernel_rfl) (by kernel_rfl) (by kernel_rfl)
  have h277 := @run_callFunc_extern Tryz.prog 277 _ (ReflectliteType.relation "Implements" ReflectliteType.implements_) Tryz.func277 (by kernel_rfl) (by kernel_rfl) (by kernel_rfl) (by kernel_rfl)
  have h224 := @run_callFunc_extern Tryz.prog 224 _ ReflectliteType.typeOf Tryz.func224 (by kernel_rfl) (by kernel_rfl) (by kernel_rfl) (by kernel_rfl)
  have h274 := @run_callFunc_extern Tryz.prog 274 _ (ReflectliteType.relation "AssignableTo" ReflectliteType.assignableTo) Tryz.func274 (by kernel_rfl) (by kernel_rfl) (by kernel_rfl) (by kernel_rfl)
  have h225 := @run_callFunc_extern Tryz.prog 225 _ (ReflectliteValue.method (ReflectliteValue.valueError "reflectlite.Value.Elem" 0) ReflectliteValue.elem) Tryz.func225 (by kernel_rfl) (by kernel_rfl) (by kernel_rfl) (by kernel_rfl)
  have h226 := @run_callFunc_extern Tryz.prog 226 _ ReflectliteValue.set Tryz.func226 (by kernel_rfl) (by kernel_rfl) (by kernel_rfl) (by kernel_rfl)
  have f209 := as_valueOfT
  have f209c := as_valueOfC
  have f210 := as_typeT
  have mK := as_methodKind
  have mE := as_methodElem
  have mI := as_methodImplements
  have mA := as_methodAssignableTo
  have mU := as_methodUnwrap
  have kT := as_kindT
  have kC := as_kindC
  have eT := as_elemT
  have iC := as_implementsC
  have tC := as_typeOfC
  have tS := as_typeOfS
  have aC := as_assignableC
  have aS := as_assignableS
  have nA := as_noAs
  have hU := as_hasU
  have n211 := as_isNilT ⟨w.heap.size, 0, none⟩ t ((w.alloc (.cells #[.pointer (some t)] 220)).alloc (.cells #[.pointer (some ⟨5, 220, none⟩), .pointer (some ⟨w.heap.size, 0, none⟩), .int .u64 150] 242)) (by simp)
  have hlt : 0 < w.heap.size := by
    rcases Nat.eq_zero_or_pos w.heap.size with h0 | h
    · simp [World.cell?, h0] at hg
    · exact h
  have hg2 : ((w.alloc (.cells #[.pointer (some t)] 220)).alloc (.cells #[.pointer (some ⟨5, 220, none⟩), .pointer (some ⟨w.heap.size, 0, none⟩), .int .u64 150] 242)).cell? ⟨0, 0, none⟩ = some (.iface 264 (.agg #[.pointer (some ⟨5, 98, none⟩)])) := by
    rw [World.cell?_alloc_lt _ _ ⟨0, 0, none⟩ (by simp), World.cell?_alloc_lt _ _ ⟨0, 0, none⟩ hlt]; exact hg
  have htl : t.block < w.heap.size := by
    rcases Nat.lt_or_ge t.block w.heap.size with h | h
    · exact h
    · simp [World.cell?, Array.getElem?_eq_none h] at ht0
  have el := as_elemVT ⟨w.heap.size, 0, none⟩ t ((((w.alloc (.cells #[.pointer (some t)] 220)).alloc (.cells #[.pointer (some ⟨5, 220, none⟩), .pointer (some ⟨w.heap.size, 0, none⟩), .int .u64 150] 242)).alloc (.cells #[.pointer (some ⟨5, 220, none⟩), .pointer (some ⟨w.heap.size, 0, none⟩), .int .u64 150] 242)).alloc (.cells #[.string what, .iface 176 (.agg #[.int .i64 e])] 178)) (by
    rw [World.cell?_alloc_lt _ _ ⟨w.heap.size, 0, none⟩ (by simp; omega), World.cell?_alloc_lt _ _ ⟨w.heap.size, 0, none⟩ (by simp; omega), World.cell?_alloc_lt _ _ ⟨w.heap.size, 0, none⟩ (by simp), World.cell?_alloc_at _ _ _ _ (by simp)]; rfl)
  have st := as_setC t ⟨w.heap.size + 1 + 1 + 1 + 1, 0, none⟩ e old (((((w.alloc (.cells #[.pointer (some t)] 220)).alloc (.cells #[.pointer (some ⟨5, 220, none⟩), .pointer (some ⟨w.heap.size, 0, none⟩), .int .u64 150] 242)).alloc (.cells #[.pointer (some ⟨5, 220, none⟩), .pointer (some ⟨w.heap.size, 0, none⟩), .int .u64 150] 242)).alloc (.cells #[.string what, .iface 176 (.agg #[.int .i64 e])] 178)).alloc (.cells #[.int .i64 e] 176))
    (by rw [World.cell?_alloc_at _ _ _ _ (by simp)]; rfl)
    (by rw [World.cell?_alloc_lt _ _ t (by simp; omega), World.cell?_alloc_lt _ _ t (by simp; omega), World.cell?_alloc_lt _ _ t (by simp; omega), World.cell?_alloc_lt _ _ t (by simp; omega), World.cell?_alloc_lt _ _ t htl]; exact ht0)
    (by rw [World.frozen?_alloc_old _ _ t (by simp; omega), World.frozen?_alloc_old _ _ t (by simp; omega), World.frozen?_alloc_old _ _ t (by simp; omega), World.frozen?_alloc_old _ _ t (by simp; omega), World.frozen?_alloc_old _ _ t (Nat.ne_of_lt htl)]; exact hf0)
  go_enter Tryz.func178, Tryz.ntmps178
  go_wp2
  refine wp_loop_rounds 2 ?_
  rw [rounds_succ]
  go_wp2
  rw [rounds_succ]
  go_wp2
  go_ret
  exact ⟨rfl, rfl⟩
end Go.Proofs.Heir
namespace Go.Proofs.Heir
open Go Go.Am Go.RowKit Go.Lib
set_option maxRecDepth 100000
set_option maxHeartbeats 8000000
theorem as_two' (what : ByteArray) (e : Int) (t : Addr) (old : Value) (w : World) (hg : w.cell? ⟨0, 0, none⟩ = some (.iface 264 (.agg #[.pointer (some ⟨5, 98, none⟩)]))) (ht0 : w.cell? t = some old) (hf0 : w.frozen? t = false) :
    Calls Tryz.prog 178 #[.iface 178 (.agg #[.string what, .iface 176 (.agg #[.int .i64 e])]), .iface 220 (.pointer (some t))] w fun ev w' => ev = .returned (.bool true) ∧ ∃ W : World, w' = W.setCell t (.int .i64 e) ∧ Below w.heap.size w W := by
  refine (as_two what e t old w hg ht0 hf0).mono ?_
  rintro ev w' ⟨rfl, rfl⟩
  exact ⟨rfl, _, rfl, (((((Below.refl _ _).alloc (Nat.le_refl _) _).alloc (by simp) _).alloc (by simp; omega) _).alloc (by simp; omega) _).alloc (by simp; omega) _⟩
theorem cell_set {W : World} {a : Addr} {v : Value} (h : (W.cell? a).isSome = true) : (W.setCell a v).cell? a = some v := by
  obtain ⟨u, hu⟩ := Option.isSome_iff_exists.1 h
  exact World.cell?_setCell_same W _ _ hu
theorem why_calls (what : ByteArray) (e : Int) (w : World) (ht : Tabs Tryz.prog w fun _ => none) :
    Calls Tryz.prog 122 #[.iface 178 (.agg #[.string what, .iface 176 (.agg #[.int .i64 e])])] w fun ev w' => ev = .returned (.int .i64 e) ∧ Below w.heap.size w w' := by
  obtain ⟨hg, hlt⟩ := as_err ht
  have hg1 : (w.alloc (.cells #[.int .i64 0] 176)).cell? ⟨0, 0, none⟩ = some (.iface 264 (.agg #[.pointer (some ⟨5, 98, none⟩)])) := by
    rw [World.cell?_alloc_lt _ _ ⟨0, 0, none⟩ hlt]; exact hg
  have hc1 : (w.alloc (.cells #[.int .i64 0] 176)).cell? ⟨w.heap.size, 0, none⟩ = some (.int .i64 0) := by rw [World.cell?_alloc_at _ _ _ _ (by simp)]; rfl
  have hf1 : (w.alloc (.cells #[.int .i64 0] 176)).frozen? ⟨w.heap.size, 0, none⟩ = false := World.frozen?_alloc_at _ _ _ _ rfl
  have h2 := as_two' what e ⟨w.heap.size, 0, none⟩ (.int .i64 0) (w.alloc (.cells #[.int .i64 0] 176)) hg1 hc1 hf1
  go_enter Tryz.func122, Tryz.ntmps122
  go_wp2_with (go_at_call 178; refine h2.mono ?_; rintro ev w1 ⟨rfl, W, rfl, hb⟩; have hcW : (W.cell? ⟨w.heap.size, 0, none⟩) = some (.int .i64 0) := (hb.cell (by simp)).trans hc1; have hcS : (W.setCell ⟨w.heap.size, 0, none⟩ (.int .i64 e)).cell? ⟨w.heap.size, 0, none⟩ = some (.int .i64 e) := cell_set (by rw [hcW]; rfl))
  go_wp2
  go_ret
  refine ⟨rfl, ?_⟩
  exact ((((Below.refl _ _).alloc (Nat.le_refl _) _).trans (hb.mono (by simp)))).setCell (Nat.le_refl _) _
theorem why_ok (what : ByteArray) (e : Int) : FnOK Tryz.prog 122 [] [.lit (.iface 178 (.agg #[.string what, .iface 176 (.agg #[.int .i64 e])]))] [] (eInt e) :=
  FnOK.of_calls (vs := [.iface 178 (.agg #[.string what, .iface 176 (.agg #[.int .i64 e])])]) fun w ht => why_calls what e w ht
end Go.Proofs.Heir
