/- Models, plain laws and contracts of functions of the given program; conditions as stated in each theorem. By an AI agent. -/
import Derived.Test.YtpogpigciaajoaaGreatDoorW2
import Derived.Test.YtpogpigciaajoaaGreatDoorChecked
import Derived.Test.YtpogpigciaajoaaGreatDoorW1
import Derived.Shelf.GgClosure.StringsIndexFunc
import Derived.Deep.LoopGhost
import Derived.WalkKit
import Derived.Laws.IdiomStrings
import Derived.IntWalk
import Derived.Outline
import Derived.Lib.Hide
import Derived.Lib.MapLaws
import Derived.Shelf.Strings.Search1
import Derived.Shelf.Strings.Search2
import Derived.Shelf.Strings.Search3
import Derived.Shelf.LaysM
import Derived.Shelf.Strings.Shaped
import Derived.Shelf.Strings.Fields
set_option linter.unusedSimpArgs false
set_option linter.unusedVariables false
section
set_option linter.unusedSimpArgs false
set_option linter.unusedVariables false
namespace Go.Am
open Go Go.RowKit Go.Lib MapKept
def intE : AV → Option Nat
 | .lit (.int _ (.ofNat k)) => some k
 | _ => none
theorem intE_ok {x : AV} {k : Nat} (h : intE x = some k) : ∃ kd, x = .lit (.int kd (k : Int)) := by
 unfold intE at h
 split at h
 ·cases h; exact ⟨_, rfl⟩
 ·cases h
def boundE (S : ES) (d : Nat) : Option Operand → Option Nat
 | none => some d
 | some z => intE (evE S z)
theorem boundE_ok {S : ES} {d l : Nat} {lo : Option Operand} (h : boundE S d lo = some l) : lo = none ∧ l = d ∨ ∃ z k, lo = some z ∧ (den S).eval z = .lit (.int k (l : Nat)) := by
 cases lo with
 | none => cases h; exact .inl ⟨rfl, rfl⟩
 | some z =>
  obtain ⟨kd, hk⟩ := intE_ok h
  exact .inr ⟨z, kd, rfl, by rw [ev_den]; exact hk⟩
def idxE (Γ : TEnv) (S : ES) (t : TypeId) (y z : Operand) : Option ER :=
 match lkT Γ t, evE S y, intE (evE S z) with
 | some (.sl _ wd _), .own tk off len, some i => match mE S tk with
  | .live wd' _ _ => match Nat.beq wd wd', Nat.ble (i + 1) len with
   | true, true => some ([tk], .ptr tk (off + i) 0, [], S.nx)
   | _, _ => none
  | _ => none
 | some (.sl _ wd _), .sl wd' rows, some i => match Nat.beq wd wd', getR rows i with
  | true, some r => some ([], .fptr r 0, [], S.nx)
  | _, _ => none
 | some (.ar _ len _ wd _), .ptr tk i0 k0, some i => match Nat.ble (i + 1) len with
  | true => some ([], .ptr tk i0 (k0 + i * wd), [], S.nx)
  | false => none
 | _, _, _ => none
def cutE (Γ : TEnv) (S : ES) (t : TypeId) (y : Operand) (lo hi mx : Option Operand) : Option ER :=
 match mx with
 | none => match lkT Γ t, evE S y with
  | some (.sl _ wd _), .own tk off len => match mE S tk, boundE S 0 lo, boundE S len hi with
   | .live wd' _ _, some l, some h => match Nat.beq wd wd', Nat.ble l h, Nat.ble h len with
    | true, true, true => some ([tk], .own tk (off + l) (h - l), [], S.nx)
    | _, _, _ => none
   | _, _, _ => none
  | some (.sl _ wd _), .sl wd' rows => match boundE S 0 lo, boundE S rows.length hi with
   | some l, some h => match Nat.beq wd wd', Nat.ble l h, Nat.ble h rows.length with
    | true, true, true => some ([], .sl wd' ((rows.drop l).take (h - l)), [], S.nx)
    | _, _, _ => none
   | _, _ => none
  | some .str, .lit (.string s) => match boundE S 0 lo, boundE S s.size hi with
   | some l, some h => match Nat.ble l h, Nat.ble h s.size with
    | true, true => some ([], .lit (.string (s.extract l h)), [], S.nx)
    | _, _ => none
   | _, _ => none
  | _, _ => none
 | some mx => match lo, hi with
  | none, some hi => match lkT Γ t, intE (evE S hi), intE (evE S mx) with
   | some (.sl _ _ _), some 0, some 0 => match evE S y with
    | .own _ _ _ => some ([], .emp, [], S.nx)
    | .sl _ _ => some ([], .emp, [], S.nx)
    | .emp => some ([], .emp, [], S.nx)
    | .lit v => match nilV v with
     | true => some ([], .emp, [], S.nx)
     | false => none
    | _ => none
   | _, _, _ => none
  | _, _ => none
def freeE (S : ES) : Bool := match mE S S.nx with
 | .free => true
 | _ => false
theorem freeE_ok {S : ES} (h : freeE S = true) : (den S).mem S.nx = .free := by
 unfold freeE at h
 rw [mem_den]
 split at h
 ·assumption
 ·cases h
def litE (Γ : TEnv) (S : ES) (t : TypeId) (len : Nat) (parts : List (Nat × Operand)) : Option ER :=
 match lkT Γ t with
 | some (.sl _ wd _) => match freeE S, inOrderB wd 0 (parts.map fun p => (p.1, evE S p.2)), Nat.beq parts.length len, Nat.ble (len * wd) 16777216 with
  | true, true, true, true => some ([S.nx], .own S.nx 0 len, [(S.nx, .live wd (parts.map fun p => evE S p.2) false)], S.nx + 1)
  | _, _, _, _ => none
 | _ => none
def baseE (S : ES) (wd : Nat) : AV → Option (List AV × List Nat)
 | .own t off len => match mE S t with
  | .live wd' rows false => match Nat.beq wd wd', Nat.ble (off + len) rows.length with
   | true, true => some ((rows.drop off).take len, [t])
   | _, _ => none
  | _ => none
 | .emp => some ([], [])
 | .lit v => match nilV v with
  | true => some ([], [])
  | false => none
 | _ => none
def srcE (S : ES) (wd : Nat) : AV → Option (List AV × List Nat)
 | .own t off len => match mE S t with
  | .live wd' rows _ => match Nat.beq wd wd', Nat.ble (off + len) rows.length with
   | true, true => some ((rows.drop off).take len, [t])
   | _, _ => none
  | _ => none
 | .sl wd' rows => match Nat.beq wd wd' with
  | true => some (rows, [])
  | false => none
 | .emp => some ([], [])
 | .lit v => match nilV v with
  | true => some ([], [])
  | false => none
 | _ => none
def appE (Γ : TEnv) (S : ES) (y z : Operand) (t t2 : TypeId) : Option ER :=
 match lkT Γ t, lkT Γ t2 with
 | some (.sl _ wd bytes), some (.sl _ _ _) => match freeE S, baseE S wd (evE S y), srcE S wd (evE S z) with
  | true, some (rows0, k), some (news, rd) => match oneL (flat news), Nat.ble ((rows0.length + news.length) * bytes) 140737488355328, Nat.ble (rows0.length + news.length) 9223372036854775807 with
   | true, true, true => some (S.nx :: (k ++ rd), .own S.nx 0 (rows0 ++ news).length, (S.nx, .live wd (rows0 ++ news) false) :: k.map fun t => (t, .dead), S.nx + 1)
   | _, _, _ => none
  | _, _, _ => none
 | _, _ => none
def allocE (Γ : TEnv) (S : ES) (t : TypeId) : Option ER :=
 match zeroA (lookT Γ t), freeE S with
 | some x, true => some ([S.nx], .ptr S.nx 0 0, [(S.nx, .live (cells x).length [x] false)], S.nx + 1)
 | _, _ => none
def boxE (S : ES) (y : Operand) : Option ER :=
 match (evE S y).solid, freeE S with
 | true, true => some ([S.nx], .ptr S.nx 0 0, [(S.nx, .live (cells (evE S y)).length [evE S y] false)], S.nx + 1)
 | _, _ => none
section
variable {P : Program} {N : Nat} {Γ : TEnv} {o : Oper} {S : ES} {q : ER}
theorem idxE_ok (hΓ : Γ.Good P) (hd : dstok N o.dst = true) {t : TypeId} {y z : Operand} (ho : o.op = .indexAddr t y z) (h : idxE Γ S t y z = some q) : EffE P N o S q := by
 unfold idxE at h
 split at h
 ·rename_i e wd b tk off len i ht hy hz
  rw [lkT_eq] at ht
  have ok := hΓ.look ht
  obtain ⟨_, _, te⟩ := ok.2.2.2.2
  obtain ⟨kd, hz'⟩ := intE_ok hz
  split at h
  ·rename_i wd' rows ro hm
   split at h
   ·rename_i h1 h2
    cases h
    have hw := beq_eq h1
    subst hw
    have := EffOK.index_own (P := P) (N := N) (σ := den S) ho (by rw [ev_den]; exact hy) (by rw [ev_den]; exact hz') te.ty ok.2.2.2.1 (Int.natCast_nonneg i) (by have := ble_le h2; omega) ⟨_, _, by rw [mem_den]; exact hm⟩ (dstok_spec hd)
    unfold EffE; simpa using this
   ·cases h
  ·cases h
 ·rename_i e wd b wd' rows i ht hy hz
  rw [lkT_eq] at ht
  have ok := hΓ.look ht
  obtain ⟨_, _, te⟩ := ok.2.2.2.2
  obtain ⟨kd, hz'⟩ := intE_ok hz
  split at h
  ·rename_i r h1 h2
   cases h
   have hw := beq_eq h1
   subst hw
   rw [getR_eq] at h2
   exact EffOK.index_sl (P := P) (N := N) (σ := den S) ho (by rw [ev_den]; exact hy) (by rw [ev_den]; exact hz') te.ty ok.2.2.2.1 (Int.natCast_nonneg i) (by simpa using h2) (dstok_spec hd)
  ·cases h
 ·rename_i n len e wd z0 tk i0 k0 i ht hy hz
  rw [lkT_eq] at ht
  have ok := hΓ.look ht
  obtain ⟨kd, hz'⟩ := intE_ok hz
  split at h
  ·rename_i h1
   cases h
   have := EffOK.index_arr (P := P) (N := N) (σ := den S) ho (by rw [ev_den]; exact hy) (by rw [ev_den]; exact hz') ok.2.2.2.1 ok.2.2.2.2 (Int.natCast_nonneg i) (by have := ble_le h1; omega) (dstok_spec hd)
   unfold EffE; simpa using this
  ·cases h
 ·cases h
theorem cutE_ok (hΓ : Γ.Good P) (hd : dstok N o.dst = true) {t : TypeId} {y : Operand} {lo hi mx : Option Operand} (ho : o.op = .slice t y lo hi mx) (h : cutE Γ S t y lo hi mx = some q) : EffE P N o S q := by
 cases mx with
 | none =>
  simp only [cutE] at h
  split at h
  ·rename_i e wd b tk off len ht hy
   rw [lkT_eq] at ht
   have ok := hΓ.look ht
   obtain ⟨_, _, te⟩ := ok.2.2.2.2
   split at h
   ·rename_i wd' rows ro l hh hm hl hhh
    split at h
    ·rename_i h1 h2 h3
     cases h
     have hw := beq_eq h1
     subst hw
     exact EffOK.slice_own (P := P) (N := N) (σ := den S) ho (by rw [ev_den]; exact hy) (boundE_ok hl) (boundE_ok hhh) (ble_le h2) (ble_le h3) te.ty ok.2.2.2.1 ⟨_, _, by rw [mem_den]; exact hm⟩ (dstok_spec hd)
    ·cases h
   ·cases h
  ·rename_i e wd b wd' rows ht hy
   rw [lkT_eq] at ht
   have ok := hΓ.look ht
   obtain ⟨_, _, te⟩ := ok.2.2.2.2
   split at h
   ·rename_i l hh hl hhh
    split at h
    ·rename_i h1 h2 h3
     cases h
     have hw := beq_eq h1
     subst hw
     exact EffOK.slice_sl (P := P) (N := N) (σ := den S) ho (by rw [ev_den]; exact hy) (boundE_ok hl) (boundE_ok hhh) (ble_le h2) (ble_le h3) te.ty ok.2.2.2.1 (dstok_spec hd)
    ·cases h
   ·cases h
  ·rename_i s ht hy
   rw [lkT_eq] at ht
   have ok := hΓ.look ht
   split at h
   ·rename_i l hh hl hhh
    split at h
    ·rename_i h2 h3
     cases h
     exact EffOK.cutStr (P := P) (N := N) (σ := den S) ho (by rw [ev_den]; exact hy) ok.2.2.2 (boundE_ok hl) (boundE_ok hhh) (ble_le h2) (ble_le h3) (dstok_spec hd)
    ·cases h
   ·cases h
  ·cases h
 | some mx =>
  simp only [cutE] at h
  split at h
  ·rename_i hi
   split at h
   ·rename_i e wd b ht h1 h2
    rw [lkT_eq] at ht
    have ok := hΓ.look ht
    obtain ⟨_, _, te⟩ := ok.2.2.2.2
    obtain ⟨k1, h1'⟩ := intE_ok h1
    obtain ⟨k2, h2'⟩ := intE_ok h2
    have base : ∀ x, evE S y = x → ((∃ tk off len, x = .own tk off len) ∨ (∃ wd rows, x = .sl wd rows) ∨ x = .emp ∨ x = .lit (.slice none 0 0)) → EffE P N o S ([], .emp, [], S.nx) := fun x hy hx =>
     EffOK.slice3 (P := P) (N := N) (σ := den S) ho (by rw [ev_den]; exact hy) hx (by rw [ev_den]; exact h1') (by rw [ev_den]; exact h2') te.ty ⟨_, ok.2.2.2.1⟩ (dstok_spec hd)
    split at h
    ·rename_i hy; cases h; exact base _ hy (.inl ⟨_, _, _, rfl⟩)
    ·rename_i hy; cases h; exact base _ hy (.inr (.inl ⟨_, _, rfl⟩))
    ·rename_i hy; cases h; exact base _ hy (.inr (.inr (.inl rfl)))
    ·rename_i hy
     split at h
     ·rename_i hn; cases h; rw [nilV_ok hn] at hy; exact base _ hy (.inr (.inr (.inr rfl)))
     ·cases h
    ·cases h
   ·cases h
  ·cases h
theorem litE_ok (hΓ : Γ.Good P) (hd : dstok N o.dst = true) {t : TypeId} {len : Nat} {parts : Array (Nat × Operand)} (ho : o.op = .buildSlice t len parts) (h : litE Γ S t len parts.toList = some q) : EffE P N o S q := by
 unfold litE at h
 split at h
 ·rename_i e wd bytes ht
  rw [lkT_eq] at ht
  have ok := hΓ.look ht
  obtain ⟨i, z', te⟩ := ok.2.2.2.2
  split at h
  ·rename_i g0 g1 g2 g3
   cases h
   have g1' := inOrderB_ok g1
   have g2' : parts.toList.length = len := beq_eq g2
   have g3' : len * wd ≤ 16777216 := ble_le g3
   have hev : (fun p : Nat × Operand => (p.1, evE S p.2)) = fun p => (p.1, (den S).eval p.2) := by funext p; rw [ev_den]
   rw [hev] at g1'
   have hfi := fill_inOrder _ 0 [] g1' (by simp)
   have hmap : (parts.toList.map fun p => evE S p.2) = (parts.toList.map fun p => (p.1, (den S).eval p.2)).map (·.2) := by
    rw [List.map_map]; apply List.map_congr_left; intro p _; simp [ev_den]
   have := EffOK.buildSlice (P := P) (N := N) (σ := den S) (tk := S.nx) ho te g3' (rows := (parts.toList.map fun p => (p.1, (den S).eval p.2)).map (·.2)) (by simp [← g2']) (inOrder_wide _ 0 g1')
    (by simp only [List.nil_append, List.length_map] at hfi; rw [← g2']; exact hfi) (freeE_ok g0) (dstok_spec hd)
   unfold EffE
   rw [hmap]
   simp only [List.length_map, g2'] at this
   exact this
  ·cases h
 ·cases h
theorem baseE_ok {wd : Nat} {x : AV} {rows : List AV} {k : List Nat} (h : baseE S wd x = some (rows, k)) : Base (den S) wd x rows k := by
 unfold baseE at h
 split at h
 ·split at h
  ·rename_i hm
   split at h
   ·rename_i h1 h2
    have hw := beq_eq h1
    subst hw
    cases h
    exact .own (by rw [mem_den]; exact hm) (ble_le h2)
   ·cases h
  ·cases h
 ·cases h; exact .emp
 ·split at h
  ·rename_i hn; cases h; rw [nilV_ok hn]; exact .nil
  ·cases h
 ·cases h
theorem srcE_ok {wd : Nat} {x : AV} {rows : List AV} {k : List Nat} (h : srcE S wd x = some (rows, k)) : Src (den S) wd x rows k := by
 unfold srcE at h
 split at h
 ·split at h
  ·rename_i hm
   split at h
   ·rename_i h1 h2
    have hw := beq_eq h1
    subst hw
    cases h
    exact .own (by rw [mem_den]; exact hm) (ble_le h2)
   ·cases h
  ·cases h
 ·split at h
  ·rename_i h1
   have hw := beq_eq h1
   subst hw
   cases h
   exact .sl
  ·cases h
 ·cases h; exact .emp
 ·split at h
  ·rename_i hn; cases h; rw [nilV_ok hn]; exact .nil
  ·cases h
 ·cases h
theorem appE_ok (hΓ : Γ.Good P) (hd : dstok N o.dst = true) {y z : Operand} {t t2 : TypeId} (ho : o.op = .call { callee := .builtin .append, args := #[y, z], argTypes := #[t, t2] }) (h : appE Γ S y z t t2 = some q) : EffE P N o S q := by
 unfold appE at h
 split at h
 ·rename_i e wd bytes e2 wd2 bytes2 ht ht2
  rw [lkT_eq] at ht ht2
  have ok := hΓ.look ht
  obtain ⟨i, z', te⟩ := ok.2.2.2.2
  have ok2 := hΓ.look ht2
  obtain ⟨i2, z2, te2⟩ := ok2.2.2.2.2
  split at h
  ·rename_i rows0 k news rd hf hb hx
   split at h
   ·rename_i h1 h2 h3
    cases h
    have h2' := ble_le h2
    have h3' := ble_le h3
    exact EffOK.append (P := P) (N := N) (σ := den S) (tn := S.nx) ho te te2.ty (by rw [ev_den]; exact baseE_ok hb) (by rw [ev_den]; exact srcE_ok hx) h1 h2' (by unfold maxLen; omega) (freeE_ok hf) (dstok_spec hd)
   ·cases h
  ·cases h
 ·cases h
theorem allocE_ok (hΓ : Γ.Good P) (hd : dstok N o.dst = true) {t : TypeId} (ho : o.op = .alloc t) (h : allocE Γ S t = some q) : EffE P N o S q := by
 unfold allocE at h
 split at h
 ·rename_i x hz hf
  cases h
  obtain ⟨z, hz1, rfl⟩ := zeroA_ok hΓ hz
  exact EffOK.alloc (P := P) (N := N) (σ := den S) ho hz1 (freeE_ok hf) (dstok_spec hd)
 ·cases h
theorem boxE_ok (hd : dstok N o.dst = true) {t : TypeId} {y : Operand} (ho : o.op = .box t y) (h : boxE S y = some q) : EffE P N o S q := by
 unfold boxE at h
 split at h
 ·rename_i hs hf
  cases h
  exact EffOK.box (P := P) (N := N) (σ := den S) ho (ev_den _ _) hs (freeE_ok hf) (dstok_spec hd)
 ·cases h
end
end Go.Am
namespace Go.Am
open Go
mutual
def rnA (f : Nat → Option Nat) : AV → AV
 | .own t o l => match f t with
  | some u => .own u o l
  | none => .any
 | .ptr t i k => match f t with
  | some u => .ptr u i k
  | none => .any
 | .mapr t => match f t with
  | some u => .mapr u
  | none => .any
 | .agg cs => .agg (rnL f cs)
 | .tup cs => .tup (rnL f cs)
 | .clo g a b => .clo g (rnL f a) (rnL f b)
 | .any => .any
 | .emp => .emp
 | .guess p q => .guess p q
 | .lit v => .lit v
 | .sl w r => .sl w r
 | .fptr e k => .fptr e k
 | .fmap r => .fmap r
def rnL (f : Nat → Option Nat) : List AV → List AV
 | [] => []
 | x :: r => rnA f x :: rnL f r
end
theorem rnL_eq (f : Nat → Option Nat) : ∀ l : List AV, rnL f l = l.map (rnA f)
 | [] => rfl
 | x :: r => by rw [rnL, rnL_eq f r]; rfl
section
variable {mm : Nat → MS} {ρ : Nat → Nat} {D F : Nat → Prop} {f : Nat → Option Nat}
mutual
theorem rnA_cv (hf : ∀ t u, f t = some u → D u ∧ ρ u = t) : ∀ x : AV, Cv mm ρ D F (rnA f x) x
 | .own t o l => by
  rw [rnA]
  split
  ·rename_i u h
   obtain ⟨h1, h2⟩ := hf t u h
   have := Cv.own (m := mm) (ρ := ρ) (D := D) (F := F) (t := u) (o := o) (l := l) h1
   rwa [h2] at this
  ·exact .any
 | .ptr t i k => by
  rw [rnA]
  split
  ·rename_i u h
   obtain ⟨h1, h2⟩ := hf t u h
   have := Cv.ptr (m := mm) (ρ := ρ) (D := D) (F := F) (t := u) (i := i) (k := k) h1
   rwa [h2] at this
  ·exact .any
 | .mapr t => by
  rw [rnA]
  split
  ·rename_i u h
   obtain ⟨h1, h2⟩ := hf t u h
   have := Cv.mapr (m := mm) (ρ := ρ) (D := D) (F := F) (t := u) h1
   rwa [h2] at this
  ·exact .any
 | .agg cs => by
  rw [rnA]
  have := rnL_cv hf cs
  exact .agg this.1 this.2
 | .tup cs => by
  rw [rnA]
  have := rnL_cv hf cs
  exact .tup this.1 this.2
 | .clo g a b => by
  rw [rnA]
  have h1 := rnL_cv hf a
  have h2 := rnL_cv hf b
  exact .clo h1.1 h2.1 h1.2 h2.2
 | .any => .any
 | .emp => .same rfl
 | .guess p q => .same rfl
 | .lit v => .same rfl
 | .sl w r => .same rfl
 | .fptr e k => .same rfl
 | .fmap r => .same rfl
theorem rnL_cv (hf : ∀ t u, f t = some u → D u ∧ ρ u = t) : ∀ l : List AV, CvL mm ρ D F (rnL f l) l
 | [] => .nil
 | x :: r => by rw [rnL]; exact .cons (rnA_cv hf x) (rnL_cv hf r)
end
end
theorem rnA_cells (f : Nat → Option Nat) (x : AV) : (cells (rnA f x)).length = (cells x).length := by
 cases x with
 | agg cs => show (rnL f cs).length = cs.length; rw [rnL_eq, List.length_map]
 | own t o l => rw [rnA]; split <;> rfl
 | ptr t i k => rw [rnA]; split <;> rfl
 | mapr t => rw [rnA]; split <;> rfl
 | _ => rfl
theorem rnL_wide {f : Nat → Option Nat} {wd : Nat} {rows : List AV} (h : Wide wd rows) : Wide wd (rnL f rows) := by
 intro i r hr
 rw [rnL_eq, List.getElem?_map] at hr
 cases hx : rows[i]? with
 | none => rw [hx] at hr; cases hr
 | some x =>
  rw [hx] at hr
  cases hr
  rw [rnA_cells]
  exact h i x hx
def idxIn : List Nat → Nat → Nat → Option Nat
 | [], _, _ => none
 | x :: r, i, t => match Nat.beq x t with
  | true => some i
  | false => idxIn r (i + 1) t
theorem idxIn_ok : ∀ {ns : List Nat} {i t u : Nat}, idxIn ns i t = some u → i ≤ u ∧ ns[u - i]? = some t
 | [], _, _, _, h => by cases h
 | x :: r, i, t, u, h => by
  simp only [idxIn] at h
  split at h
  ·rename_i hb
   cases h
   exact ⟨Nat.le_refl _, by rw [Nat.sub_self, beq_eq hb]; rfl⟩
  ·obtain ⟨h1, h2⟩ := idxIn_ok h
   refine ⟨by omega, ?_⟩
   rw [show u - i = (u - (i + 1)) + 1 by omega]
   exact h2
def addN (S : ES) (t : Nat) (acc : List Nat) : List Nat := match mE S t with
 | .live _ _ false => match memR acc t with
  | true => acc
  | false => acc ++ [t]
 | _ => acc
mutual
def refA (S : ES) : AV → List Nat → List Nat
 | .own t _ _, acc => addN S t acc
 | .ptr t _ _, acc => addN S t acc
 | .mapr t, acc => addN S t acc
 | .agg cs, acc => refL S cs acc
 | .tup cs, acc => refL S cs acc
 | .clo _ a b, acc => refL S b (refL S a acc)
 | .any, acc => acc
 | .emp, acc => acc
 | .guess _ _, acc => acc
 | .lit _, acc => acc
 | .sl _ _, acc => acc
 | .fptr _ _, acc => acc
 | .fmap _, acc => acc
def refL (S : ES) : List AV → List Nat → List Nat
 | [], acc => acc
 | x :: r, acc => refL S r (refA S x acc)
end
def reachE : Nat → ES → Nat → List Nat → List Nat
 | 0, _, _, ns => ns
 | n + 1, S, i, ns => match getR ns i with
  | none => ns
  | some t => match mE S t with
   | .live _ rows false => reachE n S (i + 1) (refL S rows ns)
   | _ => reachE n S (i + 1) ns
abbrev CallT := FuncId → List MS → List AV → Option (List MS × AV)
def insE (S : ES) (f : Nat → Option Nat) : List Nat → Option (List MS)
 | [] => some []
 | t :: r => match mE S t, insE S f r with
  | .live wd rows false, some l => some (.live wd (rnL f rows) false :: l)
  | _, _ => none
def freshN : Nat → Nat → List Nat
 | _, 0 => []
 | n, k + 1 => n :: freshN (n + 1) k
def allFreeE (S : ES) : List Nat → Bool
 | [] => true
 | t :: r => match mE S t with
  | .free => allFreeE S r
  | _ => false
def newsE (f : Nat → Option Nat) : List MS → Option (List MS)
 | [] => some []
 | .live wd rows false :: r => match newsE f r with
  | some l => some (.live wd (rnL f rows) false :: l)
  | none => none
 | .dead :: r => match newsE f r with
  | some l => some (.dead :: l)
  | none => none
 | _ :: _ => none
def callE (callF : CallT) (S : ES) (g : FuncId) (ys : List AV) : Option ER :=
 match reachE 1000 S 0 (refL S ys []) with
 | ns => match insE S (idxIn ns 0) ns with
  | none => none
  | some ins => match callF g ins (rnL (idxIn ns 0) ys) with
   | none => none
   | some (outs, res) => match ns ++ freshN S.nx (outs.length - ns.length) with
    | names => match nodupN names, allFreeE S (freshN S.nx (outs.length - ns.length)), (Nat.ble ns.length outs.length && Nat.ble ns.length 1000000), newsE (fun i => names[i]?) outs with
     | true, true, true, some news => some (names, rnA (fun i => names[i]?) res, names.zip news, S.nx + (outs.length - ns.length))
     | _, _, _, _ => none
section
variable {P : Program} {N : Nat} {o : Oper} {S : ES}
theorem insE_ok {f : Nat → Option Nat} : ∀ {ns : List Nat} {ins : List MS}, insE S f ns = some ins → ins.length = ns.length ∧ ∀ (k : Nat) (s : MS) (t : Nat), ins[k]? = some s → ns[k]? = some t → ∃ wd rows, s = .live wd (rnL f rows) false ∧ mE S t = .live wd rows false
 | [], ins, h => by cases h; exact ⟨rfl, by simp⟩
 | t :: r, ins, h => by
  simp only [insE] at h
  split at h
  ·rename_i wd rows l hm hl
   cases h
   obtain ⟨h1, h2⟩ := insE_ok hl
   refine ⟨by simp [h1], fun k s t' hs ht => ?_⟩
   cases k with
   | zero => simp at hs ht; subst hs; subst ht; exact ⟨wd, rows, rfl, hm⟩
   | succ k => exact h2 k s t' (by simpa using hs) (by simpa using ht)
  ·cases h
theorem newsE_ok {f : Nat → Option Nat} : ∀ {outs news : List MS}, newsE f outs = some news → news.length = outs.length ∧ ∀ (k : Nat) (s : MS), news[k]? = some s → (∃ wd rows0, s = .live wd (rnL f rows0) false ∧ outs[k]? = some (.live wd rows0 false)) ∨ (s = .dead ∧ outs[k]? = some .dead)
 | [], news, h => by cases h; exact ⟨rfl, by simp⟩
 | s0 :: r, news, h => by
  unfold newsE at h
  split at h
  ·cases ‹s0 :: r = []›
  ·rename_i wd rows r' he
   cases he
   split at h
   ·rename_i l hl
    cases h
    obtain ⟨h1, h2⟩ := newsE_ok hl
    refine ⟨by simp [h1], fun k s hs => ?_⟩
    cases k with
    | zero => simp at hs; subst hs; exact .inl ⟨wd, rows, rfl, rfl⟩
    | succ k => simpa using h2 k s (by simpa using hs)
   ·cases h
  ·rename_i r' he
   cases he
   split at h
   ·rename_i l hl
    cases h
    obtain ⟨h1, h2⟩ := newsE_ok hl
    refine ⟨by simp [h1], fun k s hs => ?_⟩
    cases k with
    | zero => simp at hs; subst hs; exact .inr ⟨rfl, rfl⟩
    | succ k => simpa using h2 k s (by simpa using hs)
   ·cases h
  ·cases h
theorem freshN_len : ∀ (n k : Nat), (freshN n k).length = k
 | _, 0 => rfl
 | n, k + 1 => by simp [freshN, freshN_len (n + 1) k]
theorem allFreeE_ok : ∀ {l : List Nat}, allFreeE S l = true → ∀ t ∈ l, mE S t = .free
 | [], _, t, h => by cases h
 | u :: r, h, t, ht => by
  simp only [allFreeE] at h
  split at h
  ·rename_i hu
   rcases List.mem_cons.1 ht with h' | h'
   ·rw [h']; exact hu
   ·exact allFreeE_ok h t h'
  ·cases h
theorem callE_ok {callF : CallT} (hF : ∀ g ins args outs res, callF g ins args = some (outs, res) → FnOK P g ins args outs res ∧ Callable P g) (hd : dstok N o.dst = true) {g : FuncId} {ys : List AV} (hto : CallsTo (den S) o g ys) {q : ER} (h : callE callF S g ys = some q) : EffE P N o S q := by
 unfold callE at h
 generalize reachE 1000 S 0 (refL S ys []) = ns at h
 simp only at h
 split at h
 ·cases h
 ·rename_i ins hins
  split at h
  ·cases h
  ·rename_i outs res hcall
   generalize hnm : ns ++ freshN S.nx (outs.length - ns.length) = names at h
   split at h
   ·rename_i news g1 g2 g3 g4
    cases h
    obtain ⟨hfn, hc⟩ := hF _ _ _ _ _ hcall
    obtain ⟨i1, i2⟩ := insE_ok hins
    obtain ⟨n1, n2⟩ := newsE_ok g4
    have hnd := nodupN_ok g1
    rw [Bool.and_eq_true] at g3
    have hle := ble_le g3.1
    have hbg : ns.length ≤ bigT := Nat.le_trans (ble_le g3.2) (by decide)
    have hlen : names.length = outs.length := by rw [← hnm, List.length_append, freshN_len]; omega
    have hget : ∀ k t, ns[k]? = some t → names[k]? = some t := fun k t hk => by
     rw [← hnm, List.getElem?_append_left (List.getElem?_eq_some_iff.1 hk).1]; exact hk
    have hfwd : ∀ t u, idxIn ns 0 t = some u → u < ins.length ∧ names.getD u 0 = t := fun t u hu => by
     obtain ⟨_, h2⟩ := idxIn_ok hu
     rw [Nat.sub_zero] at h2
     refine ⟨by rw [i1]; exact (List.getElem?_eq_some_iff.1 h2).1, ?_⟩
     rw [List.getD_eq_getElem?_getD, hget u t h2]; rfl
    have hbwd : ∀ i u, names[i]? = some u → u ∈ names ∧ names.idxOf u = i := fun i u hu => by
     refine ⟨List.mem_of_getElem? hu, ?_⟩
     obtain ⟨hi, rfl⟩ := List.getElem?_eq_some_iff.1 hu
     exact idx_of hnd (List.getElem?_eq_getElem hi)
    have := EffOK.lend (P := P) (N := N) (o := o) (σ := den S) (news := news) names [] hto hc (rnL_cv hfwd ys) (by simp) (by simp) hnd (by rw [i1]; exact hbg) (by omega) (by omega)
     (fun k s t hs ht => by
      have hk : k < ns.length := by rw [← i1]; exact (List.getElem?_eq_some_iff.1 hs).1
      have ht' : ns[k]? = some t := by
       have := hget k ns[k] (List.getElem?_eq_getElem hk)
       rw [ht] at this
       rw [List.getElem?_eq_getElem hk, this]
      obtain ⟨wd, rows, e1, e2⟩ := i2 k s t hs ht'
      exact ⟨wd, rows, _, e1, by rw [mem_den]; exact e2, rnL_wide, rnL_cv hfwd rows⟩)
     (fun k t hk ht => by
      rw [mem_den]
      refine allFreeE_ok g2 t ?_
      rw [← hnm, List.getElem?_append_right (by omega)] at ht
      exact List.mem_of_getElem? ht)
     hfn (fun k s hs => by
      rcases n2 k s hs with ⟨wd, rows0, e1, e2⟩ | ⟨e1, e2⟩
      ·exact .inl ⟨wd, _, rows0, e1, e2, rnL_wide, rnL_cv hbwd rows0⟩
      ·exact .inr ⟨e1, e2⟩)
     (rnA_cv hbwd res) (dstok_spec hd)
    simpa [EffE] using this
   ·cases h
end
end Go.Am
namespace Go.Am
open Go Go.RowKit Go.Lib MapKept
def eqKey : Value → Value → Bool
 | .int k a, .int k' b => match Nat.beq (kIx k) (kIx k') with
  | true => decide (a = b)
  | false => false
 | .string a, .string b => decide (a = b)
 | _, _ => false
def keyOK : TypeDesc → Value → Bool
 | .int k, .int k' _ => Nat.beq (kIx k') (kIx k)
 | .string, .string _ => true
 | _, _ => false
theorem keyOK_ok {d : TypeDesc} {v : Value} (h : keyOK d v = true) : IsKey d v := by
 unfold keyOK at h
 split at h
 ·exact kIx_eq h
 ·trivial
 ·cases h
def entryOf : AV → Option (Value × AV)
 | .agg [.lit k, .tup [x]] => some (k, x)
 | _ => none
theorem entryOf_ok {r : AV} {k : Value} {x : AV} (h : entryOf r = some (k, x)) : r = entry k x := by
 unfold entryOf at h
 split at h
 ·cases h; rfl
 ·cases h
def findE (d : TypeDesc) (key : Value) : List AV → Nat → Option (Option (Nat × AV))
 | [], _ => some none
 | r :: rs, i => match entryOf r with
  | some (k, x) => match keyOK d k, findE d key rs (i + 1) with
   | true, some q => match eqKey k key with
    | true => some (some (i, x))
    | false => some q
   | _, _ => none
  | none => none
theorem eqKey_iff {d : TypeDesc} {a b : Value} (ha : IsKey d a) (hb : keyOK d b = true) : eqKey a b = true ↔ a = b := by
 unfold keyOK at hb
 split at hb
 ·rename_i k k' n'
  have e := kIx_eq hb
  cases a with
  | int k2 n2 =>
   have e2 : k2 = k := ha
   rw [e, e2]
   simp [eqKey]
  | _ => exact absurd ha (by simp [IsKey])
 ·cases a with
  | string s => simp [eqKey]
  | _ => exact absurd ha (by simp [IsKey])
 ·cases hb
theorem findE_ok {d : TypeDesc} {key : Value} (hk : keyOK d key = true) : ∀ {rows : List AV} {i : Nat} {q : Option (Nat × AV)}, findE d key rows i = some q → Ents d rows ∧
  match q with
  | some (j, x) => i ≤ j ∧ rows[j - i]? = some (entry key x)
  | none => ∀ r, entry key r ∉ rows
 | [], i, q, h => by cases h; exact ⟨Ents.nil, by simp⟩
 | r :: rs, i, q, h => by
  simp only [findE] at h
  split at h
  ·rename_i k x he
   have her := entryOf_ok he
   subst her
   split at h
   ·rename_i q' hkey hrest
    obtain ⟨e1, e2⟩ := findE_ok hk hrest
    have hkk := keyOK_ok hkey
    have hE : Ents d (entry k x :: rs) := fun r hr => by
     rcases List.mem_cons.1 hr with h' | h'
     ·exact ⟨k, x, h', hkk⟩
     ·exact e1 r h'
    split at h
    ·rename_i heq
     cases h
     have := (eqKey_iff hkk hk).1 heq
     subst this
     exact ⟨hE, Nat.le_refl _, by simp⟩
    ·rename_i hne
     cases h
     refine ⟨hE, ?_⟩
     cases q with
     | some p =>
      obtain ⟨j, y⟩ := p
      obtain ⟨h1, h2⟩ := e2
      refine ⟨by omega, ?_⟩
      rw [show j - i = (j - (i + 1)) + 1 by omega]
      exact h2
     | none =>
      intro r hr
      rcases List.mem_cons.1 hr with h' | h'
      ·have := (entry_inj h').1
       rw [(eqKey_iff hkk hk).2 this.symm] at hne
       cases hne
      ·exact e2 r h'
   ·cases h
  ·cases h
abbrev MEnv := List (Nat × TypeDesc × Value)
def MEnv.Good (P : Program) (Δ : MEnv) : Prop := ∀ p ∈ Δ, MapTy P p.1 p.2.1 p.2.2
def lkD : MEnv → Nat → Option (TypeDesc × Value)
 | [], _ => none
 | (k, d) :: r, t => match Nat.beq t k with
  | true => some d
  | false => lkD r t
theorem lkD_ok {P : Program} : ∀ {Δ : MEnv}, Δ.Good P → ∀ {t : Nat} {d : TypeDesc} {z : Value}, lkD Δ t = some (d, z) → MapTy P t d z
 | [], _, t, d, z, h => by cases h
 | (k, d0, z0) :: r, hg, t, d, z, h => by
  simp only [lkD] at h
  split at h
  ·rename_i hb
   cases h
   rw [beq_eq hb]
   exact hg _ (List.mem_cons_self ..)
  ·exact lkD_ok (fun p hp => hg p (List.mem_cons_of_mem _ hp)) h
def mkMapE (S : ES) : Option ER := match freeE S with
 | true => some ([S.nx], .mapr S.nx, [(S.nx, .live 2 [] false)], S.nx + 1)
 | false => none
def lookE (Δ : MEnv) (S : ES) (t : TypeId) (y x : Operand) (c : Bool) : Option ER :=
 match lkD Δ t, evE S y, evE S x with
 | some (d, z), .mapr tk, .lit key => match mE S tk, keyOK d key with
  | .live _ rows _, true => match findE d key rows 0 with
   | some (some (_, r)) => some ([tk], if c then .tup [r, .lit (.bool true)] else r, [], S.nx)
   | some none => some ([tk], if c then .tup [ofVal z, .lit (.bool false)] else ofVal z, [], S.nx)
   | none => none
  | _, _ => none
 | _, _, _ => none
def setMapE (Δ : MEnv) (S : ES) (t : TypeId) (y x v : Operand) : Option ER :=
 match lkD Δ t, evE S y, evE S x with
 | some (d, _), .mapr tk, .lit key => match mE S tk, keyOK d key with
  | .live wd rows false, true => match findE d key rows 0, Nat.beq wd 2, Nat.ble (rows.length + 2) maxLen with
   | some (some (i, _)), _, _ => some ([tk], .any, [(tk, .live wd (rows.set i (entry key (evE S v))) false)], S.nx)
   | some none, true, true => some ([tk], .any, [(tk, .live wd (rows ++ [entry key (evE S v)]) false)], S.nx)
   | _, _, _ => none
  | _, _ => none
 | _, _, _ => none
def byteE (Γ : TEnv) (S : ES) (t : TypeId) (y z : Operand) : Option ER :=
 match lkT Γ t, evE S y, intE (evE S z) with
 | some .str, .lit (.string s), some k => match getR s.data.toList k with
  | some c => some ([], .lit (.int .u8 c.toNat), [], S.nx)
  | none => none
 | _, _, _ => none
def lenME (Δ : MEnv) (S : ES) (t : TypeId) (y : Operand) : Option ER :=
 match lkD Δ t, evE S y with
 | some _, .mapr tk => match mE S tk with
  | .live _ rows _ => some ([tk], .lit (.int .i64 rows.length), [], S.nx)
  | _ => none
 | _, _ => none
def binE (Γ : TEnv) (S : ES) (o : Oper) (op : BinOp) (t : TypeId) (y z : Operand) : Option ER :=
 match op, evE S y, evE S z with
 | .add, .lit (.string a), .lit (.string b) => match Nat.ble (a.size + b.size) 9223372036854775807 with
  | true => some ([], .lit (.string (a ++ b)), [], S.nx)
  | false => none
 | .eql, .own _ _ (_ + 1), .lit v => match nilV v, lkT Γ t with
  | true, some (.sl ..) => some ([], .lit (.bool false), [], S.nx)
  | _, _ => plainE Γ S o
 | .neq, .own _ _ (_ + 1), .lit v => match nilV v, lkT Γ t with
  | true, some (.sl ..) => some ([], .lit (.bool true), [], S.nx)
  | _, _ => plainE Γ S o
 | .eql, .lit u, .lit v => match nilV u, nilV v, lkT Γ t with
  | true, true, some (.sl ..) => some ([], .lit (.bool true), [], S.nx)
  | _, _, _ => plainE Γ S o
 | .neq, .lit u, .lit v => match nilV u, nilV v, lkT Γ t with
  | true, true, some (.sl ..) => some ([], .lit (.bool false), [], S.nx)
  | _, _, _ => plainE Γ S o
 | _, _, _ => plainE Γ S o
theorem Sim.reslot {P : Program} {N : Nat} {w0 : World} {W0 : Nat → Prop} {L μ : Mu} {σ : AState} {a : Act} {w : World} (hs : Sim P N w0 W0 L μ σ a w) {sl : Nat → AV} (h : ∀ i v, Rep (Wr W0 μ σ.mem) μ w (σ.slots i) v → Rep (Wr W0 μ σ.mem) μ w (sl i) v) : Sim P N w0 W0 L μ ⟨sl, σ.mem⟩ a w where
 tsize := hs.tsize
 defers := hs.defers
 os := hs.os
 tape := hs.tape
 output := hs.output
 hsize := hs.hsize
 shp := hs.shp
 keep := hs.keep
 w0lt := hs.w0lt
 lentμ := hs.lentμ
 free := hs.free
 slots i := h i _ (hs.slots i)
 objs := hs.objs
 inj := hs.inj
 out := hs.out
 tabs := hs.tabs
theorem EffOK.sure {P : Program} {N : Nat} {o : Oper} {σ : AState} {rd : List Nat} {p q : Prop} {b : Bool} {ups : ML} (h : EffOK P N o σ rd (.guess p q) ups) (hb : (b = false ∧ ¬ p) ∨ (b = true ∧ ¬ q)) : EffOK P N o σ rd (.lit (.bool b)) ups := by
 intro σ2 h1 h2 w0 W0 L μ a w K Q hs hK
 refine h σ2 h1 h2 w0 W0 L μ a w K Q hs fun μ' a' w' hs' => ?_
 refine hK μ' a' w' ?_
 have := hs'.reslot (sl := (σ2.upd o.dst (.lit (.bool b)) ups).slots) (fun i v hv => by
  unfold AState.upd at hv ⊢
  cases hd : o.dst with
  | none => rw [hd] at hv; exact hv
  | some d =>
   rw [hd] at hv
   simp only [putS] at hv ⊢
   by_cases hi : i = d
   ·rw [if_pos hi] at hv ⊢
    cases hv with
    | guess g1 g2 =>
     rename_i c
     rcases hb with ⟨rfl, hp⟩ | ⟨rfl, hq⟩
     ·cases c with
      | true => exact absurd (g1 rfl) hp
      | false => exact .lit
     ·cases c with
      | true => exact .lit
      | false => exact absurd (g2 rfl) hq
   ·rw [if_neg hi] at hv ⊢; exact hv)
 exact this
section
variable {P : Program} {N : Nat} {Γ : TEnv} {Δ : MEnv} {o : Oper} {S : ES} {q : ER}
theorem mkMapE_ok (hd : dstok N o.dst = true) {t : TypeId} (ho : o.op = .makeMap t none) (h : mkMapE S = some q) : EffE P N o S q := by
 unfold mkMapE at h
 split at h
 ·rename_i hf
  cases h
  exact EffOK.makeMap (P := P) (N := N) (σ := den S) ho (freeE_ok hf) (dstok_spec hd)
 ·cases h
theorem lookE_ok (hΔ : Δ.Good P) (hd : dstok N o.dst = true) {t : TypeId} {y x : Operand} {c : Bool} (ho : o.op = .lookup t y x c) (h : lookE Δ S t y x c = some q) : EffE P N o S q := by
 unfold lookE at h
 split at h
 ·rename_i d z tk key ht hy hx
  have hT := lkD_ok hΔ ht
  split at h
  ·rename_i wd rows ro hm hk
   have hsrc : MapSrc (den S) (.mapr tk) rows [tk] := .own (by rw [mem_den]; exact hm)
   split at h
   ·rename_i j r hf
    cases h
    obtain ⟨e1, _, e3⟩ := findE_ok hk hf
    exact EffOK.lookup (P := P) (N := N) (σ := den S) ho (by rw [ev_den]; exact hy) hsrc (by rw [ev_den]; exact hx) hT (keyOK_ok hk) e1 e3 (dstok_spec hd)
   ·rename_i hf
    cases h
    obtain ⟨e1, e2⟩ := findE_ok hk hf
    exact EffOK.lookupNo (P := P) (N := N) (σ := den S) ho (by rw [ev_den]; exact hy) hsrc (by rw [ev_den]; exact hx) hT (keyOK_ok hk) e1 e2 (dstok_spec hd)
   ·cases h
  ·cases h
 ·cases h
theorem setMapE_ok (hΔ : Δ.Good P) (hd : dstok N o.dst = true) {t : TypeId} {y x v : Operand} (ho : o.op = .mapUpdate t y x v) (h : setMapE Δ S t y x v = some q) : EffE P N o S q := by
 unfold setMapE at h
 split at h
 ·rename_i d z tk key ht hy hx
  have hT := lkD_ok hΔ ht
  split at h
  ·rename_i wd rows hm hk
   split at h
   ·rename_i j r hf
    cases h
    obtain ⟨e1, _, e3⟩ := findE_ok hk hf
    exact EffOK.mapUpdate (P := P) (N := N) (σ := den S) ho (by rw [ev_den]; exact hy) (by rw [mem_den]; exact hm) (by rw [ev_den]; exact hx) (ev_den _ _) hT (keyOK_ok hk) e1 e3 (dstok_spec hd)
   ·rename_i hf hw hl
    cases h
    obtain ⟨e1, e2⟩ := findE_ok hk hf
    exact EffOK.mapUpdateNew (P := P) (N := N) (σ := den S) ho (by rw [ev_den]; exact hy) (by rw [mem_den]; exact hm) (by rw [ev_den]; exact hx) (ev_den _ _) hT (keyOK_ok hk) e1 e2 (by have := ble_le hl; omega) (beq_eq hw) (dstok_spec hd)
   ·cases h
  ·cases h
 ·cases h
theorem byteE_ok (hΓ : Γ.Good P) (hd : dstok N o.dst = true) {t : TypeId} {y z : Operand} (ho : o.op = .index t y z) (h : byteE Γ S t y z = some q) : EffE P N o S q := by
 unfold byteE at h
 split at h
 ·rename_i s k ht hy hz
  rw [lkT_eq] at ht
  have ok := hΓ.look ht
  obtain ⟨kd, hz'⟩ := intE_ok hz
  split at h
  ·rename_i c hc
   cases h
   rw [getR_eq] at hc
   exact EffOK.idxStr (P := P) (N := N) (σ := den S) ho (by rw [ev_den]; exact hy) (by rw [ev_den]; exact hz') ok.2.2.2 hc (dstok_spec hd)
  ·cases h
 ·cases h
theorem lenME_ok (hΔ : Δ.Good P) (hd : dstok N o.dst = true) {t : TypeId} {y : Operand} (ho : o.op = .call { callee := .builtin .len, args := #[y], argTypes := #[t] }) (h : lenME Δ S t y = some q) : EffE P N o S q := by
 unfold lenME at h
 split at h
 ·rename_i d tk ht hy
  obtain ⟨d1, z1⟩ := d
  have hT := lkD_ok hΔ ht
  split at h
  ·rename_i wd rows ro hm
   cases h
   exact EffOK.mapLen (P := P) (N := N) (σ := den S) ho (by rw [ev_den]; exact hy) (.own (by rw [mem_den]; exact hm)) hT (dstok_spec hd)
  ·cases h
 ·cases h
theorem binE_ok (hΓ : Γ.Good P) (hd : dstok N o.dst = true) {op : BinOp} {t yt : TypeId} {y z : Operand} (ho : o.op = .binOp op t y z yt) (h : binE Γ S o op t y z = some q) : EffE P N o S q := by
 unfold binE at h
 split at h
 ·rename_i a b hy hz
  split at h
  ·rename_i hn
   cases h
   have hn' := ble_le hn
   exact EffOK.binOp (P := P) (N := N) (σ := den S) ho (by rw [ev_den]; exact hy) (by rw [ev_den]; exact hz) (fun w => by simp [eqGuard, binOp, run_string_add_sum w a b hn']) (dstok_spec hd)
  ·cases h
 ·rename_i tk off n v hy hz
  split at h
  ·rename_i hn ht
   cases h
   rw [lkT_eq] at ht
   have ok := hΓ.look ht
   obtain ⟨_, _, te⟩ := ok.2.2.2.2
   rw [nilV_ok hn] at hz
   have := EffOK.eqNil (P := P) (N := N) (σ := den S) ho (.inl rfl) (by rw [ev_den]; exact hy) (by rw [ev_den]; exact hz) te.ty (.inl ⟨_, _, rfl⟩) (dstok_spec hd)
   rw [if_pos rfl] at this
   exact this.sure (.inl ⟨rfl, by omega⟩)
  ·exact plainE_ok hΓ hd h
 ·rename_i tk off n v hy hz
  split at h
  ·rename_i hn ht
   cases h
   rw [lkT_eq] at ht
   have ok := hΓ.look ht
   obtain ⟨_, _, te⟩ := ok.2.2.2.2
   rw [nilV_ok hn] at hz
   have := EffOK.eqNil (P := P) (N := N) (σ := den S) ho (.inr rfl) (by rw [ev_den]; exact hy) (by rw [ev_den]; exact hz) te.ty (.inl ⟨_, _, rfl⟩) (dstok_spec hd)
   rw [if_neg (by decide)] at this
   exact this.sure (.inr ⟨rfl, by omega⟩)
  ·exact plainE_ok hΓ hd h
 ·rename_i u v hy hz
  split at h
  ·rename_i hn hn' ht
   cases h
   rw [lkT_eq] at ht
   have ok := hΓ.look ht
   obtain ⟨_, _, te⟩ := ok.2.2.2.2
   rw [nilV_ok hn] at hy
   rw [nilV_ok hn'] at hz
   refine EffOK.binOp (P := P) (N := N) (σ := den S) ho (by rw [ev_den]; exact hy) (by rw [ev_den]; exact hz) (fun w => ?_) (dstok_spec hd)
   simp only [eqGuard, binOp, Op.equal]
   rw [show Op.maxDepth = 9999 + 1 from rfl]
   unfold Op.equalIn
   simp [run_underlying te.ty]
  ·exact plainE_ok hΓ hd h
 ·rename_i u v hy hz
  split at h
  ·rename_i hn hn' ht
   cases h
   rw [lkT_eq] at ht
   have ok := hΓ.look ht
   obtain ⟨_, _, te⟩ := ok.2.2.2.2
   rw [nilV_ok hn] at hy
   rw [nilV_ok hn'] at hz
   refine EffOK.binOp (P := P) (N := N) (σ := den S) ho (by rw [ev_den]; exact hy) (by rw [ev_den]; exact hz) (fun w => ?_) (dstok_spec hd)
   simp only [eqGuard, binOp, Op.equal]
   rw [show Op.maxDepth = 9999 + 1 from rfl]
   unfold Op.equalIn
   simp [run_underlying te.ty]
  ·exact plainE_ok hΓ hd h
 ·exact plainE_ok hΓ hd h
end
end Go.Am
namespace Go.Am
open Go
def reachB (ops : Array Oper) : Nat → Nat → Nat → Bool
 | 0, _, _ => false
 | n + 1, j, i => match ops[j]? with
  | none => false
  | some o => o.after.any fun e => Region.binds .any e && (e.on == i || reachB ops n e.on i)
def Closed (ops : Array Oper) (listed : Array Bool) : Prop := ∀ (m : Nat) (o : Oper), ops[m]? = some o → listed.getD m true = true → ∀ e ∈ o.after, Region.binds .any e = true → listed.getD e.on true = true
section
variable {P : Program} {N : Nat} {ops : Array Oper} {w0 : World} {W0 : Nat → Prop} {L μ : Mu} {σ : AState} {a : Act} {w : World}
theorem reach_listed {listed : Array Bool} (hc : Closed ops listed) : ∀ (n j i : Nat) (o : Oper), ops[j]? = some o → (∀ e ∈ o.after, Region.binds .any e = true → listed.getD e.on true = true) → reachB ops n j i = true → listed.getD i true = true
 | 0, _, _, _, _, _, h => by cases h
 | n + 1, j, i, o, hj, ha, h => by
  simp only [reachB, hj] at h
  rw [Array.any_eq_true] at h
  obtain ⟨k, hk, h⟩ := h
  simp only [Bool.and_eq_true, Bool.or_eq_true, beq_iff_eq] at h
  obtain ⟨hb, h⟩ := h
  have hl := ha _ (Array.getElem_mem hk) hb
  rcases h with h | h
  ·rw [← h]; exact hl
  ·cases hm : ops[(o.after[k]).on]? with
   | none => cases n with
    | zero => cases h
    | succ n => simp [reachB, hm] at h
   | some o' => exact reach_listed hc n _ i o' hm (hc _ o' hm hl) h
theorem Closed.set {listed : Array Bool} (hc : Closed ops listed) {j : Nat} {o : Oper} (hj : ops[j]? = some o) (ha : ∀ e ∈ o.after, Region.binds .any e = true → listed.getD e.on true = true) : Closed ops (listed.setIfInBounds j true) := by
 have up : ∀ i, listed.getD i true = true → (listed.setIfInBounds j true).getD i true = true := fun i h => by
  by_cases hij : j = i
  ·subst hij
   by_cases hlt : j < listed.size
   ·simp [hlt]
   ·rw [Array.getD_eq_getD_getElem?, Array.getElem?_eq_none (by simpa using hlt)]; rfl
  ·rw [getD_set_ne true hij]; exact h
 intro m o' hm hl e he hb
 by_cases hjm : j = m
 ·subst hjm
  rw [hj] at hm; cases hm
  exact up _ (ha e he hb)
 ·rw [getD_set_ne true hjm] at hl
  exact up _ (hc m o' hm hl e he hb)
theorem aAny_first2 {es : List Eff} {K : AState → Prop} {i : Nat} {x : Eff} (hf : ∀ (j : Nat) (e : Eff), es[j]? = some e → ops[j]? = some e.o) (hi : es[i]? = some x) :
  ∀ (fuel : Nat) (listed : Array Bool) (σ : AState), Closed ops listed →
   (∀ (j : Nat) (y : Eff), es[j]? = some y → j ≠ i → listed.getD j true = false → (∀ e ∈ y.o.after, Region.binds .any e = true → e.on ≠ i) → (∀ n, reachB ops n j i = false) → x.o.apart ops y.o = true ∧ tokApart x.toks y.toks = true) →
   i ∈ Region.ready .any ops listed → Holds ops x σ →
   aAny ops es K fuel (listed.setIfInBounds i true) (σ.app x) → aAny ops es K (fuel + 1) listed σ := by
 intro fuel
 induction fuel with
 | zero =>
  intro listed σ _ _ hr hy H
  refine ⟨fun h => (by rw [h] at hr; cases hr), fun j hj => ?_⟩
  by_cases hji : j = i
  ·subst hji; exact ⟨x, hi, hy, H⟩
  ·have := ready_mono hj hji
   rw [H.1] at this
   cases this
 | succ fuel ih =>
  intro listed σ hcl hfree hr hy H
  refine ⟨fun h => (by rw [h] at hr; cases hr), fun j hj => ?_⟩
  by_cases hji : j = i
  ·subst hji; exact ⟨x, hi, hy, H⟩
  ·obtain ⟨y, hy1, hy2, hy3⟩ := H.2 j (ready_mono hj hji)
   obtain ⟨hjun, oj, hoj, hall⟩ := mem_ready.1 hj
   have hoj' := hf j y hy1
   rw [hoj] at hoj'
   cases hoj'
   have hiun : ¬ listed.getD i true = true := fun h1 => by
    have h0 := (mem_ready.1 hr).1
    rcases Nat.lt_or_ge i listed.size with h' | h'
    ·simp [h'] at h0 h1; rw [h0] at h1; cases h1
    ·simp [Array.getElem?_eq_none h'] at h0
   have hnot : ∀ e ∈ y.o.after, Region.binds .any e = true → e.on ≠ i := fun e he hb heq => hiun (by
    have h1 := hall e he hb
    rw [heq] at h1
    rcases Nat.lt_or_ge i listed.size with h' | h'
    ·simp [h'] at h1 ⊢; exact h1
    ·simp [Array.getElem?_eq_none h'])
   have hall' : ∀ e ∈ y.o.after, Region.binds .any e = true → listed.getD e.on true = true := fun e he hb => by
    have h1 := hall e he hb
    rcases Nat.lt_or_ge e.on listed.size with h' | h'
    ·simp [h'] at h1 ⊢; exact h1
    ·simp [Array.getElem?_eq_none h']
   have hnr : ∀ n, reachB ops n j i = false := fun n => by
    cases hB : reachB ops n j i with
    | false => rfl
    | true => exact absurd (reach_listed hcl n j i y.o hoj hall' hB) hiun
   obtain ⟨hap, htok⟩ := hfree j y hy1 hji hjun hnot hnr
   obtain ⟨s1, s2, s3⟩ := Oper.apart_spec hap
   obtain ⟨t1, t2, t3⟩ := tokApart_spec htok
   have hyσ : Holds ops y σ := (Holds.app (x := x) s1 t1).1 hy2
   refine ⟨y, hy1, hyσ, ?_⟩
   refine ih (listed.setIfInBounds j true) (σ.app y) (hcl.set hoj hall') (fun k z hk hki hun hno hnr => ?_) (ready_mono hr (Ne.symm hji)) ((Holds.app (x := y) (y := x) s3 t3).2 hy) ?_
   ·refine hfree k z hk hki ?_ hno hnr
    by_cases hjk : j = k
    ·subst hjk; exact hjun
    ·rw [getD_set_ne true hjk] at hun; exact hun
   ·rw [← app_comm s2 htok, Array.setIfInBounds_comm _ _ hji]
    exact hy3
def tokOK2 (ops : Array Oper) (ts : List (List Nat × List Nat)) : Bool :=
 (List.range ts.length).all fun j => (List.range j).all fun i =>
  tokApart (ts.getD i ([], [])) (ts.getD j ([], [])) || reachB ops 4 j i
theorem tokOK2_spec {es : List Eff} (h : tokOK2 ops (es.map Eff.toks) = true) {i j : Nat} {x y : Eff} (hij : i < j) (hx : es[i]? = some x) (hy : es[j]? = some y)
  (hno : ∀ n, reachB ops n j i = false) : tokApart x.toks y.toks = true := by
 unfold tokOK2 at h
 have hj : j < es.length := (List.getElem?_eq_some_iff.1 hy).1
 have := List.all_eq_true.1 h j (by simpa using hj)
 have := List.all_eq_true.1 this i (by simpa using hij)
 simp only [List.getD_eq_getElem?_getD, List.getElem?_map, hx, hy, Option.map_some, Option.getD_some, Bool.or_eq_true] at this
 rcases this with h' | h'
 ·exact h'
 ·rw [hno] at h'; cases h'
theorem aAny_lex2 {es : List Eff} {K : AState → Prop} {l : List Oper} (hl : ops.toList = l) (hlen : es.length = l.length) (hf : ∀ (i : Nat) (e : Eff), es[i]? = some e → ops[i]? = some e.o)
  (hchain : ∀ (k : Nat) (e e' : Eff), es[k]? = some e → es[k + 1]? = some e' → e'.σ = e.σ.app e) (hlast : ∀ e, es.getLast? = some e → K (e.σ.app e))
  (htok : tokOK2 ops (es.map Eff.toks) = true) :
  ∀ (n k : Nat) (listed : Array Bool) (σ : AState), Closed ops listed → n + k = es.length → (∀ e, es[k]? = some e → e.σ = σ) → (n = 0 → K σ) → (∀ j, j < k → listed.getD j true = true) → listed.size = ops.size → Region.lexFrom .any ops n k listed = true →
   aAny ops es K n listed σ
 | 0, k, listed, σ, hcl, hn, hσ, hK, hlst, hsz, hB => ⟨by simpa [Region.lexFrom] using hB, hK rfl⟩
 | n + 1, k, listed, σ, hcl, hn, hσ, hK, hlst, hsz, hB => by
  simp only [Region.lexFrom, Bool.and_eq_true] at hB
  obtain ⟨⟨hr, hfr⟩, hB'⟩ := hB
  have hk : k < es.length := by omega
  obtain ⟨e, he⟩ : ∃ e, es[k]? = some e := ⟨es[k], by simp [hk]⟩
  have hσe := hσ e he
  have h0 := hf k e he
  have hall' : ∀ d ∈ e.o.after, Region.binds .any d = true → listed.getD d.on true = true := fun d hd hb => by
   obtain ⟨_, o1, ho1, hall⟩ := mem_ready.1 (show k ∈ Region.ready .any ops listed by simpa using hr)
   rw [h0] at ho1; cases ho1
   have h1 := hall d hd hb
   rcases Nat.lt_or_ge d.on listed.size with h' | h'
   ·simp [h'] at h1 ⊢; exact h1
   ·simp [Array.getElem?_eq_none h']
  refine aAny_first2 hf he n listed σ hcl (fun j y hy hjk hun hno hnr => ⟨Region.free_spec h0 hfr j y.o (hf j y hy) hjk hun hno, ?_⟩) (by simpa using hr) (by rw [← hσe]; exact Holds.self) ?_
  ·have hkj : k < j := by
    rcases Nat.lt_trichotomy j k with h | h | h
    ·rw [hlst j h] at hun; cases hun
    ·exact absurd h hjk
    ·exact h
   exact tokOK2_spec htok hkj he hy hnr
  ·refine aAny_lex2 hl hlen hf hchain hlast htok n (k + 1) _ _ (hcl.set h0 hall') (by omega) (fun e' he' => by rw [hchain k e e' he he', hσe]) (fun hn0 => ?_) (fun j hj => ?_) (by simp [hsz]) hB'
   ·rw [← hσe]
    refine hlast e ?_
    rw [List.getLast?_eq_getElem?, show es.length - 1 = k from by omega]; exact he
   ·by_cases hjk : k = j
    ·subst hjk
     have : k < listed.size := by
      have := (Array.getElem?_eq_some_iff.1 h0).1
      omega
     simp [this]
    ·rw [getD_set_ne true hjk]; exact hlst j (by omega)
theorem AReg.draws2 {rd : Option Nat} {Q : Exit → Act → World → Prop} {l : List Oper} {id : Nat} {K : AState → Prop} (hp : rd = none ∨ l.all plainO = true) (hm : P.follows .mixedOrders = true) (hB : Region.lexB .any l.toArray = true)
  (h : AReg P N l.toArray l σ (fun es σ' => tokOK2 l.toArray (es.map Eff.toks) = true ∧ K σ')) (hs : Sim P N w0 W0 L μ σ a w)
  (hK : ∀ σ', K σ' → ∀ μ' a' w', Sim P N w0 W0 L μ' σ' a' w' → Q .normal a' w') : (Code.region id l.toArray true).wpIn (wideR rd) 0 P Q a w := by
 simp only [Region.lexB, Bool.and_eq_true] at hB
 obtain ⟨es, σ', ⟨htok, hk⟩, h2, h3, _, h5, h6, h7, h8⟩ := AReg.trace h
 refine wpIn_region_any hm ?_
 have hf : ∀ (i : Nat) (e : Eff), es[i]? = some e → l.toArray[i]? = some e.o := fun i e he => by simpa using (h3 i e he).1
 refine aAny_soundIn (es := es) (K := K) (hp.imp (fun h => h) fun h i o ho => List.all_eq_true.1 h o (List.mem_of_getElem? (by simpa using ho))) (fun i e he => ⟨hf i e he, (h3 i e he).2⟩) hK _ _ σ μ a _ ?_ (hs.drawn _)
 have hsize : l.toArray.size = es.length := by simp [h2]
 rw [hsize]
 refine aAny_lex2 (l := l) (by simp) h2 hf h5 (fun e he => by rw [← h7 e he]; exact hk) htok es.length 0 _ σ (fun m o hm hl => ?_) (by omega) (fun e he => h6 e he) (fun h0 => ?_) (fun j hj => by omega) (by simp [h2]) (by rw [← hsize]; exact hB.2)
 ·have hlt := (Array.getElem?_eq_some_iff.1 hm).1
  simp at hl
  have : m < es.length := by rw [h2]; simpa using hlt
  simp [this] at hl
 ·rw [← h8 (List.eq_nil_of_length_eq_zero h0)]; exact hk
theorem AWp.draws2 {nL : Nat} {Q : Exit → AState → Prop} {id : Nat} {l : List Oper} (hm : P.follows .mixedOrders = true) (hB : Region.lexB .any l.toArray = true)
  (h : AReg P N l.toArray l σ (fun es σ' => tokOK2 l.toArray (es.map Eff.toks) = true ∧ Q .normal σ')) : AWp P N nL (.region id l.toArray true) Q σ := by
 intro rd hp w0 W0 L μ a w hL hs
 exact AReg.draws2 (hp.imp (fun h => h) fun h => by simpa [plainC] using h) hm hB h hs fun σ' hq μ' a' w' hs' => ⟨μ', σ', hq, hs'⟩
end
end Go.Am
namespace Go.Am
open Go Go.RowKit Go.Lib MapKept
structure EEnv where
 Γ : TEnv
 Δ : MEnv
 fns : List (Nat × Func)
 kinds : List (Nat × IntKind)
 orc : CallT
def lkF : List (Nat × Func) → Nat → Option Func
 | [], _ => none
 | (k, f) :: r, g => match Nat.beq g k with
  | true => some f
  | false => lkF r g
def lkK : List (Nat × IntKind) → Nat → Option IntKind
 | [], _ => none
 | (k, f) :: r, g => match Nat.beq g k with
  | true => some f
  | false => lkK r g
structure EEnv.Good (P : Program) (E : EEnv) : Prop where
 Γ : E.Γ.Good P
 Δ : E.Δ.Good P
 fns : ∀ p ∈ E.fns, P.funcs[p.1]? = some p.2 ∧ Callable P p.1
 kinds : ∀ p ∈ E.kinds, P.underlying p.1 = some (.int p.2)
 orc : ∀ g ins args outs res, E.orc g ins args = some (outs, res) → FnOK P g ins args outs res ∧ Callable P g
 orders : P.follows .mixedOrders = true
theorem lkF_mem : ∀ {l : List (Nat × Func)} {g : Nat} {f : Func}, lkF l g = some f → (g, f) ∈ l
 | [], _, _, h => by cases h
 | (k, f0) :: r, g, f, h => by
  simp only [lkF] at h
  split at h
  ·rename_i hb; cases h; rw [beq_eq hb]; exact List.mem_cons_self ..
  ·exact List.mem_cons_of_mem _ (lkF_mem h)
theorem lkK_mem : ∀ {l : List (Nat × IntKind)} {g : Nat} {f : IntKind}, lkK l g = some f → (g, f) ∈ l
 | [], _, _, h => by cases h
 | (k, f0) :: r, g, f, h => by
  simp only [lkK] at h
  split at h
  ·rename_i hb; cases h; rw [beq_eq hb]; exact List.mem_cons_self ..
  ·exact List.mem_cons_of_mem _ (lkK_mem h)
def convE (E : EEnv) (S : ES) (src dst : TypeId) (y : Operand) : Option ER :=
 match lkK E.kinds src, lkK E.kinds dst, evE S y with
 | some _, some k', .lit (.int _ n) => match decide (k'.wrap n = n) with
  | true => some ([], .lit (.int k' n), [], S.nx)
  | false => none
 | _, _, _ => none
def stepE (E : EEnv) (callF : CallT) (S : ES) (o : Oper) : Option ER :=
 match o.op with
 | .indexAddr t y z => idxE E.Γ S t y z
 | .slice t y lo hi mx => cutE E.Γ S t y lo hi mx
 | .buildSlice t len parts => litE E.Γ S t len parts.toList
 | .alloc t => allocE E.Γ S t
 | .box _ y => boxE S y
 | .makeMap _ hint => match hint with
  | none => mkMapE S
  | some _ => none
 | .lookup t y x c => lookE E.Δ S t y x c
 | .mapUpdate t y x v => setMapE E.Δ S t y x v
 | .index t y z => byteE E.Γ S t y z
 | .convert src dst y => convE E S src dst y
 | .binOp op t y z _ => binE E.Γ S o op t y z
 | .call c => match c.callee with
  | .value f => match f with
   | .func g => callE callF S g (c.args.toList.map (evE S))
   | f => match evE S f with
    | .clo (.func g) first cap => callE callF S g (first ++ c.args.toList.map (evE S) ++ cap)
    | .lit (.func (.func g) a b) => match a.toList, b.toList with
     | [], [] => callE callF S g (c.args.toList.map (evE S))
     | _, _ => none
    | _ => none
  | .builtin .append => match c.args.toList, c.argTypes.toList with
   | [y, z], [t, t2] => appE E.Γ S y z t t2
   | _, _ => none
  | .builtin .len => match c.args.toList, c.argTypes.toList with
   | [y], [t] => match lenME E.Δ S t y with
    | some q => some q
    | none => plainE E.Γ S o
   | _, _ => none
  | _ => plainE E.Γ S o
 | _ => plainE E.Γ S o
def opsE (E : EEnv) (callF : CallT) (N : Nat) (ds : List (Option Nat)) : List Oper → Tk → ES → Option (Tk × ES)
 | [], acc, S => some (acc, S)
 | o :: rest, acc, S => match dstB N o.dst with
  | false => none
  | true => match o.guard with
   | none => match stepE E callF S o with
    | some (rd, x, ups, nx) => opsE E callF N ds rest (acc ++ [(rd, ups.map Prod.fst)]) (applyE S o.dst x ups nx)
    | none => none
   | some (j, b) => match getR ds j with
    | some (some d) => match Nat.ble (d + 1) N, evE S (.tmp d) with
     | true, .lit v => match gv v b with
      | true => match stepE E callF S o with
       | some (rd, x, ups, nx) => opsE E callF N ds rest (acc ++ [(rd, ups.map Prod.fst)]) (applyE S o.dst x ups nx)
       | none => none
      | false => opsE E callF N ds rest (acc ++ [([], [])]) (applyE S o.dst (.lit undef) [] S.nx)
     | _, _ => none
    | _ => none
def codeE (E : EEnv) (callF : CallT) (N : Nat) : Nat → Code → ES → Option (Exit × ES)
 | 0, _, _ => none
 | n + 1, c, S => match c with
  | .skip => some (.normal, S)
  | .region _ ops dr => match opsE E callF N (ops.toList.map Oper.dst) ops.toList [] S with
   | some (acc, S') => match dr with
    | false => some (.normal, S')
    | true => match Region.lexB .any ops, tokOK2 ops acc with
     | true, true => some (.normal, S')
     | _, _ => none
   | none => none
  | .seq a b => match codeE E callF N n a S with
   | some (.normal, S') => codeE E callF N n b S'
   | r => r
  | .cond x a b => match evE S x with
   | .lit (.bool true) => codeE E callF N n a S
   | .lit (.bool false) => codeE E callF N n b S
   | _ => none
  | .block id c => match codeE E callF N n c S with
   | some (.exit j, S') => match Nat.beq j id with
    | true => some (.normal, S')
    | false => some (.exit j, S')
   | r => r
  | .exit i => some (.exit i, S)
  | .ret => some (.ret, S)
  | .label _ => some (.normal, S)
  | .loop c => match codeE E callF N n c S with
   | some (.normal, S') => codeE E callF N n (.loop c) S'
   | r => r
  | _ => none
theorem codeE_loop (E : EEnv) (callF : CallT) (N n : Nat) (c : Code) (S : ES) : codeE E callF N (n + 1) (.loop c) S = match codeE E callF N n c S with
   | some (.normal, S') => codeE E callF N n (.loop c) S'
   | r => r := rfl
def resE1 (Γ : TEnv) (S : ES) : ResultVar → Option AV
 | .tmp t => some (evE S (.tmp t))
 | .cell a t => match evE S (.tmp a) with
  | .ptr tk i k => match mE S tk with
   | .live _ rows _ => match getR rows i with
    | some r => loadB (lkT Γ t) r k
    | none => none
   | _ => none
  | _ => none
def resE (Γ : TEnv) (S : ES) : List ResultVar → Option (List AV)
 | [] => some []
 | rv :: r => match resE1 Γ S rv, resE Γ S r with
  | some x, some xs => some (x :: xs)
  | _, _ => none
def outsE (S : ES) (f : Nat → Option Nat) : List Nat → Option (List MS)
 | [] => some []
 | t :: r => match outsE S f r with
  | none => none
  | some l => match mE S t with
   | .live wd rows false => some (.live wd (rnL f rows) false :: l)
   | .live _ _ true => some (.dead :: l)
   | .dead => some (.dead :: l)
   | .free => none
def headN : Nat → Nat → List Nat → Bool
 | 0, _, _ => true
 | k + 1, i, t :: r => match Nat.beq t i with
  | true => headN k (i + 1) r
  | false => false
 | _ + 1, _, [] => false
def endE (Γ : TEnv) (nL : Nat) (rvs : List ResultVar) (S : ES) : Option (List MS × AV) :=
 match resE Γ S rvs with
 | none => none
 | some xs => match reachE 1000 S 0 (refA S (ret1 xs) (List.range nL)) with
  | ns => match outsE S (idxIn ns 0) ns, nodupN ns, headN nL 0 ns with
   | some outs, true, true => some (outs, rnA (idxIn ns 0) (ret1 xs))
   | _, _, _ => none
def initS : Nat → List AV → Tr AV
 | _, [] => .nil
 | k, x :: r => (initS (k + 1) r).put k x
def initM : Nat → List MS → Tr MS
 | _, [] => .nil
 | k, x :: r => (initM (k + 1) r).put k x
def runF (E : EEnv) (fuel : Nat) : Nat → CallT
 | 0 => fun _ _ _ => none
 | n + 1 => fun g ins args => match E.orc g ins args with
  | some r => some r
  | none => match lkF E.fns g with
   | none => none
   | some fn => match fn.body, Nat.ble args.length fn.ntmps with
    | some c, true => match codeE E (runF E fuel n) fn.ntmps fuel c ⟨initS 0 args, initM 0 ins, ins.length⟩ with
     | some (.normal, S) => endE E.Γ ins.length fn.results.toList S
     | some (.ret, S) => endE E.Γ ins.length fn.results.toList S
     | _ => none
    | _, _ => none
section
variable {P : Program} {E : EEnv} {callF : CallT} {N : Nat}
def GoodCalls (P : Program) (callF : CallT) : Prop := ∀ g ins args outs res, callF g ins args = some (outs, res) → FnOK P g ins args outs res ∧ Callable P g
theorem convE_ok {o : Oper} {S : ES} {q : ER} (hE : E.Good P) (hd : dstok N o.dst = true) {src dst : TypeId} {y : Operand} (ho : o.op = .convert src dst y) (h : convE E S src dst y = some q) : EffE P N o S q := by
 unfold convE at h
 split at h
 ·rename_i k0 k' k n h1 h2 hy
  split at h
  ·rename_i hn
   cases h
   have hn' := of_decide_eq_true hn
   have hs := hE.kinds _ (lkK_mem h1)
   have hdd := hE.kinds _ (lkK_mem h2)
   refine EffOK.convLit (P := P) (N := N) (σ := den S) ho (by rw [ev_den]; exact hy) (fun w => ?_) (dstok_spec hd)
   have hk : P.intKind dst = k' := by simp [Program.intKind, hdd]
   have := run_convert_int (P := P) w src dst k n (by rw [hs]; rfl) (by rw [hk]; exact hdd)
   rw [hk, hn'] at this
   exact this
  ·cases h
 ·cases h
theorem args_den (S : ES) (args : Array Operand) : args.toList.map (den S).eval = args.toList.map (evE S) := by
 apply List.map_congr_left; intro y _; exact ev_den S y
theorem stepE_ok {o : Oper} {S : ES} {q : ER} (hE : E.Good P) (hF : GoodCalls P callF) (hd : dstok N o.dst = true) (h : stepE E callF S o = some q) : EffE P N o S q := by
 unfold stepE at h
 split at h
 ·rename_i ho; exact idxE_ok hE.Γ hd ho h
 ·rename_i ho; exact cutE_ok hE.Γ hd ho h
 ·rename_i ho; exact litE_ok hE.Γ hd ho h
 ·rename_i ho; exact allocE_ok hE.Γ hd ho h
 ·rename_i ho; exact boxE_ok hd ho h
 ·rename_i ho
  split at h
  ·exact mkMapE_ok hd ho h
  ·cases h
 ·rename_i ho; exact lookE_ok hE.Δ hd ho h
 ·rename_i ho; exact setMapE_ok hE.Δ hd ho h
 ·rename_i ho; exact byteE_ok hE.Γ hd ho h
 ·rename_i ho; exact convE_ok hE hd ho h
 ·rename_i ho; exact binE_ok hE.Γ hd ho h
 ·rename_i c ho
  obtain ⟨callee, args, types⟩ := c
  simp only at h
  split at h
  ·split at h
   ·rw [← args_den] at h
    exact callE_ok hF hd (.func ho rfl) h
   ·split at h
    ·rename_i f hne g first cap hy
     rw [← args_den] at h
     exact callE_ok hF hd (.clo ho (by rw [ev_den]; exact hy)) h
    ·rename_i f hne g a b hy
     split at h
     ·rename_i ha hb
      obtain rfl : a = #[] := Array.ext' ha
      obtain rfl : b = #[] := Array.ext' hb
      rw [← args_den] at h
      exact callE_ok hF hd (.func ho (by rw [ev_den]; exact hy)) h
     ·cases h
    ·cases h
  ·split at h
   ·rename_i y z t t2 ea et
    obtain rfl : args = #[y, z] := Array.ext' ea
    obtain rfl : types = #[t, t2] := Array.ext' et
    exact appE_ok hE.Γ hd ho h
   ·cases h
  ·split at h
   ·rename_i y t ea et
    obtain rfl : args = #[y] := Array.ext' ea
    obtain rfl : types = #[t] := Array.ext' et
    split at h
    ·rename_i q' hq
     cases h
     exact lenME_ok hE.Δ hd ho hq
    ·exact plainE_ok hE.Γ hd h
   ·cases h
  ·exact plainE_ok hE.Γ hd h
 ·exact plainE_ok hE.Γ hd h
theorem opsE_ok (hE : E.Good P) (hF : GoodCalls P callF) {ops : Array Oper} : ∀ (l : List Oper) (acc : Tk) (S : ES) (acc' : Tk) (S' : ES), opsE E callF N (ops.toList.map Oper.dst) l acc S = some (acc', S') → AReg P N ops l (den S) (fun es σ' => σ' = den S' ∧ acc' = acc ++ es.map Eff.toks)
 | [], acc, S, acc', S', h => by
  cases h
  exact ⟨rfl, by simp⟩
 | o :: rest, acc, S, acc', S', h => by
  unfold opsE at h
  split at h
  ·cases h
  ·rename_i hd0
   have hd := dstB_ok hd0
   have go : Wanted N ops o (den S) true → ∀ {q : ER}, stepE E callF S o = some q → opsE E callF N (ops.toList.map Oper.dst) rest (acc ++ [(q.1, q.2.2.1.map Prod.fst)]) (applyE S o.dst q.2.1 q.2.2.1 q.2.2.2) = some (acc', S') →
     AReg P N ops (o :: rest) (den S) (fun es σ' => σ' = den S' ∧ acc' = acc ++ es.map Eff.toks) := by
    intro hw q hq hr
    refine ⟨⟨o, true, den S, q.1, q.2.1, q.2.2.1⟩, rfl, rfl, ⟨hw, dstok_spec hd, fun _ => stepE_ok hE hF hd hq, fun h => by cases h⟩, ?_⟩
    have := opsE_ok hE hF rest _ _ _ _ hr
    rw [den_apply] at this
    refine AReg.post ?_ this
    rintro es σ' ⟨h1, h2⟩
    exact ⟨h1, by rw [h2]; simp [Eff.toks]⟩
   have skip : Wanted N ops o (den S) false → opsE E callF N (ops.toList.map Oper.dst) rest (acc ++ [([], [])]) (applyE S o.dst (.lit undef) [] S.nx) = some (acc', S') →
     AReg P N ops (o :: rest) (den S) (fun es σ' => σ' = den S' ∧ acc' = acc ++ es.map Eff.toks) := by
    intro hw hr
    refine ⟨⟨o, false, den S, [], .lit undef, []⟩, rfl, rfl, ⟨hw, dstok_spec hd, (fun h => by cases h), fun _ => ⟨rfl, rfl⟩⟩, ?_⟩
    have := opsE_ok hE hF rest _ _ _ _ hr
    rw [den_apply] at this
    refine AReg.post ?_ this
    rintro es σ' ⟨h1, h2⟩
    exact ⟨h1, by rw [h2]; simp [Eff.toks]⟩
   split at h
   ·rename_i hg
    split at h
    ·rename_i rd x ups nx hq
     exact go (by simp [Wanted, hg]) hq h
    ·cases h
   ·rename_i j b hg
    split at h
    ·rename_i d hj
     rw [getR_eq, List.getElem?_map] at hj
     have hj' : (ops[j]?).bind (·.dst) = some d := by
      rw [← Array.getElem?_toList]
      cases ho : ops.toList[j]? with
      | none => rw [ho] at hj; cases hj
      | some o' => rw [ho] at hj; simpa using hj
     split at h
     ·rename_i v hN hv
      have hw : Wanted N ops o (den S) (gv v b) := by
       simp only [Wanted, hg]
       exact ⟨d, v, hj', ble_le hN, hv, rfl⟩
      split at h
      ·rename_i hb
       rw [hb] at hw
       split at h
       ·rename_i rd x ups nx hq
        exact go hw hq h
       ·cases h
      ·rename_i hb
       rw [hb] at hw
       exact skip hw h
     ·cases h
    ·cases h
def AtE (e : Exit) (S : ES) : Exit → AState → Prop := fun e' σ => e' = e ∧ σ = den S
theorem codeE_ok (hE : E.Good P) (hF : GoodCalls P callF) {nL : Nat} : ∀ (n : Nat) (c : Code) (S : ES) (e : Exit) (S' : ES), codeE E callF N n c S = some (e, S') → AWp P N nL c (AtE e S') (den S) := by
 intro n
 induction n using Nat.strongRecOn with
 | _ n ih =>
  intro c S e S' h
  cases n with
  | zero => cases h
  | succ n =>
   have ihn := ih n (Nat.lt_succ_self n)
   unfold codeE at h
   split at h
   ·cases h; exact AWp.skip ⟨rfl, rfl⟩
   ·rename_i id ops dr
    split at h
    ·rename_i acc S1 hops
     have h1 := opsE_ok hE hF (ops := ops) ops.toList [] S acc S1 hops
     obtain ⟨l⟩ := ops
     split at h
     ·cases h
      refine AWp.region (AReg.post ?_ h1)
      rintro es σ' ⟨h2, _⟩
      exact ⟨rfl, h2⟩
     ·split at h
      ·rename_i g1 g2
       cases h
       refine AWp.draws2 hE.orders g1 (AReg.post ?_ h1)
       rintro es σ' ⟨h2, h3⟩
       refine ⟨?_, rfl, h2⟩
       simp only [List.nil_append] at h3
       rw [← h3]; exact g2
      ·cases h
    ·cases h
   ·rename_i a b
    refine AWp.seq ?_
    split at h
    ·rename_i S1 h1
     refine (ihn a S _ _ h1).mono ?_
     rintro e' σ ⟨rfl, rfl⟩
     exact ihn b S1 _ _ h
    ·rename_i hne
     cases hr : codeE E callF N n a S with
     | none => rw [hr] at h; cases h
     | some p =>
      obtain ⟨e1, S1⟩ := p
      rw [hr] at h
      cases h
      refine (ihn a S _ _ hr).mono ?_
      rintro e' σ ⟨rfl, rfl⟩
      cases e' with
      | normal => exact absurd hr (hne _)
      | _ => exact ⟨rfl, rfl⟩
   ·rename_i x a b
    split at h
    ·rename_i hx
     exact AWp.cond (by rw [ev_den]; exact hx) (fun _ => ihn a S _ _ h) (fun hb => by cases hb)
    ·rename_i hx
     exact AWp.cond (by rw [ev_den]; exact hx) (fun hb => by cases hb) (fun _ => ihn b S _ _ h)
    ·cases h
   ·rename_i id c
    refine AWp.block ?_
    split at h
    ·rename_i j S1 h1
     refine (ihn c S _ _ h1).mono ?_
     rintro e' σ ⟨rfl, rfl⟩
     simp only [inBlockA]
     split at h
     ·rename_i hj; cases h; rw [if_pos (beq_eq hj)]; exact ⟨rfl, rfl⟩
     ·rename_i hj
      cases h
      rw [if_neg (fun e => by rw [e, Nat.beq_refl] at hj; cases hj)]
      exact ⟨rfl, rfl⟩
    ·rename_i hne
     cases hr : codeE E callF N n c S with
     | none => rw [hr] at h; cases h
     | some p =>
      obtain ⟨e1, S1⟩ := p
      rw [hr] at h
      cases h
      refine (ihn c S _ _ hr).mono ?_
      rintro e' σ ⟨rfl, rfl⟩
      cases e' with
      | exit j => exact absurd hr (hne j _)
      | _ => exact ⟨rfl, rfl⟩
   ·cases h; exact AWp.exit ⟨rfl, rfl⟩
   ·cases h; exact AWp.ret ⟨rfl, rfl⟩
   ·cases h; exact AWp.label ⟨rfl, rfl⟩
   ·rename_i c
    have h' : codeE E callF N (n + 1) (.loop c) S = some (e, S') := by unfold codeE; exact h
    refine AWp.loop (I := fun k σ => k ≤ n + 1 ∧ ∃ S1, σ = den S1 ∧ codeE E callF N k (.loop c) S1 = some (e, S')) ⟨n + 1, Nat.le_refl _, S, rfl, h'⟩ ?_
    rintro k σ ⟨hk, S1, rfl, hk1⟩
    cases k with
    | zero => cases hk1
    | succ k =>
     rw [codeE_loop] at hk1
     have ihk := ih k (by omega)
     split at hk1
     ·rename_i S2 h2
      refine (ihk c S1 _ _ h2).mono ?_
      rintro e' σ ⟨rfl, rfl⟩
      exact ⟨k, Nat.lt_succ_self k, by omega, S2, rfl, hk1⟩
     ·rename_i hne
      cases hr : codeE E callF N k c S1 with
      | none => rw [hr] at hk1; cases hk1
      | some p =>
       obtain ⟨e1, S2⟩ := p
       rw [hr] at hk1
       cases hk1
       refine (ihk c S1 _ _ hr).mono ?_
       rintro e' σ ⟨rfl, rfl⟩
       cases e' with
       | normal => exact absurd hr (hne _)
       | _ => exact ⟨rfl, rfl⟩
   ·cases h
end
section
variable {P : Program} {E : EEnv} {N : Nat}
theorem initS_get : ∀ (l : List AV) (k i : Nat), (initS k l).get i = if k ≤ i then l[i - k]? else none
 | [], k, i => by simp [initS, Tr.get]
 | x :: r, k, i => by
  simp only [initS, Tr.get_put, initS_get r (k + 1) i]
  by_cases h : i = k
  ·subst h; simp
  ·rw [if_neg h]
   by_cases h2 : k ≤ i
   ·rw [if_pos h2, if_pos (by omega), show i - k = (i - (k + 1)) + 1 by omega]; rfl
   ·rw [if_neg h2, if_neg (by omega)]
theorem initM_get : ∀ (l : List MS) (k i : Nat), (initM k l).get i = if k ≤ i then l[i - k]? else none
 | [], k, i => by simp [initM, Tr.get]
 | x :: r, k, i => by
  simp only [initM, Tr.get_put, initM_get r (k + 1) i]
  by_cases h : i = k
  ·subst h; simp
  ·rw [if_neg h]
   by_cases h2 : k ≤ i
   ·rw [if_pos h2, if_pos (by omega), show i - k = (i - (k + 1)) + 1 by omega]; rfl
   ·rw [if_neg h2, if_neg (by omega)]
theorem den_init (args : List AV) (ins : List MS) (nx : Nat) : den ⟨initS 0 args, initM 0 ins, nx⟩ = ⟨fun i => args.getD i .any, objsOf ins⟩ := by
 unfold den
 congr 1
 ·funext i
  simp only [evE, initS_get, Nat.zero_le, if_true, Nat.sub_zero, List.getD_eq_getElem?_getD]
  cases args[i]? <;> rfl
 ·funext t
  simp only [mE, initM_get, Nat.zero_le, if_true, Nat.sub_zero, objsOf]
  cases ins[t]? <;> rfl
theorem resE_ok (hΓ : E.Γ.Good P) {S : ES} : ∀ {rvs : List ResultVar} {xs : List AV}, resE E.Γ S rvs = some xs → ResL P (den S) rvs xs
 | [], xs, h => by cases h; trivial
 | rv :: rvs, xs, h => by
  simp only [resE] at h
  split at h
  ·rename_i x ys h1 h2
   cases h
   refine ⟨?_, resE_ok hΓ h2⟩
   cases rv with
   | tmp t =>
    simp only [resE1, Option.some.injEq] at h1
    exact h1
   | cell a t =>
    simp only [resE1] at h1
    split at h1
    ·rename_i tk i k ha
     split at h1
     ·rename_i wd rows ro hm
      split at h1
      ·rename_i r hr
       rw [getR_eq] at hr
       exact ⟨tk, i, k, wd, rows, ro, r, ha, hm, hr, loadA_ok hΓ (by rw [← lkT_eq, ← loadB_eq]; exact h1)⟩
      ·cases h1
     ·cases h1
    ·cases h1
  ·cases h
theorem outsE_ok {S : ES} {f : Nat → Option Nat} : ∀ {ns : List Nat} {outs : List MS}, outsE S f ns = some outs → outs.length = ns.length ∧ ∀ (k : Nat) (s : MS) (t : Nat), outs[k]? = some s → ns[k]? = some t →
  (∃ wd rows, s = .live wd (rnL f rows) false ∧ mE S t = .live wd rows false) ∨ (s = .dead ∧ mE S t ≠ .free)
 | [], outs, h => by cases h; exact ⟨rfl, by simp⟩
 | t :: r, outs, h => by
  simp only [outsE] at h
  split at h
  ·cases h
  ·rename_i l hl
   obtain ⟨h1, h2⟩ := outsE_ok hl
   have cons : ∀ s0, ((∃ wd rows, s0 = .live wd (rnL f rows) false ∧ mE S t = .live wd rows false) ∨ (s0 = .dead ∧ mE S t ≠ .free)) → (s0 :: l).length = (t :: r).length ∧ ∀ (k : Nat) (s : MS) (u : Nat), (s0 :: l)[k]? = some s → (t :: r)[k]? = some u →
     (∃ wd rows, s = .live wd (rnL f rows) false ∧ mE S u = .live wd rows false) ∨ (s = .dead ∧ mE S u ≠ .free) := by
    intro s0 h0
    refine ⟨by simp [h1], fun k s u hs hu => ?_⟩
    cases k with
    | zero => simp at hs hu; subst hs; subst hu; exact h0
    | succ k => exact h2 k s u (by simpa using hs) (by simpa using hu)
   split at h
   ·rename_i wd rows hm; cases h; exact cons _ (.inl ⟨wd, rows, rfl, hm⟩)
   ·rename_i wd rows hm; cases h; exact cons _ (.inr ⟨rfl, by rw [hm]; simp⟩)
   ·rename_i hm; cases h; exact cons _ (.inr ⟨rfl, by rw [hm]; simp⟩)
   ·cases h
theorem headN_ok : ∀ {k i : Nat} {ns : List Nat}, headN k i ns = true → ∀ j, j < k → ns[j]? = some (i + j)
 | 0, _, _, _, j, hj => by omega
 | k + 1, i, [], h, _, _ => by cases h
 | k + 1, i, t :: r, h, j, hj => by
  simp only [headN] at h
  split at h
  ·rename_i hb
   have := beq_eq hb
   subst this
   cases j with
   | zero => rfl
   | succ j =>
    have := headN_ok h j (by omega)
    rw [show t + (j + 1) = t + 1 + j by omega]
    exact this
  ·cases h
theorem endE_ok (hΓ : E.Γ.Good P) {S : ES} {nL : Nat} {fn : Func} {outs : List MS} {res : AV} (h : endE E.Γ nL fn.results.toList S = some (outs, res)) {w0 : World} {W0 : Nat → Prop} {L μ : Mu} {a : Act} {w : World} (hL : ∀ t, nL ≤ t → t < bigT → L t = none) (hs : Sim P N w0 W0 L μ (den S) a w) :
  ∃ v, (results fn a.tmps).run P w = .ok v w ∧ ∃ μ', Sim P 0 w0 W0 L μ' (bare outs) noAct w ∧ Rep (Wr W0 μ' (objsOf outs)) μ' w res v := by
 unfold endE at h
 split at h
 ·cases h
 ·rename_i xs hxs
  generalize reachE 1000 S 0 (refA S (ret1 xs) (List.range nL)) = ns at h
  simp only at h
  split at h
  ·rename_i outs' g1 g2 g3
   cases h
   have hres := (resE_ok hΓ hxs).get
   obtain ⟨v, v1, v2⟩ := results_run hs hres.1 hres.2
   refine ⟨v, v1, ?_⟩
   obtain ⟨o1, o2⟩ := outsE_ok g1
   have hnd := nodupN_ok g2
   have hhd : ∀ j, j < nL → ns[j]? = some j := fun j hj => by have := headN_ok g3 j hj; simpa using this
   have hlive : ∀ t, objsOf outs t ≠ .free → ∃ u, ns[t]? = some u := fun t ht => by
    unfold objsOf at ht
    cases ho : outs[t]? with
    | none => rw [ho] at ht; exact absurd rfl ht
    | some s =>
     have : t < ns.length := by rw [← o1]; exact (List.getElem?_eq_some_iff.1 ho).1
     exact ⟨_, List.getElem?_eq_getElem this⟩
   have hget : ∀ t u, ns[t]? = some u → ns.getD t 0 = u := fun t u h => by rw [List.getD_eq_getElem?_getD, h]; rfl
   have hnf : ∀ t u, ns[t]? = some u → objsOf outs t ≠ .free := fun t u hu => by
    have hlt : t < outs.length := by rw [o1]; exact (List.getElem?_eq_some_iff.1 hu).1
    unfold objsOf
    rw [List.getElem?_eq_getElem hlt]
    rcases o2 t _ u (List.getElem?_eq_getElem hlt) hu with ⟨wd, rows, e, _⟩ | ⟨e, _⟩
    ·rw [e]; simp
    ·rw [e]; simp
   have hf : ∀ t u, idxIn ns 0 t = some u → objsOf outs u ≠ .free ∧ ns.getD u 0 = t := fun t u hu => by
    obtain ⟨_, h2⟩ := idxIn_ok hu
    rw [Nat.sub_zero] at h2
    exact ⟨hnf u t h2, hget u t h2⟩
   have hw : Weaker nL (fun t => ns.getD t 0) (fun _ => False) (bare outs) (den S) := by
    refine ⟨fun i => .any, fun t => ?_, fun t t' h1 h2 he => ?_, fun s h => h.elim, fun t ht hne => ?_⟩
    ·by_cases hfr : objsOf outs t = .free
     ·exact .inl hfr
     ·right
      obtain ⟨u, hu⟩ := hlive t hfr
      have hlt : t < outs.length := by rw [o1]; exact (List.getElem?_eq_some_iff.1 hu).1
      have hmem : (bare outs).mem t = outs[t] := by show objsOf outs t = _; unfold objsOf; rw [List.getElem?_eq_getElem hlt]; rfl
      have hden : (den S).mem (ns.getD t 0) = mE S u := by rw [hget t u hu]; rfl
      rcases o2 t _ u (List.getElem?_eq_getElem hlt) hu with ⟨wd, rows, e1, e2⟩ | ⟨e1, e2⟩
      ·right
       refine ⟨wd, rnL (idxIn ns 0) rows, rows, false, false, by rw [hmem]; exact e1, by rw [hden]; exact e2, id, ?_, rnL_cv hf rows⟩
       obtain ⟨B, _, hB⟩ := hs.objs u wd rows false e2
       exact rnL_wide hB.wide
      ·left
       exact ⟨by rw [hmem]; exact e1, by rw [hden]; exact e2⟩
    ·obtain ⟨u, hu⟩ := hlive t h1
     obtain ⟨u', hu'⟩ := hlive t' h2
     have he' : u = u' := by
      have h3 := hget t u hu
      have h4 := hget t' u' hu'
      rw [← h3, ← h4]
      exact he
     subst he'
     have e1 := idx_of hnd hu
     have e2 := idx_of hnd hu'
     rw [← e1, e2]
    ·have h1 := hhd t ht
     exact ⟨hget t t h1, hnf t t h1⟩
   obtain ⟨μ', hs', hrep⟩ := hw.sim hL hs (N' := 0) (a' := noAct) (.inr ⟨fun _ => rfl, rfl, rfl⟩)
   exact ⟨μ', hs', hrep _ _ _ (rnA_cv hf _) v2⟩
  ·cases h
theorem runF_ok (hE : E.Good P) (fuel : Nat) : ∀ n, GoodCalls P (runF E fuel n)
 | 0 => fun g ins args outs res h => by cases h
 | n + 1 => fun g ins args outs res h => by
  unfold runF at h
  split at h
  ·rename_i r ho
   cases h
   exact hE.orc _ _ _ _ _ ho
  ·split at h
   ·cases h
   ·rename_i fn hfn
    obtain ⟨hf, hc⟩ := hE.fns _ (lkF_mem hfn)
    refine ⟨?_, hc⟩
    split at h
    ·rename_i c hb hlen0
     have hlen := ble_le hlen0
     have run : ∀ e S, codeE E (runF E fuel n) fn.ntmps fuel c ⟨initS 0 args, initM 0 ins, ins.length⟩ = some (e, S) → (e = .normal ∨ e = .ret) → endE E.Γ ins.length fn.results.toList S = some (outs, res) → FnOK P g ins args outs res := by
      intro e S hcode he hend
      intro w W0 L vs hL hs hr
      have h1 := codeE_ok (nL := ins.length) hE (runF_ok hE fuel n) _ _ _ _ _ hcode
      rw [den_init] at h1
      have hsim : Sim P fn.ntmps w W0 L L ⟨fun i => args.getD i .any, objsOf ins⟩ { tmps := vs.toArray ++ Array.replicate (fn.ntmps - vs.toArray.size) undef, defers := [] } w := by
       refine ⟨?_, .nil, hs.os, hs.tape, hs.output, hs.hsize, hs.shp, hs.keep, hs.w0lt, hs.lentμ, hs.free, fun i => ?_, hs.objs, hs.inj, hs.out, hs.tabs⟩
       ·simp [hr.1]; omega
       ·by_cases hi : i < args.length
        ·have h1 : args[i]? = some args[i] := List.getElem?_eq_getElem hi
         have h2 : vs[i]? = some (vs[i]'(by rw [hr.1]; exact hi)) := List.getElem?_eq_getElem _
         have := hr.2 i _ _ h1 h2
         have hv : (vs.toArray ++ Array.replicate (fn.ntmps - vs.toArray.size) undef).getD i undef = vs[i]'(by rw [hr.1]; exact hi) := by
          rw [Array.getD_eq_getD_getElem?, Array.getElem?_append_left (by simp; rw [hr.1]; exact hi)]
          simp [h2]
         simp only [hv, List.getD_eq_getElem?_getD, h1, Option.getD_some]
         exact this
        ·simp only [List.getD_eq_getElem?_getD, List.getElem?_eq_none (Nat.le_of_not_lt hi), Option.getD_none]
         exact .any
      refine calls_of_awp hf hb h1 (fun t ht => hL t (by omega)) hsim (fun e' σ' ⟨he', _⟩ => he' ▸ he) ?_
      rintro e' σ' μ' a' w' ⟨rfl, rfl⟩ hs' hd
      obtain ⟨v, v1, μ'', h3, h4⟩ := endE_ok hE.Γ hend (fun t ht _ => hL t ht) hs'
      exact ⟨v, v1, v, μ'', rfl, h3, h4⟩
     split at h
     ·rename_i S hcode; exact run _ _ hcode (.inl rfl) h
     ·rename_i S hcode; exact run _ _ hcode (.inr rfl) h
     ·cases h
    ·cases h
theorem FnOK.run (hE : E.Good P) (fuel n : Nat) {g : FuncId} {ins outs : List MS} {args : List AV} {res : AV} (h : runF E fuel n g ins args = some (outs, res)) : FnOK P g ins args outs res := (runF_ok hE fuel n _ _ _ _ _ h).1
end
end Go.Am
namespace Go.Am
open Go
def eqNs : List Nat → List Nat → Bool
 | [], [] => true
 | x :: xs, y :: ys => match Nat.beq x y with
  | true => eqNs xs ys
  | false => false
 | _, _ => false
theorem eqNs_ok : ∀ {a b : List Nat}, eqNs a b = true → a = b
 | [], [], _ => rfl
 | x :: xs, y :: ys, h => by
  simp only [eqNs] at h
  split at h
  ·rename_i hb; rw [Nat.eq_of_beq_eq_true hb, eqNs_ok h]
  ·cases h
 | [], _ :: _, h => by cases h
 | _ :: _, [], h => by cases h
def eqV : Value → Value → Bool
 | .bool a, .bool b => match a, b with
  | true, true => true
  | false, false => true
  | _, _ => false
 | .int k a, .int l b => match decide (k = l) with
  | true => decide (a = b)
  | false => false
 | .string a, .string b => eqNs (a.data.toList.map UInt8.toNat) (b.data.toList.map UInt8.toNat)
 | .pointer none, .pointer none => true
 | .slice none a b, .slice none c d => match Nat.beq a c with
  | true => Nat.beq b d
  | false => false
 | .map none, .map none => true
 | .nilFunc, .nilFunc => true
 | .nilIface, .nilIface => true
 | _, _ => false
theorem eqV_ok : ∀ {a b : Value}, eqV a b = true → a = b := by
 intro a b h
 unfold eqV at h
 split at h
 ·rename_i a b; cases a <;> cases b <;> first | rfl | cases h
 ·split at h
  ·rename_i hk; rw [of_decide_eq_true hk, of_decide_eq_true h]
  ·cases h
 ·rename_i a b
  have h1 := eqNs_ok h
  have h2 : a.data.toList = b.data.toList := List.map_inj_right (fun x y => UInt8.toNat_inj.1) |>.1 h1
  have h3 : a.data = b.data := Array.ext' h2
  cases a; cases b; simp only at h3; rw [h3]
 ·rfl
 ·split at h
  ·rename_i hk; rw [Nat.eq_of_beq_eq_true hk, Nat.eq_of_beq_eq_true h]
  ·cases h
 ·rfl
 ·rfl
 ·rfl
 ·cases h
mutual
def eqA : AV → AV → Bool
 | .lit a, y => match y with
  | .lit b => eqV a b
  | _ => false
 | .ptr a b c, y => match y with
  | .ptr d e f => eqNs [a, b, c] [d, e, f]
  | _ => false
 | .own a b c, y => match y with
  | .own d e f => eqNs [a, b, c] [d, e, f]
  | _ => false
 | .mapr a, y => match y with
  | .mapr b => Nat.beq a b
  | _ => false
 | .agg a, y => match y with
  | .agg b => eqAs a b
  | _ => false
 | .tup a, y => match y with
  | .tup b => eqAs a b
  | _ => false
 | _, _ => false
def eqAs : List AV → List AV → Bool
 | [], y => match y with
  | [] => true
  | _ => false
 | x :: xs, y => match y with
  | y :: ys => match eqA x y with
   | true => eqAs xs ys
   | false => false
  | _ => false
end
mutual
theorem eqA_ok : ∀ (a b : AV), eqA a b = true → a = b
 | .lit a, b, h => by
  unfold eqA at h
  split at h
  ·rw [eqV_ok h]
  ·cases h
 | .ptr a b c, y, h => by
  unfold eqA at h
  split at h
  ·have := eqNs_ok h; simp at this; rw [this.1, this.2.1, this.2.2]
  ·cases h
 | .own a b c, y, h => by
  unfold eqA at h
  split at h
  ·have := eqNs_ok h; simp at this; rw [this.1, this.2.1, this.2.2]
  ·cases h
 | .mapr a, y, h => by
  unfold eqA at h
  split at h
  ·rw [Nat.eq_of_beq_eq_true h]
  ·cases h
 | .agg a, y, h => by
  unfold eqA at h
  split at h
  ·rw [eqAs_ok _ _ h]
  ·cases h
 | .tup a, y, h => by
  unfold eqA at h
  split at h
  ·rw [eqAs_ok _ _ h]
  ·cases h
 | .any, _, h => by simp [eqA] at h
 | .emp, _, h => by simp [eqA] at h
 | .guess _ _, _, h => by simp [eqA] at h
 | .sl _ _, _, h => by simp [eqA] at h
 | .fptr _ _, _, h => by simp [eqA] at h
 | .clo _ _ _, _, h => by simp [eqA] at h
 | .fmap _, _, h => by simp [eqA] at h
theorem eqAs_ok : ∀ (a b : List AV), eqAs a b = true → a = b
 | [], y, h => by
  unfold eqAs at h
  split at h
  ·rfl
  ·cases h
 | x :: xs, y, h => by
  unfold eqAs at h
  split at h
  ·split at h
   ·rename_i hx; rw [eqA_ok _ _ hx, eqAs_ok _ _ h]
   ·cases h
  ·cases h
end
def eqM : MS → MS → Bool
 | .free, .free => true
 | .dead, .dead => true
 | .live a r x, .live b s y => match Nat.beq a b with
  | true => match x, y with
   | true, true => eqAs r s
   | false, false => eqAs r s
   | _, _ => false
  | false => false
 | _, _ => false
theorem eqM_ok {a b : MS} (h : eqM a b = true) : a = b := by
 unfold eqM at h
 split at h
 ·rfl
 ·rfl
 ·split at h
  ·rename_i hb
   have := Nat.eq_of_beq_eq_true hb
   split at h
   ·rw [this, eqAs_ok _ _ h]
   ·rw [this, eqAs_ok _ _ h]
   ·cases h
  ·cases h
 ·cases h
def eqMs : List MS → List MS → Bool
 | [], [] => true
 | x :: xs, y :: ys => match eqM x y with
  | true => eqMs xs ys
  | false => false
 | _, _ => false
theorem eqMs_ok : ∀ {a b : List MS}, eqMs a b = true → a = b
 | [], [], _ => rfl
 | x :: xs, y :: ys, h => by
  simp only [eqMs] at h
  split at h
  ·rename_i hb; rw [eqM_ok hb, eqMs_ok h]
  ·cases h
 | [], _ :: _, h => by cases h
 | _ :: _, [], h => by cases h
structure Ans where
 g : FuncId
 ins : List MS
 args : List AV
 outs : List MS
 res : AV
def tblF (orc : CallT) : List Ans → CallT
 | [] => orc
 | r :: rest => fun g ins args => match Nat.beq r.g g with
  | true => match eqMs r.ins ins with
   | true => match eqAs r.args args with
    | true => some (r.outs, r.res)
    | false => tblF orc rest g ins args
   | false => tblF orc rest g ins args
  | false => tblF orc rest g ins args
def Ans.OK (P : Program) (r : Ans) : Prop := FnOK P r.g r.ins r.args r.outs r.res ∧ Callable P r.g
theorem tblF_ok {P : Program} {orc : CallT} (ho : GoodCalls P orc) : ∀ {l : List Ans}, (∀ r ∈ l, r.OK P) → GoodCalls P (tblF orc l)
 | [], _ => ho
 | r :: rest, h => by
  intro g ins args outs res hq
  have ih := tblF_ok ho (l := rest) (fun x hx => h x (List.mem_cons_of_mem _ hx))
  simp only [tblF] at hq
  split at hq
  ·rename_i h1
   split at hq
   ·rename_i h2
    split at hq
    ·rename_i h3
     cases hq
     have h0 := h r (List.mem_cons_self ..)
     unfold Ans.OK at h0
     rw [Nat.eq_of_beq_eq_true h1, eqMs_ok h2, eqAs_ok _ _ h3] at h0
     exact h0
    ·exact ih _ _ _ _ _ hq
   ·exact ih _ _ _ _ _ hq
  ·exact ih _ _ _ _ _ hq
def EEnv.more (E : EEnv) (l : List Ans) : EEnv := ⟨E.Γ, E.Δ, E.fns, E.kinds, tblF E.orc l⟩
theorem EEnv.more_good {P : Program} {E : EEnv} (hE : E.Good P) {l : List Ans} (h : ∀ r ∈ l, r.OK P) : (E.more l).Good P := ⟨hE.Γ, hE.Δ, hE.fns, hE.kinds, tblF_ok (fun _ _ _ _ _ h => hE.orc _ _ _ _ _ h) h, hE.orders⟩
theorem Ans.of {P : Program} {E : EEnv} (hE : E.Good P) {fuel n : Nat} {r : Ans} (h : runF E fuel n r.g r.ins r.args = some (r.outs, r.res)) : r.OK P := runF_ok hE fuel n _ _ _ _ _ h
theorem Ans.cons {P : Program} {r : Ans} {l : List Ans} (h : r.OK P) (hl : ∀ r ∈ l, r.OK P) : ∀ x ∈ r :: l, x.OK P := List.forall_mem_cons.2 ⟨h, hl⟩
end Go.Am
end
section
set_option linter.unusedSimpArgs false
set_option linter.unusedVariables false
namespace Go.Proofs.Heir
open Go.Am
set_option maxRecDepth 100000
@[reducible] def G : TEnv := [(1, .sc .nilFunc), (2, .sc (.int .i64 0)), (3, .sc (.int .i64 0)), (4, .bl), (5, .sc (.int .u8 0)), (9, .str), (12, .sc (.int .u64 0)), (15, .sc (.pointer none)), (16, .sc (.pointer none)), (17, .sc (.pointer none)), (20, .sc .nilIface), (21, .sc (.int .i32 0)), (22, .sl 42 10 136), (24, .st 2 [(0, 22), (1, 3)] (Array.mk [(.slice none 0 0), (.int .i64 0)]) [1, 1]), (25, .sl 39 3 40), (26, .sl 89 2 24), (28, .st 4 [(0, 25), (1, 26), (2, 3), (3, 4)] (Array.mk [(.slice none 0 0), (.slice none 0 0), (.int .i64 0), (.bool false)]) [1, 1, 1, 1]), (29, .sc .nilFunc), (30, .sc .nilFunc), (31, .sc .nilFunc), (32, .sl 3 1 8), (33, .sc (.int .i64 0)), (35, .sc .nilFunc), (36, .sc .nilFunc), (37, .sc .nilFunc), (39, .st 3 [(0, 9), (1, 9), (2, 3)] (Array.mk [(.string ByteArray.empty), (.string ByteArray.empty), (.int .i64 0)]) [1, 1, 1]), (40, .sl 130 2 32), (42, .st 10 [(0, 3), (1, 9), (2, 9), (3, 9), (4, 40), (5, 3), (6, 32), (7, 3), (8, 3), (9, 3)] (Array.mk [(.int .i64 0), (.string ByteArray.empty), (.string ByteArray.empty), (.string ByteArray.empty), (.slice none 0 0), (.int .i64 0), (.slice none 0 0), (.int .i64 0), (.int .i64 0), (.int .i64 0)]) [1, 1, 1, 1, 1, 1, 1, 1, 1, 1]), (43, .sc .nilFunc), (44, .sc .nilFunc), (45, .sc .nilFunc), (46, .sc .nilFunc), (47, .sl 67 4 32), (48, .sl 63 5 104), (49, .sc .nilFunc), (50, .sl 72 11 104), (52, .sc .nilFunc), (53, .sc .nilFunc), (54, .sc .nilFunc), (55, .sc .nilFunc), (56, .sc .nilFunc), (57, .sc .nilFunc), (58, .sc .nilFunc), (59, .sl 9 1 16), (60, .sl 293 7 72), (61, .sl 101 2 32), (63, .st 5 [(0, 4), (1, 59), (2, 60), (3, 60), (4, 61)] (Array.mk [(.bool false), (.slice none 0 0), (.slice none 0 0), (.slice none 0 0), (.slice none 0 0)]) [1, 1, 1, 1, 1]), (65, .sc .nilFunc), (67, .st 4 [(0, 3), (1, 3), (2, 3), (3, 4)] (Array.mk [(.int .i64 0), (.int .i64 0), (.int .i64 0), (.bool false)]) [1, 1, 1, 1]), (68, .sc .nilFunc), (70, .st 10 [(0, 3), (1, 3), (2, 9), (3, 4), (4, 4), (5, 9), (6, 9), (7, 3), (8, 3), (9, 4)] (Array.mk [(.int .i64 0), (.int .i64 0), (.string ByteArray.empty), (.bool false), (.bool false), (.string ByteArray.empty), (.string ByteArray.empty), (.int .i64 0), (.int .i64 0), (.bool false)]) [1, 1, 1, 1, 1, 1, 1, 1, 1, 1]), (72, .st 11 [(0, 3), (1, 70)] (Array.mk [(.int .i64 0), (.int .i64 0), (.int .i64 0), (.string ByteArray.empty), (.bool false), (.bool false), (.string ByteArray.empty), (.string ByteArray.empty), (.int .i64 0), (.int .i64 0), (.bool false)]) [1, 10]), (73, .sc .nilFunc), (74, .sc .nilFunc), (75, .ar 60 60 3 1 (Array.mk [(.int .i64 0), (.int .i64 0), (.int .i64 0), (.int .i64 0), (.int .i64 0), (.int .i64 0), (.int .i64 0), (.int .i64 0), (.int .i64 0), (.int .i64 0), (.int .i64 0), (.int .i64 0), (.int .i64 0), (.int .i64 0), (.int .i64 0), (.int .i64 0), (.int .i64 0), (.int .i64 0), (.int .i64 0), (.int .i64 0), (.int .i64 0), (.int .i64 0), (.int .i64 0), (.int .i64 0), (.int .i64 0), (.int .i64 0), (.int .i64 0), (.int .i64 0), (.int .i64 0), (.int .i64 0), (.int .i64 0), (.int .i64 0), (.int .i64 0), (.int .i64 0), (.int .i64 0), (.int .i64 0), (.int .i64 0), (.int .i64 0), (.int .i64 0), (.int .i64 0), (.int .i64 0), (.int .i64 0), (.int .i64 0), (.int .i64 0), (.int .i64 0), (.int .i64 0), (.int .i64 0), (.int .i64 0), (.int .i64 0), (.int .i64 0), (.int .i64 0), (.int .i64 0), (.int .i64 0), (.int .i64 0), (.int .i64 0), (.int .i64 0), (.int .i64 0), (.int .i64 0), (.int .i64 0), (.int .i64 0)])), (76, .sc .nilFunc), (77, .sc .nilFunc), (78, .sc .nilFunc), (79, .sc .nilFunc), (81, .sc .nilFunc), (82, .sc .nilFunc), (83, .sc .nilFunc), (85, .sc .nilFunc), (86, .sc .nilFunc), (87, .sc .nilFunc), (89, .st 2 [(0, 9), (1, 3)] (Array.mk [(.string ByteArray.empty), (.int .i64 0)]) [1, 1]), (91, .st 2 [(0, 24)] (Array.mk [(.slice none 0 0), (.int .i64 0)]) [2]), (92, .sc .nilFunc), (93, .sc .nilFunc), (94, .sc .nilFunc), (95, .sc .nilFunc), (96, .sc .nilFunc), (97, .sc .nilFunc), (98, .sc .nilFunc), (99, .sc .nilFunc), (101, .st 2 [(0, 3), (1, 60)] (Array.mk [(.int .i64 0), (.slice none 0 0)]) [1, 1]), (102, .sc (.pointer none)), (104, .sc .nilFunc), (106, .st 9 [(0, 24), (2, 47), (3, 28), (7, 48), (8, 50)] (Array.mk [(.slice none 0 0), (.int .i64 0), (.slice none 0 0), (.slice none 0 0), (.slice none 0 0), (.int .i64 0), (.bool false), (.slice none 0 0), (.slice none 0 0)]) [2, 1, 4, 1, 1]), (107, .sc .nilFunc), (108, .sc (.pointer none)), (109, .sc .nilFunc), (110, .sc .nilFunc), (112, .sc (.map none)), (113, .sc .nilFunc), (114, .sc (.map none)), (116, .st 3 [(0, 24), (2, 114)] (Array.mk [(.slice none 0 0), (.int .i64 0), (.map none)]) [2, 1]), (117, .sc .nilFunc), (118, .sc .nilFunc), (119, .sc .nilFunc), (120, .sl 201 9 88), (122, .sc .nilFunc), (123, .sc .nilFunc), (124, .sc .nilFunc), (125, .sc .nilFunc), (126, .sc .nilFunc), (128, .sc .nilFunc), (130, .st 2 [(0, 9), (1, 9)] (Array.mk [(.string ByteArray.empty), (.string ByteArray.empty)]) [1, 1]), (132, .sc .nilFunc), (133, .sc .nilFunc), (134, .sc (.map none)), (135, .sc (.map none)), (137, .st 2 [(0, 134), (1, 135)] (Array.mk [(.map none), (.map none)]) [1, 1]), (139, .sc .nilFunc), (141, .sc .nilFunc), (142, .sc .nilFunc), (143, .sc .nilFunc), (144, .sc .nilFunc), (145, .sc .nilFunc), (146, .sc .nilFunc), (147, .sc .nilFunc), (148, .sc .nilFunc), (149, .sc .nilFunc), (150, .sc .nilFunc), (151, .sc .nilFunc), (152, .sc .nilFunc), (153, .sc .nilFunc), (154, .sc .nilFunc), (155, .sc .nilFunc), (156, .sc .nilFunc), (157, .sc .nilFunc), (158, .sc .nilIface), (159, .sc .nilIface), (160, .sc .nilFunc), (161, .sc .nilFunc), (162, .sc (.pointer none)), (163, .sc .nilFunc), (164, .sc .nilFunc), (165, .sc .nilFunc), (166, .sc .nilFunc), (167, .sc .nilFunc), (169, .sc .nilFunc), (170, .sc .nilFunc), (171, .sc (.pointer none)), (172, .sc .nilFunc), (174, .st 5 [(0, 24), (2, 3), (3, 9), (4, 4)] (Array.mk [(.slice none 0 0), (.int .i64 0), (.int .i64 0), (.string ByteArray.empty), (.bool false)]) [2, 1, 1, 1]), (175, .sc .nilFunc), (176, .sc .nilFunc), (177, .sc .nilFunc), (178, .sc .nilFunc), (179, .sc .nilFunc), (180, .sc .nilFunc), (181, .sc .nilFunc), (182, .sl 5 1 1), (183, .sc .nilFunc), (185, .sc .nilFunc), (186, .sc .nilFunc), (188, .st 3 [(0, 24), (2, 120)] (Array.mk [(.slice none 0 0), (.int .i64 0), (.slice none 0 0)]) [2, 1]), (190, .st 1 [(0, 33)] (Array.mk [(.int .i64 0)]) [1]), (192, .st 2 [(0, 9), (1, 159)] (Array.mk [(.string ByteArray.empty), .nilIface]) [1, 1]), (194, .st 5 [(0, 24), (2, 3), (3, 3), (4, 3)] (Array.mk [(.slice none 0 0), (.int .i64 0), (.int .i64 0), (.int .i64 0), (.int .i64 0)]) [2, 1, 1, 1]), (195, .sc .nilFunc), (196, .sc .nilFunc), (197, .sc .nilFunc), (198, .sc .nilFunc), (199, .sc .nilFunc), (201, .st 9 [(0, 3), (1, 3), (2, 3), (3, 3), (4, 9), (5, 4), (6, 4), (7, 9), (8, 9)] (Array.mk [(.int .i64 0), (.int .i64 0), (.int .i64 0), (.int .i64 0), (.string ByteArray.empty), (.bool false), (.bool false), (.string ByteArray.empty), (.string ByteArray.empty)]) [1, 1, 1, 1, 1, 1, 1, 1, 1]), (202, .sc .nilFunc), (203, .sc .nilFunc), (204, .sc (.map none)), (205, .sc .nilFunc), (206, .sc .nilFunc), (207, .sc .nilFunc), (208, .sc .nilFunc), (209, .sc .nilFunc), (210, .sc .nilFunc), (211, .sc .nilFunc), (212, .sc .nilFunc), (213, .sc .nilFunc), (214, .sc .nilFunc), (215, .sc (.pointer none)), (216, .sc .nilFunc), (217, .sc .nilFunc), (218, .sc .nilFunc), (219, .sc .nilFunc), (220, .sc .nilFunc), (221, .sc (.pointer none)), (223, .st 2 [(0, 221), (1, 182)] (Array.mk [(.pointer none), (.slice none 0 0)]) [1, 1]), (224, .sc .nilFunc), (225, .sc .nilFunc), (227, .sc .nilFunc), (232, .sc .nilFunc), (233, .sc .nilIface), (235, .sc .nilFunc), (237, .sc .nilFunc), (238, .sc .nilFunc), (239, .sc .nilFunc), (240, .sc (.pointer none)), (241, .sc .nilFunc), (242, .sc (.int .u64 0)), (243, .sl 245 2 16), (245, .st 2 [(0, 3), (1, 3)] (Array.mk [(.int .i64 0), (.int .i64 0)]) [1, 1]), (246, .sc (.int .u32 0)), (247, .sc .nilFunc), (248, .sc (.pointer none)), (251, .sc (.pointer none)), (252, .sc .nilFunc), (253, .sc .nilFunc), (254, .sc .nilFunc), (255, .sc .nilIface), (257, .sc .nilFunc), (258, .sc .nilIface), (259, .sc .nilFunc), (260, .sc .nilIface), (261, .sl 159 1 16), (262, .sc .nilFunc), (263, .sc .nilFunc), (264, .sc .nilFunc), (266, .sc .nilFunc), (267, .sl 273 3 6), (268, .sl 276 3 12), (270, .st 3 [(0, 267), (1, 268), (2, 3)] (Array.mk [(.slice none 0 0), (.slice none 0 0), (.int .i64 0)]) [1, 1, 1]), (271, .sc (.int .u16 0)), (273, .st 3 [(0, 271), (1, 271), (2, 271)] (Array.mk [(.int .u16 0), (.int .u16 0), (.int .u16 0)]) [1, 1, 1]), (274, .sc .nilFunc), (276, .st 3 [(0, 246), (1, 246), (2, 246)] (Array.mk [(.int .u32 0), (.int .u32 0), (.int .u32 0)]) [1, 1, 1]), (277, .sc .nilFunc), (278, .sc (.pointer none)), (279, .sc (.pointer none)), (285, .sc .nilFunc), (287, .sc .nilFunc), (293, .st 7 [(0, 3), (1, 3), (2, 3), (3, 3), (4, 9), (5, 9), (6, 4)] (Array.mk [(.int .i64 0), (.int .i64 0), (.int .i64 0), (.int .i64 0), (.string ByteArray.empty), (.string ByteArray.empty), (.bool false)]) [1, 1, 1, 1, 1, 1, 1]), (294, .sc .nilFunc), (295, .sc .nilFunc), (298, .sc (.pointer none)), (299, .sc .nilFunc), (302, .sl 305 4 16), (306, .sc (.pointer none))]
theorem G_good : G.Good Tryz.prog := fS <| fS <| fS <| fB <| fS <| fG <| fS <| fS <| fS <| fS <| fS <| fS <| fL <| fT Tryz.underlying24 <| fL <| fL <| fT Tryz.underlying28 <| fS <| fS <| fS <| fL <| fS <| fS <| fS <| fS <| fT Tryz.underlying39 <| fL <| fT Tryz.underlying42 <| fS <| fS <| fS <| fS <| fL <| fL <| fS <| fL <| fS <| fS <| fS <| fS <| fS <| fS <| fS <| fL <| fL <| fL <| fT Tryz.underlying63 <| fS <| fT Tryz.underlying67 <| fS <| fT Tryz.underlying70 <| fT Tryz.underlying72 <| fS <| fS <| fA <| fS <| fS <| fS <| fS <| fS <| fS <| fS <| fS <| fS <| fS <| fT Tryz.underlying89 <| fT Tryz.underlying91 <| fS <| fS <| fS <| fS <| fS <| fS <| fS <| fS <| fT Tryz.underlying101 <| fS <| fS <| fT Tryz.underlying106 <| fS <| fS <| fS <| fS <| fS <| fS <| fS <| fT Tryz.underlying116 <| fS <| fS <| fS <| fL <| fS <| fS <| fS <| fS <| fS <| fS <| fT Tryz.underlying130 <| fS <| fS <| fS <| fS <| fT Tryz.underlying137 <| fS <| fS <| fS <| fS <| fS <| fS <| fS <| fS <| fS <| fS <| fS <| fS <| fS <| fS <| fS <| fS <| fS <| fS <| fS <| fS <| fS <| fS <| fS <| fS <| fS <| fS <| fS <| fS <| fS <| fS <| fS <| fS <| fT Tryz.underlying174 <| fS <| fS <| fS <| fS <| fS <| fS <| fS <| fL <| fS <| fS <| fS <| fT Tryz.underlying188 <| fT Tryz.underlying190 <| fT Tryz.underlying192 <| fT Tryz.underlying194 <| fS <| fS <| fS <| fS <| fS <| fT Tryz.underlying201 <| fS <| fS <| fS <| fS <| fS <| fS <| fS <| fS <| fS <| fS <| fS <| fS <| fS <| fS <| fS <| fS <| fS <| fS <| fS <| fS <| fT Tryz.underlying223 <| fS <| fS <| fS <| fS <| fS <| fS <| fS <| fS <| fS <| fS <| fS <| fS <| fL <| fT Tryz.underlying245 <| fS <| fS <| fS <| fS <| fS <| fS <| fS <| fS <| fS <| fS <| fS <| fS <| fL <| fS <| fS <| fS <| fS <| fL <| fL <| fT Tryz.underlying270 <| fS <| fT Tryz.underlying273 <| fS <| fT Tryz.underlying276 <| fS <| fS <| fS <| fS <| fS <| fT Tryz.underlying293 <| fS <| fS <| fS <| fS <| fL <| fS <| fN
theorem c3 : Callable Tryz.prog 3 := fun _ _ => by kernel_rfl
theorem c4 : Callable Tryz.prog 4 := fun _ _ => by kernel_rfl
theorem c5 : Callable Tryz.prog 5 := fun _ _ => by kernel_rfl
theorem c6 : Callable Tryz.prog 6 := fun _ _ => by kernel_rfl
theorem c7 : Callable Tryz.prog 7 := fun _ _ => by kernel_rfl
theorem c8 : Callable Tryz.prog 8 := fun _ _ => by kernel_rfl
theorem c9 : Callable Tryz.prog 9 := fun _ _ => by kernel_rfl
theorem c10 : Callable Tryz.prog 10 := fun _ _ => by kernel_rfl
theorem c12 : Callable Tryz.prog 12 := fun _ _ => by kernel_rfl
theorem c13 : Callable Tryz.prog 13 := fun _ _ => by kernel_rfl
theorem c14 : Callable Tryz.prog 14 := fun _ _ => by kernel_rfl
theorem c15 : Callable Tryz.prog 15 := fun _ _ => by kernel_rfl
theorem c21 : Callable Tryz.prog 21 := fun _ _ => by kernel_rfl
theorem c22 : Callable Tryz.prog 22 := fun _ _ => by kernel_rfl
theorem c23 : Callable Tryz.prog 23 := fun _ _ => by kernel_rfl
theorem c24 : Callable Tryz.prog 24 := fun _ _ => by kernel_rfl
theorem c25 : Callable Tryz.prog 25 := fun _ _ => by kernel_rfl
theorem c26 : Callable Tryz.prog 26 := fun _ _ => by kernel_rfl
theorem c35 : Callable Tryz.prog 35 := fun _ _ => by kernel_rfl
theorem c36 : Callable Tryz.prog 36 := fun _ _ => by kernel_rfl
theorem c37 : Callable Tryz.prog 37 := fun _ _ => by kernel_rfl
theorem c38 : Callable Tryz.prog 38 := fun _ _ => by kernel_rfl
theorem c39 : Callable Tryz.prog 39 := fun _ _ => by kernel_rfl
theorem c42 : Callable Tryz.prog 42 := fun _ _ => by kernel_rfl
theorem c43 : Callable Tryz.prog 43 := fun _ _ => by kernel_rfl
theorem c45 : Callable Tryz.prog 45 := fun _ _ => by kernel_rfl
theorem c47 : Callable Tryz.prog 47 := fun _ _ => by kernel_rfl
theorem c48 : Callable Tryz.prog 48 := fun _ _ => by kernel_rfl
theorem c51 : Callable Tryz.prog 51 := fun _ _ => by kernel_rfl
theorem c63 : Callable Tryz.prog 63 := fun _ _ => by kernel_rfl
theorem c64 : Callable Tryz.prog 64 := fun _ _ => by kernel_rfl
theorem c71 : Callable Tryz.prog 71 := fun _ _ => by kernel_rfl
theorem c72 : Callable Tryz.prog 72 := fun _ _ => by kernel_rfl
theorem c73 : Callable Tryz.prog 73 := fun _ _ => by kernel_rfl
theorem c75 : Callable Tryz.prog 75 := fun _ _ => by kernel_rfl
theorem c76 : Callable Tryz.prog 76 := fun _ _ => by kernel_rfl
theorem c77 : Callable Tryz.prog 77 := fun _ _ => by kernel_rfl
theorem c78 : Callable Tryz.prog 78 := fun _ _ => by kernel_rfl
theorem c79 : Callable Tryz.prog 79 := fun _ _ => by kernel_rfl
theorem c81 : Callable Tryz.prog 81 := fun _ _ => by kernel_rfl
theorem c82 : Callable Tryz.prog 82 := fun _ _ => by kernel_rfl
theorem c83 : Callable Tryz.prog 83 := fun _ _ => by kernel_rfl
theorem c88 : Callable Tryz.prog 88 := fun _ _ => by kernel_rfl
theorem c89 : Callable Tryz.prog 89 := fun _ _ => by kernel_rfl
theorem c90 : Callable Tryz.prog 90 := fun _ _ => by kernel_rfl
theorem c91 : Callable Tryz.prog 91 := fun _ _ => by kernel_rfl
theorem c92 : Callable Tryz.prog 92 := fun _ _ => by kernel_rfl
theorem c98 : Callable Tryz.prog 98 := fun _ _ => by kernel_rfl
theorem c99 : Callable Tryz.prog 99 := fun _ _ => by kernel_rfl
theorem c106 : Callable Tryz.prog 106 := fun _ _ => by kernel_rfl
theorem c107 : Callable Tryz.prog 107 := fun _ _ => by kernel_rfl
theorem c108 : Callable Tryz.prog 108 := fun _ _ => by kernel_rfl
theorem c115 : Callable Tryz.prog 115 := fun _ _ => by kernel_rfl
theorem c118 : Callable Tryz.prog 118 := fun _ _ => by kernel_rfl
theorem c119 : Callable Tryz.prog 119 := fun _ _ => by kernel_rfl
theorem c120 : Callable Tryz.prog 120 := fun _ _ => by kernel_rfl
theorem c121 : Callable Tryz.prog 121 := fun _ _ => by kernel_rfl
theorem c123 : Callable Tryz.prog 123 := fun _ _ => by kernel_rfl
theorem c130 : Callable Tryz.prog 130 := fun _ _ => by kernel_rfl
theorem c133 : Callable Tryz.prog 133 := fun _ _ => by kernel_rfl
theorem c134 : Callable Tryz.prog 134 := fun _ _ => by kernel_rfl
theorem c135 : Callable Tryz.prog 135 := fun _ _ => by kernel_rfl
theorem c136 : Callable Tryz.prog 136 := fun _ _ => by kernel_rfl
theorem c137 : Callable Tryz.prog 137 := fun _ _ => by kernel_rfl
theorem c139 : Callable Tryz.prog 139 := fun _ _ => by kernel_rfl
theorem c140 : Callable Tryz.prog 140 := fun _ _ => by kernel_rfl
theorem c141 : Callable Tryz.prog 141 := fun _ _ => by kernel_rfl
theorem c142 : Callable Tryz.prog 142 := fun _ _ => by kernel_rfl
theorem c143 : Callable Tryz.prog 143 := fun _ _ => by kernel_rfl
theorem c144 : Callable Tryz.prog 144 := fun _ _ => by kernel_rfl
theorem c145 : Callable Tryz.prog 145 := fun _ _ => by kernel_rfl
theorem c147 : Callable Tryz.prog 147 := fun _ _ => by kernel_rfl
theorem c148 : Callable Tryz.prog 148 := fun _ _ => by kernel_rfl
theorem c150 : Callable Tryz.prog 150 := fun _ _ => by kernel_rfl
theorem c152 : Callable Tryz.prog 152 := fun _ _ => by kernel_rfl
theorem c153 : Callable Tryz.prog 153 := fun _ _ => by kernel_rfl
theorem c154 : Callable Tryz.prog 154 := fun _ _ => by kernel_rfl
theorem c155 : Callable Tryz.prog 155 := fun _ _ => by kernel_rfl
theorem c165 : Callable Tryz.prog 165 := fun _ _ => by kernel_rfl
theorem c166 : Callable Tryz.prog 166 := fun _ _ => by kernel_rfl
theorem c167 : Callable Tryz.prog 167 := fun _ _ => by kernel_rfl
theorem c168 : Callable Tryz.prog 168 := fun _ _ => by kernel_rfl
theorem c169 : Callable Tryz.prog 169 := fun _ _ => by kernel_rfl
theorem c170 : Callable Tryz.prog 170 := fun _ _ => by kernel_rfl
theorem c176 : Callable Tryz.prog 176 := fun _ _ => by kernel_rfl
theorem c177 : Callable Tryz.prog 177 := fun _ _ => by kernel_rfl
theorem c178 : Callable Tryz.prog 178 := fun _ _ => by kernel_rfl
theorem c180 : Callable Tryz.prog 180 := fun _ _ => by kernel_rfl
theorem c192 : Callable Tryz.prog 192 := fun _ _ => by kernel_rfl
theorem c208 : Callable Tryz.prog 208 := fun _ _ => by kernel_rfl
theorem c220 : Callable Tryz.prog 220 := fun _ _ => by kernel_rfl
theorem c54 : Callable Tryz.prog 54 := fun _ _ => by kernel_rfl
theorem c65 : Callable Tryz.prog 65 := fun _ _ => by kernel_rfl
theorem c66 : Callable Tryz.prog 66 := fun _ _ => by kernel_rfl
theorem c74 : Callable Tryz.prog 74 := fun _ _ => by kernel_rfl
theorem c93 : Callable Tryz.prog 93 := fun _ _ => by kernel_rfl
theorem c94 : Callable Tryz.prog 94 := fun _ _ => by kernel_rfl
theorem c95 : Callable Tryz.prog 95 := fun _ _ => by kernel_rfl
theorem c96 : Callable Tryz.prog 96 := fun _ _ => by kernel_rfl
theorem c97 : Callable Tryz.prog 97 := fun _ _ => by kernel_rfl
theorem c116 : Callable Tryz.prog 116 := fun _ _ => by kernel_rfl
theorem c117 : Callable Tryz.prog 117 := fun _ _ => by kernel_rfl
theorem c122 : Callable Tryz.prog 122 := fun _ _ => by kernel_rfl
theorem c138 : Callable Tryz.prog 138 := fun _ _ => by kernel_rfl
theorem c146 : Callable Tryz.prog 146 := fun _ _ => by kernel_rfl
theorem c149 : Callable Tryz.prog 149 := fun _ _ => by kernel_rfl
theorem c171 : Callable Tryz.prog 171 := fun _ _ => by kernel_rfl
theorem c172 : Callable Tryz.prog 172 := fun _ _ => by kernel_rfl
theorem c173 : Callable Tryz.prog 173 := fun _ _ => by kernel_rfl
theorem c174 : Callable Tryz.prog 174 := fun _ _ => by kernel_rfl
theorem c175 : Callable Tryz.prog 175 := fun _ _ => by kernel_rfl
theorem c193 : Callable Tryz.prog 193 := fun _ _ => by kernel_rfl
theorem c194 : Callable Tryz.prog 194 := fun _ _ => by kernel_rfl
theorem c195 : Callable Tryz.prog 195 := fun _ _ => by kernel_rfl
theorem c209 : Callable Tryz.prog 209 := fun _ _ => by kernel_rfl
theorem mt74 : MapTy Tryz.prog 135 (.int .i64) (.int .i64 0) := ⟨3, 3, by kernel_rfl, by kernel_rfl, fun w => Tryz.zeroValue3 w⟩
end Go.Proofs.Heir
namespace Go.Proofs.Heir
open Go.Am
set_option maxRecDepth 100000
set_option maxHeartbeats 8000000
def smallC (c : Int) : Bool := decide (97 ≤ c) && decide (c ≤ 122)
def capC (c : Int) : Bool := decide (65 ≤ c) && decide (c ≤ 90)
def signC (c : Int) : Bool := smallC c || capC c || (decide (48 ≤ c) && decide (c ≤ 57)) || decide (c = 45) || decide (c = 95) || decide (c = 46)
@[reducible] def eRune (c : Int) : AV := .lit (.int .i32 c)
@[reducible] def eBool (b : Bool) : AV := .lit (.bool b)
@[reducible] def eStr (s : ByteArray) : AV := .lit (.string s)
@[reducible] def eInt (n : Int) : AV := .lit (.int .i64 n)
theorem f140_ok (c : Int) : FnOK Tryz.prog 140 [] [eRune c] [] (eBool (smallC c)) := by
 refine FnOK.startC (rvs := [.tmp 2]) G G_good Tryz.func140 rfl Tryz.ntmps140 rfl rfl ?_; with_reducible refine wD ?_
 refine IfK.mk (fun h => ?_) (fun h => ?_) <;> (try simp only [castN] at h) <;> with_reducible refine wK ?_
 ·(refine eK ?_ ?_ <;> with_reducible repeat' (first | exact trivial | (show _ ∧ _; refine aK ?_ ?_)))
  unfold smallC
  simp at h; simp [h]
 ·(refine eK ?_ ?_ <;> with_reducible repeat' (first | exact trivial | (show _ ∧ _; refine aK ?_ ?_)))
  unfold smallC
  simp at h; simp; omega
theorem f142_ok (c : Int) : FnOK Tryz.prog 142 [] [eRune c] [] (eBool (capC c)) := by
 refine FnOK.startC (rvs := [.tmp 2]) G G_good Tryz.func142 rfl Tryz.ntmps142 rfl rfl ?_; with_reducible refine wD ?_
 refine IfK.mk (fun h => ?_) (fun h => ?_) <;> (try simp only [castN] at h) <;> with_reducible refine wK ?_
 ·(refine eK ?_ ?_ <;> with_reducible repeat' (first | exact trivial | (show _ ∧ _; refine aK ?_ ?_)))
  unfold capC
  simp at h; simp [h]
 ·(refine eK ?_ ?_ <;> with_reducible repeat' (first | exact trivial | (show _ ∧ _; refine aK ?_ ?_)))
  unfold capC
  simp at h; simp; omega
theorem f177_ok (c : Int) : FnOK Tryz.prog 177 [] [eRune c] [] (eBool (signC c)) := by
 refine FnOK.startC (rvs := [.tmp 2]) G G_good Tryz.func177 rfl Tryz.ntmps177 rfl rfl ?_; with_reducible refine wD ?_
 refine cL (f140_ok c) c140 ?_; with_reducible refine wK ?_
 repeat' (first
  | refine aE ?_ ?_
  | ((with_reducible show IfK _ _ _ _); first | refine iK ?_ | (refine IfK.mk (fun _ => ?_) (fun _ => ?_) <;> with_reducible refine wK ?_))
  | ((with_reducible refine kQ 142 ?_); refine cL (f142_ok c) c142 ?_; with_reducible refine wK ?_)
  | apply trivial)
 all_goals (simp_all [signC, smallC, capC] <;> omega)
theorem f176_ok (c : Int) : FnOK Tryz.prog 176 [] [eRune c] [] (eBool (!signC c)) := by
 refine FnOK.startC (rvs := [.tmp 2]) G G_good Tryz.func176 rfl Tryz.ntmps176 rfl rfl ?_; with_reducible refine wD ?_
 refine cL (f177_ok c) c177 ?_; with_reducible refine wK ?_
 (refine eK ?_ ?_ <;> with_reducible repeat' (first | exact trivial | (show _ ∧ _; refine aK ?_ ?_)))
open Go.RowKit Go.Lib in
theorem f197_calls (g : Nat) (eg : ∀ args w, (callFunc g args).run Tryz.prog w = .ok (.enter g args) w) (p : Nat → Bool) (s : ByteArray) (w : World) (ht : Tabs Tryz.prog w fun _ => none) (hp : ∀ (W : World) (x : Nat), (Tabs Tryz.prog W fun _ => none) → x ≤ 1114111 → Calls Tryz.prog g #[.int .i32 (x : Int)] W fun e w' => e = .returned (.bool (p x)) ∧ Below W.heap.size W w') :
  Calls Tryz.prog 197 #[.string s, .func (.func g) #[] #[], .bool true] w fun e w' => e = .returned (.int .i64 (Lib.idxFunc p true s)) ∧ Below w.heap.size w w' := by
 go_enter Tryz.func197, Tryz.ntmps197
 go_wp2
 go_loopg [] s.size (fun gf wx => ∃ pos : Nat, wx.heap[w.heap.size]? = some (.stringIter s pos) ∧ Below w.heap.size w wx ∧ Lib.idxFuncFrom p true s gf pos = Lib.idxFunc p true s ∧ s.size ≤ pos + gf)
 case atStart => exact ⟨0, World.iter_heap w s 0, (Below.refl _ w).alloc (Nat.le_refl _) _, rfl, by omega⟩
 case round =>
  obtain ⟨pos, hit, hbw, hleft, hfu⟩ := hrel
  by_cases hps : pos < s.size
  ·obtain ⟨g', rfl⟩ : ∃ g', gk = g' + 1 := ⟨gk - 1, by omega⟩
   have hnx : ∀ ty, (Instr.next (.pointer (some ⟨w.heap.size, 0, none⟩)) true ty).run Tryz.prog wr = _ := fun ty => Lib.run_next_any_at wr w.heap.size s pos ty hit hps
   have hwd := Lib.width_pos s pos
   obtain ⟨R, hR⟩ : ∃ R, (Utf8.decode s pos).1 = R := ⟨_, rfl⟩
   obtain ⟨K, hK⟩ : ∃ K, (Utf8.decode s pos).2 = K := ⟨_, rfl⟩
   simp only [Lib.idxFuncFrom, hps, if_true, hR, hK] at hleft
   rw [hR, hK] at hnx
   rw [hK] at hwd
   have hit2 := Lib.iterAt_heap wr w.heap.size s pos (pos + K) hit
   have hbw2 := Lib.below_iterAt hbw (k := w.heap.size) (Nat.le_refl _) s (pos + K)
   obtain ⟨W, hWd⟩ : ∃ W, wr.iterAt w.heap.size s (pos + K) = W := ⟨_, rfl⟩
   rw [hWd] at hnx hit2 hbw2
   have hltW : w.heap.size < W.heap.size := (Array.getElem?_eq_some_iff.1 hit2).1
   have cS : Calls Tryz.prog g #[.int .i32 (R : Int)] W _   := hp W R (ht.below hbw2) (by rw [← hR]; exact Lib.rune_le s pos)
   clear hp
   cases hsp : p R <;> rw [hsp] at cS <;> simp only [hsp, if_true, Bool.false_eq_true, Bool.true_eq_false, if_false] at hleft
   ·go_wp2_with (go_at_fn g; refine cS.mono ?_; rintro e W' ⟨rfl, hbc⟩)
    go_roundg g'
    case measure => omega
    case rel => exact ⟨pos + K, (hbc.block _ hltW).trans hit2, (hbw2.trans (hbc.mono hbw2.size)), hleft, by omega⟩
   ·go_wp2_with (go_at_fn g; refine cS.mono ?_; rintro e W' ⟨rfl, hbc⟩)
    go_ret
    exact ⟨by rw [← hleft] <;> rfl, (hbw2.trans (hbc.mono hbw2.size))⟩
  ·have hnx : ∀ ty, (Instr.next (.pointer (some ⟨w.heap.size, 0, none⟩)) true ty).run Tryz.prog wr = _ := fun ty => Lib.run_next_end_at wr w.heap.size s pos ty hit hps
   rw [Lib.idxFuncFrom_end p true s gk pos hps] at hleft
   go_wp2
   go_ret
   exact ⟨by rw [← hleft] <;> rfl, hbw⟩
end Go.Proofs.Heir
namespace Go.Proofs.Heir
open Go Go.Am Go.RowKit Go.Lib
set_option maxRecDepth 100000
set_option maxHeartbeats 8000000
def lowB (c : UInt8) : UInt8 := if capC (c.toNat : Int) then c + 32 else c
def lowL (l : List UInt8) : List UInt8 := l.map lowB
def lowS (s : ByteArray) : ByteArray := ⟨(lowL s.data.toList).toArray⟩
def midL (l : List UInt8) (k : Nat) : List UInt8 := (l.take k).map lowB ++ l.drop k
theorem midL_len (l : List UInt8) (k : Nat) : (midL l k).length = l.length := by simp [midL]; omega
theorem midL_get (l : List UInt8) (k : Nat) (h : k < l.length) : (midL l k)[k]? = some l[k] := by
 simp [midL, List.getElem?_append, List.getElem?_drop, Nat.min_eq_left (Nat.le_of_lt h), h]
theorem midL_set (l : List UInt8) (k : Nat) (h : k < l.length) : (midL l k).set k (lowB l[k]) = midL l (k + 1) := by
 unfold midL
 have h1 : ((l.take k).map lowB).length = k := by simp; omega
 rw [List.set_append_right _ _ (by omega), h1, Nat.sub_self, List.take_succ_eq_append_getElem h, List.drop_eq_getElem_cons h]
 simp only [List.set_cons_zero, List.map_append, List.map_cons, List.map_nil, List.append_assoc, List.cons_append, List.nil_append]
theorem midL_skip (l : List UInt8) (k : Nat) (h : k < l.length) (hc : capC (l[k].toNat : Int) = false) : midL l k = midL l (k + 1) := by
 rw [← midL_set l k h]
 have h2 := midL_get l k h
 apply List.ext_getElem?
 intro j
 rw [List.getElem?_set]
 by_cases hj : k = j
 ·subst hj
  rw [if_pos rfl, if_pos (by rw [midL_len]; exact h), h2]
  simp [lowB, hc]
 ·rw [if_neg hj]
def rowOf (l : List UInt8) (z : List Value) : Array Value := (l.map (fun b => Value.int .u8 b.toNat) ++ z).toArray
theorem rowOf_get (l : List UInt8) (z : List Value) (k : Nat) (b : UInt8) (h : l[k]? = some b) : (rowOf l z)[k]? = some (.int .u8 b.toNat) := by
 have hk := (List.getElem?_eq_some_iff.1 h).1
 simp only [rowOf, List.getElem?_toArray]
 rw [List.getElem?_append_left (by simpa using hk), List.getElem?_map, h]; rfl
theorem rowOf_set (l : List UInt8) (z : List Value) (k : Nat) (b : UInt8) (h : k < l.length) : (rowOf l z).setIfInBounds k (.int .u8 b.toNat) = rowOf (l.set k b) z := by
 apply Array.ext'
 simp only [rowOf, Array.toList_setIfInBounds, List.map_set]
 rw [List.set_append_left _ _ (by simpa using h)]
theorem cap_step (c : UInt8) (h : capC (c.toNat : Int) = true) : IntKind.u8.wrap (IntKind.u8.wrap ((c.toNat : Int) - 65) + 97) = ((c + 32 : UInt8).toNat : Int) := by
 simp only [capC, Bool.and_eq_true, decide_eq_true_eq] at h
 have h1 : IntKind.u8.wrap ((c.toNat : Int) - 65) = (c.toNat : Int) - 65 := by simp [IntKind.wrap_u8]; omega
 rw [h1]
 have h2 : IntKind.u8.wrap ((c.toNat : Int) - 65 + 97) = (c.toNat : Int) + 32 := by simp [IntKind.wrap_u8]; omega
 rw [h2]
 have : (c + 32 : UInt8).toNat = c.toNat + 32 := by
  rw [UInt8.toNat_add]; simp; omega
 rw [this]; rfl
theorem f168_calls (s : ByteArray) (w : World) (ht : Tabs Tryz.prog w fun _ => none) (hs : s.size ≤ 100000) : Calls Tryz.prog 168 #[.string s] w fun e w' => e = .returned (.string (lowS s)) ∧ Below w.heap.size w w' := by
 obtain ⟨l, rfl⟩ : ∃ l : List UInt8, s = ⟨l.toArray⟩ := ⟨s.data.toList, by obtain ⟨⟨l⟩⟩ := s; rfl⟩
 have hsz : (ByteArray.mk l.toArray).size = l.length := by simp [ByteArray.size]
 have hconv := run_bytes_of_string (P := Tryz.prog) w 9 182 5 ⟨l.toArray⟩ Tryz.underlying9 Tryz.underlying182 Tryz.underlying5
 rw [hsz] at hconv hs
 obtain ⟨cap, hcap⟩ : ∃ cap, grownCap w l.length 0 5 = cap := ⟨_, rfl⟩
 rw [hcap] at hconv
 obtain ⟨z, hz⟩ : ∃ z : List Value, bytesRow ⟨l.toArray⟩ cap = rowOf l z := ⟨List.replicate (cap - l.length) (.int .u8 0), by
  apply Array.ext'; simp [bytesRow, rowOf, ByteArray.size]⟩
 rw [hz] at hconv
 obtain ⟨n, hn⟩ : ∃ n, (rowOf l z).size = n := ⟨_, rfl⟩
 rw [hn] at hconv
 clear hcap hz
 go_enter Tryz.func168, Tryz.ntmps168
 go_wp2
 go_loopw [10] (fun i wr => ∃ k : Nat, k ≤ l.length ∧ i = .int .i64 k ∧ wr.heap[w.heap.size]? = some (.cells (rowOf (midL l k) z) 5 (n, n + 1)) ∧ Below w.heap.size w wr) (fun i _ => l.length - (intOf i).toNat)
 case atStart => exact ⟨0, Nat.zero_le _, rfl, (heap_alloc_new w (Obj.cells (rowOf l z) 5 (n, n + 1))), ((Below.refl _ w).alloc (Nat.le_refl _) _).drew⟩
 case round =>
  obtain ⟨k, hk, rfl, hh, hb⟩ := hrel
  by_cases hlt : k < l.length
  ·have hcell : wr.cell? ⟨w.heap.size, k, none⟩ = some (.int .u8 (l[k].toNat : Int)) := by
    simp only [World.cell?, hh]
    exact rowOf_get _ z k _ (midL_get l k hlt)
   have hn2 : k < n := by rw [← hn]; simp [rowOf]; omega
   have hfz : wr.frozen? ⟨w.heap.size, k, none⟩ = false := by
    simp [World.frozen?, hh]; omega
   have hbs : w.heap.size < wr.heap.size := (Array.getElem?_eq_some_iff.1 hh).1
   have hb1 : 0 ≤ (l[k].toNat : Int) := Int.natCast_nonneg _
   have hb2 : (l[k].toNat : Int) ≤ 255 := by have := UInt8.toNat_lt l[k]; omega
   cases hc : capC (l[k].toNat : Int) with
   | false =>
     go_wp2_with (go_at_call 142; refine ((f142_ok (l[k].toNat : Int)).below (vs := [.int .i32 (l[k].toNat : Int)]) _ (ht.below hb)).mono ?_; rw [hc]; rintro e w1 ⟨rfl, hb3⟩)
     go_roundw
     case rel => exact ⟨k + 1, by omega, by go_num, by rw [hb3.block _ hbs, hh, midL_skip l k hlt hc], hb.trans (hb3.mono hb.size)⟩
     case measure => simp [intOf]; omega
   | true =>
     have hst : IntKind.u8.wrap (IntKind.u8.wrap ((l[k].toNat : Int) - 65) + 97) = ((lowB l[k]).toNat : Int) := by
      rw [cap_step _ hc]; unfold lowB; rw [hc]; rfl
     simp only [IntKind.wrap_u8] at hst
     have H := hid hst
     clear hst
     go_wp2_with (go_at_call 142; refine ((f142_ok (l[k].toNat : Int)).below (vs := [.int .i32 (l[k].toNat : Int)]) _ (ht.below hb)).mono ?_; rw [hc]; rintro e w1 ⟨rfl, hb3⟩; have hc1 := (hb3.cell (p := ⟨w.heap.size, k, none⟩) hbs).trans hcell; have hf1 := (hb3.frozen (p := ⟨w.heap.size, k, none⟩) hbs).trans hfz)
     go_roundw
     case rel =>
      refine ⟨k + 1, by omega, by go_num, ?_, hb.trans ((hb3.mono hb.size).setCell (Nat.le_refl _) _)⟩
      have hm : ((l[k].toNat : Int) - 65 + 97) % 256 = ((lowB l[k]).toNat : Int) := by
       rw [← H.out]; omega
      rw [hm]
      have hq : w1.heap[w.heap.size]? = some (.cells (rowOf (midL l k) z) 5 (n, n + 1)) := (hb3.block _ hbs).trans hh
      have hs2 : w.heap.size < w1.heap.size := (Array.getElem?_eq_some_iff.1 hq).1
      unfold World.setCell
      simp only [Array.getElem?_modify, hq, if_true, Option.map_some]
      have hrs := rowOf_set (midL l k) z k (lowB l[k]) (by rw [midL_len]; exact hlt)
      rw [midL_set l k hlt] at hrs
      simp only [hrs]; rfl
     case measure => simp [intOf]; omega
  ·have : k = l.length := by omega
   subst this
   have hrw : rowOf (midL l l.length) z = rowOf (lowL l) z := by simp [midL, lowL]
   rw [hrw] at hh
   have hcv := run_convert_bytes_back (P := Tryz.prog) wr 182 9 5 ⟨w.heap.size, 0, none⟩ cap (lowL l) Tryz.underlying182 Tryz.underlying5 Tryz.underlying9 (fun j hj => by
    have := rowOf_get (lowL l) z j ((lowL l)[j]) (List.getElem?_eq_getElem hj)
    have ha : (⟨w.heap.size, 0, none⟩ : Addr).add j = ⟨w.heap.size, j, none⟩ := by
     unfold Addr.add; split <;> simp_all
    rw [ha]; simp only [World.cell?, hh, this]; rfl)
   rw [show (lowL l).length = l.length from by simp [lowL]] at hcv
   go_wp2
   go_ret
   exact ⟨rfl, hb⟩
theorem f168_ok (s : ByteArray) (hs : s.size ≤ 100000) : FnOK Tryz.prog 168 [] [eStr s] [] (eStr (lowS s)) :=
 FnOK.of_calls (vs := [.string s]) (v := .string (lowS s)) fun w ht => f168_calls s w ht hs
def signB (b : UInt8) : Bool := signC (b.toNat : Int)
def firstB : List UInt8 → Bool
 | [] => false
 | b :: _ => smallC (b.toNat : Int) || capC (b.toNat : Int) || decide ((b.toNat : Int) = 95)
def rightL (l : List UInt8) : Bool := decide (1 ≤ l.length) && decide (l.length ≤ 40) && l.all signB && firstB l
def rightS (s : ByteArray) : Bool := rightL s.data.toList
theorem idx_bad (s : ByteArray) : ∀ (f pos : Nat), s.size ≤ pos + f → (0 ≤ idxFuncFrom (fun r => !signC (r : Int)) true s f pos ↔ ∃ i, pos ≤ i ∧ ∃ b, s.data.toList[i]? = some b ∧ signB b = false)
 | 0, pos, h => by
   have : ¬ (0 : Int) ≤ idxFuncFrom (fun r => !signC (r : Int)) true s 0 pos := by simp [idxFuncFrom]
   refine ⟨fun h' => absurd h' this, ?_⟩
   rintro ⟨i, h1, b, h2, _⟩
   have := (List.getElem?_eq_some_iff.1 h2).1
   have : i < s.size := this
   omega
 | f + 1, pos, h => by
   by_cases hp : pos < s.size
   ·have ih := idx_bad s f
    have hb : ∃ b, s.data.toList[pos]? = some b ∧ s.get! pos = b := ⟨_, List.getElem?_eq_getElem hp, by show s.data[pos]! = _; rw [getElem!_pos s.data pos hp]; rfl⟩
    obtain ⟨b, hb1, hb2⟩ := hb
    unfold idxFuncFrom
    rw [if_pos hp, decode_at, hb2]
    have hbn : b.toNat < 256 := UInt8.toNat_lt b
    have big : ∀ r : Nat, 128 ≤ r → signC (r : Int) = false := by
     intro r hr
     have : (128 : Int) ≤ r := by omega
     simp only [signC, smallC, capC, Bool.or_eq_false_iff, Bool.and_eq_false_iff, decide_eq_false_iff_not]
     omega
    have bad : ∀ r w : Nat, 128 ≤ r → 128 ≤ b.toNat → ((0 : Int) ≤ (if (!signC (r : Int)) = true then (pos : Int) else idxFuncFrom (fun r => !signC (r : Int)) true s f (pos + w)) ↔ ∃ i, pos ≤ i ∧ ∃ b, s.data.toList[i]? = some b ∧ signB b = false) := by
     intro r w hr hbr
     rw [big r hr]
     exact ⟨fun _ => ⟨pos, Nat.le_refl _, b, hb1, big _ hbr⟩, fun _ => by simp⟩
    rcases decodeN_shape (s.size - pos) b.toNat (s.get! (pos + 1)).toNat (s.get! (pos + 2)).toNat (s.get! (pos + 3)).toNat with ⟨h1, h2⟩ | ⟨h1, h3, h4, h5, h2⟩ | ⟨h1, h3, h4, h5, h6, h7, h2⟩ | ⟨h1, h3, h4, h5, h6, h7, h8, h2⟩ | h2
    ·rw [h2]
     show (0 : Int) ≤ (if (!signC (b.toNat : Int)) = true then (pos : Int) else idxFuncFrom _ true s f (pos + 1)) ↔ _
     cases hs : signC (b.toNat : Int) with
     | false => exact ⟨fun _ => ⟨pos, Nat.le_refl _, b, hb1, hs⟩, fun _ => by simp⟩
     | true =>
       rw [if_neg (by simp), ih (pos + 1) (by omega)]
       constructor
       ·rintro ⟨i, h3, h4⟩; exact ⟨i, by omega, h4⟩
       ·rintro ⟨i, h3, b', h4, h5⟩
        rcases Nat.lt_or_ge pos i with h6 | h6
        ·exact ⟨i, h6, b', h4, h5⟩
        ·have : i = pos := by omega
         subst this
         rw [hb1] at h4; cases h4
         rw [signB, hs] at h5; cases h5
    ·rw [h2]; exact bad _ _ (by omega) (by omega)
    ·rw [h2]; exact bad _ _ (by omega) (by omega)
    ·rw [h2]; exact bad _ _ (by omega) (by omega)
    ·rw [h2]
     refine bad _ _ (by omega) ?_
     rcases Nat.lt_or_ge b.toNat 128 with h3 | h3
     ·rw [decodeN, if_pos h3] at h2; simp only [Prod.mk.injEq] at h2; omega
     ·exact h3
   ·rw [idxFuncFrom_end _ _ _ _ _ hp]
    refine ⟨fun h' => by omega, ?_⟩
    rintro ⟨i, h1, b, h2, _⟩
    have := (List.getElem?_eq_some_iff.1 h2).1
    have : i < s.size := this
    omega
theorem idx_all (s : ByteArray) : decide (0 ≤ idxFunc (fun r => !signC (r : Int)) true s) = !s.data.toList.all signB := by
 have h := idx_bad s s.size 0 (by omega)
 cases ha : s.data.toList.all signB with
 | true =>
   simp only [Bool.not_true, decide_eq_false_iff_not]
   intro h'
   obtain ⟨i, _, b, h1, h2⟩ := h.1 h'
   have := List.all_eq_true.1 ha b (List.mem_of_getElem? h1)
   rw [this] at h2; cases h2
 | false =>
   simp only [Bool.not_false, decide_eq_true_eq]
   refine h.2 ?_
   obtain ⟨b, h1, h2⟩ := List.all_eq_false.1 ha
   obtain ⟨i, h3⟩ := List.getElem?_of_mem h1
   exact ⟨i, Nat.zero_le _, b, h3, by simpa using h2⟩
theorem f178_calls (g : Nat) (eg : ∀ args w, (callFunc g args).run Tryz.prog w = .ok (.enter g args) w) (p : Nat → Bool) (s : ByteArray) (w : World) (ht : Tabs Tryz.prog w fun _ => none) (hp : ∀ (W : World) (x : Nat), (Tabs Tryz.prog W fun _ => none) → x ≤ 1114111 → Calls Tryz.prog g #[.int .i32 (x : Int)] W fun e w' => e = .returned (.bool (p x)) ∧ Below W.heap.size W w') :
  Calls Tryz.prog 178 #[.string s, .func (.func g) #[] #[]] w fun e w' => e = .returned (.int .i64 (Lib.idxFunc p true s)) ∧ Below w.heap.size w w' := by
 have h44 := f197_calls g eg p s w ht hp
 clear hp
 go_enter Tryz.func178, Tryz.ntmps178
 go_wp2_with (go_at_call 197; refine h44.mono ?_; rintro e w1 ⟨rfl, hb⟩)
 go_ret
 exact ⟨rfl, hb⟩
theorem f141_calls (g : Nat) (eg : ∀ args w, (callFunc g args).run Tryz.prog w = .ok (.enter g args) w) (p : Nat → Bool) (s : ByteArray) (w : World) (ht : Tabs Tryz.prog w fun _ => none) (hp : ∀ (W : World) (x : Nat), (Tabs Tryz.prog W fun _ => none) → x ≤ 1114111 → Calls Tryz.prog g #[.int .i32 (x : Int)] W fun e w' => e = .returned (.bool (p x)) ∧ Below W.heap.size W w') :
  Calls Tryz.prog 141 #[.string s, .func (.func g) #[] #[]] w fun e w' => e = .returned (.bool (decide (0 ≤ Lib.idxFunc p true s))) ∧ Below w.heap.size w w' := by
 have h43 := f178_calls g eg p s w ht hp
 clear hp
 go_enter Tryz.func141, Tryz.ntmps141
 go_wp2_with (go_at_call 178; refine h43.mono ?_; rintro e w1 ⟨rfl, hb⟩)
 go_ret
 exact ⟨rfl, hb⟩
theorem f141_ok (s : ByteArray) : FnOK Tryz.prog 141 [] [eStr s, .lit (.func (.func 176) #[] #[])] [] (eBool (!s.data.toList.all signB)) := by
 rw [← idx_all]
 exact FnOK.of_calls (vs := [.string s, .func (.func 176) #[] #[]]) fun w ht => f141_calls 176 c176 (fun r => !signC (r : Int)) s w ht fun W x ht _ => (f176_ok (x : Int)).below (vs := [.int .i32 (x : Int)]) W ht
theorem size_len (s : ByteArray) : s.size = s.data.toList.length := (Array.length_toList (xs := s.data)).symm
theorem first_get {l : List UInt8} (h : 1 ≤ l.length) : ∃ b r, l = b :: r ∧ l[0]? = some b := by
 cases l with
 | nil => simp at h
 | cons b r => exact ⟨b, r, rfl, rfl⟩
theorem u8_i32 (b : UInt8) : IntKind.i32.wrap (b.toNat : Int) = (b.toNat : Int) := by
 have h : b.toNat < 256 := UInt8.toNat_lt b
 rw [IntKind.wrap_i32]; omega
theorem f139_ok (s : ByteArray) : FnOK Tryz.prog 139 [] [eStr s] [] (eBool (rightS s)) := by
 have hsz : s.size = s.data.toList.length := size_len s
 have hb0 : 1 ≤ s.data.toList.length → ∃ b r, s.data.toList = b :: r ∧ s.data.toList[0]? = some b := first_get
 refine FnOK.startC (rvs := [.tmp 2]) G G_good Tryz.func139 rfl Tryz.ntmps139 rfl rfl ?_; with_reducible refine wD ?_
 repeat' (first
  | refine aE ?_ ?_
  | ((with_reducible show IfK _ _ _ _); first | refine iK ?_ | (refine IfK.mk (fun _ => ?_) (fun _ => ?_) <;> with_reducible refine wK ?_))
  | ((with_reducible refine kQ 141 ?_); refine CallK.lit [] (f141_ok _) c141 ⟨rfl, MF_refl 12 _ rfl, trivial⟩ rfl rfl ?_; with_reducible refine wK ?_)
  | ((with_reducible refine kQ 142 ?_); refine cL (f142_ok _) c142 ?_; with_reducible refine wK ?_)
  | ((with_reducible refine kQ 140 ?_); refine cL (f140_ok _) c140 ?_; with_reducible refine wK ?_)
  | ((with_reducible show IdxSK _ _ _ _ _); obtain ⟨b, r, hl, hb⟩ := hb0 (by simp only [decide_eq_false_iff_not] at *; omega); refine IdxSK.mk 0 b rfl hb ?_; with_reducible refine wK ?_)
  | ((with_reducible show ConvK _ _ _ _ _ _ _); refine ConvK.int (by kernel_rfl) (by kernel_rfl) (u8_i32 _) ?_; with_reducible refine wK ?_)
  | apply trivial)
 all_goals (simp only [decide_eq_true_eq, decide_eq_false_iff_not, hsz] at *; unfold rightS rightL)
 ·rw [show decide (1 ≤ s.data.toList.length) = false from decide_eq_false (by omega)]; rfl
 ·rw [show decide (s.data.toList.length ≤ 40) = false from decide_eq_false (by omega)]; simp
 ·rw [show s.data.toList.all signB = false from by simp_all]; simp
 all_goals rw [show decide (1 ≤ s.data.toList.length) = true from decide_eq_true (by omega), show decide (s.data.toList.length ≤ 40) = true from decide_eq_true (by omega), show s.data.toList.all signB = true from by simp_all, hl]; simp_all [firstB]
theorem right_size {s : ByteArray} (h : rightS s = true) : s.size ≤ 40 := by
 unfold rightS rightL at h
 simp only [Bool.and_eq_true, decide_eq_true_eq] at h
 rw [size_len]; exact h.1.1.2
theorem right_small {s : ByteArray} (h : (!rightS s) = false) : s.size ≤ 100000 := by
 have := right_size (s := s) (by simpa using h)
 omega
theorem f134_ok (s : ByteArray) : FnOK Tryz.prog 134 [] [eStr s] [] (.tup [eStr (if rightS s then lowS s else ⟨#[]⟩), eInt (if rightS s then 0 else 4)]) := by
 refine FnOK.startC (rvs := [.tmp 2, .tmp 3]) G G_good Tryz.func134 rfl Tryz.ntmps134 rfl rfl ?_; with_reducible refine wD ?_
 repeat' (first
  | refine aE ?_ ?_
  | ((with_reducible show IfK _ _ _ _); first | refine iK ?_ | (refine IfK.mk (fun _ => ?_) (fun _ => ?_) <;> with_reducible refine wK ?_))
  | ((with_reducible refine kQ 139 ?_); refine cL (f139_ok _) c139 ?_; with_reducible refine wK ?_)
  | ((with_reducible refine kQ 168 ?_); refine CallK.lit [] (f168_ok _ (right_small (by assumption))) c168 ⟨rfl, trivial⟩ rfl rfl ?_; with_reducible refine wK ?_)
  | apply trivial)
 all_goals simp_all
def strOf (l : List UInt8) : ByteArray := ⟨l.toArray⟩
structure AttrM where
 name : ByteArray
 value : ByteArray
 deriving DecidableEq
@[reducible] def eAttr (a : AttrM) : AV := .agg [eStr a.name, eStr a.value]
def oAttr (a : AttrM) : AV := eAttr a
@[reducible] def eAttrs (l : List AttrM) : AV := .sl 2 (l.map oAttr)
theorem MFL_refl {tab : List (Nat × Nat)} {fz : Nat → Bool} {m : ML} {n : Nat} : ∀ {cs : List AV}, noRefL cs = true → MFL (MF tab fz m n) cs cs
 | [], _ => trivial
 | c :: cs, h => by
   simp only [noRefL, Bool.and_eq_true] at h
   exact ⟨MF_refl n c h.1, MFL_refl h.2⟩
theorem f170_ok (a : AttrM) (n : ByteArray) : FnOK Tryz.prog 170 [] [eAttr a, .fptr (eStr n) 0] [] (eBool (decide (a.name = n))) := by
 refine FnOK.startC (rvs := [.tmp 3]) G G_good Tryz.func170 rfl Tryz.ntmps170 rfl rfl ?_; with_reducible refine wD ?_
 (refine eK ?_ ?_ <;> with_reducible repeat' (first | exact trivial | (show _ ∧ _; refine aK ?_ ?_)))
def badA (a : AttrM) : Bool := !(rightS a.name && decide (lowS a.name = a.name) && decide (a.value.size ≤ 200))
theorem f165_ok (a : AttrM) : FnOK Tryz.prog 165 [] [eAttr a] [] (eBool (badA a)) := by
 obtain ⟨n, v⟩ := a
 refine FnOK.startC (rvs := [.tmp 2]) G G_good Tryz.func165 rfl Tryz.ntmps165 rfl rfl ?_; with_reducible refine wD ?_
 refine cL (f134_ok _) c134 ?_; with_reducible refine wK ?_
 repeat' (first
  | refine aE ?_ ?_
  | ((with_reducible show IfK _ _ _ _); first | refine iK ?_ | (refine IfK.mk (fun _ => ?_) (fun _ => ?_) <;> with_reducible refine wK ?_))
  | apply trivial)
 all_goals (unfold badA; cases hr : rightS n <;> simp_all)
 by_cases h2 : v.size ≤ 200
 ·rw [decide_eq_true h2, decide_eq_false (by (try simp only [castN]); omega)]; rfl
 ·rw [decide_eq_false h2, decide_eq_true (by (try simp only [castN]); omega)]; rfl
def idxI {α : Type} (p : α → Bool) (l : List α) : Int := match l.findIdx? p with | some i => (i : Int) | none => -1
theorem idxI_hit {α : Type} {p : α → Bool} {l : List α} {k : Nat} {a : α} (h : l[k]? = some a) (hp : p a = true) (hno : ∀ (j : Nat) (x : α), j < k → l[j]? = some x → p x = false) : idxI p l = k := by
 have : l.findIdx? p = some k := by
  rw [List.findIdx?_eq_some_iff_getElem]
  obtain ⟨hk, hx⟩ := List.getElem?_eq_some_iff.1 h
  exact ⟨hk, by rw [hx]; exact hp, fun j hj => by simpa using hno j _ hj (List.getElem?_eq_getElem (by omega))⟩
 rw [idxI, this]
theorem idxI_none {α : Type} {p : α → Bool} {l : List α} (hno : ∀ (j : Nat) (x : α), l[j]? = some x → p x = false) : idxI p l = -1 := by
 have : l.findIdx? p = none := by
  rw [List.findIdx?_eq_none_iff]
  intro x hx
  obtain ⟨j, hj⟩ := List.getElem?_of_mem hx
  exact hno j x hj
 rw [idxI, this]
theorem attr_get {l : List AttrM} {k : Nat} {a : AttrM} (h : l[k]? = some a) : (l.map oAttr)[k]? = some (eAttr a) := by rw [List.getElem?_map, h]; rfl
theorem f169_ok (g : Nat) (cg : Callable Tryz.prog g) (caps : List AV) (hcaps : noRefL caps = true) (p : AttrM → Bool) (l : List AttrM) (hl : l.length ≤ 100000) (hf : ∀ a, a ∈ l → FnOK Tryz.prog g [] (eAttr a :: caps) [] (eBool (p a))) :
  FnOK Tryz.prog 169 [] [eAttrs l, .clo (.func g) [] caps] [] (eInt (idxI p l)) := by
 have hlm : (l.map oAttr).length = l.length := List.length_map ..
 refine FnOK.startC (rvs := [.tmp 4]) G G_good Tryz.func169 rfl Tryz.ntmps169 rfl rfl ?_; with_reducible refine wD ?_
 refine LoopK.use G G_good (fun (k : Nat) => [(0, eAttrs l), (1, .clo (.func g) [] caps), (7, eInt l.length), (8, eInt k)]) (fun _ => []) (fun k => k ≤ l.length ∧ ∀ j x, j < k → l[j]? = some x → p x = false) (fun k => l.length - k) 0 ⟨Nat.zero_le _, fun j x h => by omega⟩
  ⟨⟨rfl, rfl⟩, ⟨rfl, ⟨rfl, trivial, MFL_refl hcaps⟩, by show (l.length : Int) = ((l.map oAttr).length : Int); rw [hlm], rfl, trivial⟩, trivial⟩ ?_
 rintro k ⟨hk, hno⟩
 with_reducible refine wK ?_
 refine IfK.mk (fun h1 => ?_) (fun h1 => ?_) <;> (try simp only [castN] at h1) <;> with_reducible refine wK ?_
 ·simp only [decide_eq_true_eq] at h1
  have hk' : k < l.length := by omega
  obtain ⟨a, ha⟩ : ∃ a, l[k]? = some a := ⟨_, List.getElem?_eq_getElem hk'⟩
  refine IdxK.mk k (eAttr a) rfl (attr_get ha) ?_; with_reducible refine wK ?_
  refine CallK.lit [] (hf a (List.mem_of_getElem? ha)) cg ⟨⟨rfl, rfl, trivial⟩, MFL_refl hcaps⟩ rfl rfl ?_; with_reducible refine wK ?_
  refine IfK.mk (fun h2 => ?_) (fun h2 => ?_) <;> (try simp only [castN] at h2) <;> with_reducible refine wK ?_
  ·(refine eK ?_ ?_ <;> with_reducible repeat' (first | exact trivial | (show _ ∧ _; refine aK ?_ ?_)))
   exact idxI_hit ha h2 hno
  ·refine nK ?_; with_reducible refine wK ?_
   refine NextK.mk (k + 1) ⟨by omega, fun j x hj hx => ?_⟩ (by omega) ⟨⟨rfl, rfl⟩, ⟨rfl, ⟨rfl, trivial, MFL_refl hcaps⟩, rfl, by show ((k + 1 : Nat) : Int) = (k : Int) + 1; omega, trivial⟩, trivial⟩
   rcases Nat.lt_or_ge j k with h6 | h6
   ·exact hno j x h6 hx
   ·have : j = k := by omega
    subst this
    rw [ha] at hx; cases hx; exact h2
 ·(refine eK ?_ ?_ <;> with_reducible repeat' (first | exact trivial | (show _ ∧ _; refine aK ?_ ?_)))
  have : k = l.length := by simp only [decide_eq_false_iff_not] at h1; omega
  exact idxI_none fun j x hx => hno j x (by have := (List.getElem?_eq_some_iff.1 hx).1; omega) hx
theorem f166_ok (g : Nat) (cg : Callable Tryz.prog g) (caps : List AV) (hcaps : noRefL caps = true) (p : AttrM → Bool) (l : List AttrM) (hl : l.length ≤ 100000) (hf : ∀ a, a ∈ l → FnOK Tryz.prog g [] (eAttr a :: caps) [] (eBool (p a))) :
  FnOK Tryz.prog 166 [] [eAttrs l, .clo (.func g) [] caps] [] (eBool (l.any p)) := by
 refine FnOK.startC (rvs := [.tmp 4]) G G_good Tryz.func166 rfl Tryz.ntmps166 rfl rfl ?_; with_reducible refine wD ?_
 refine CallK.lit [] (f169_ok g cg caps hcaps p l hl hf) c169 ⟨rfl, ⟨rfl, trivial, MFL_refl hcaps⟩, trivial⟩ rfl rfl ?_; with_reducible refine wK ?_
 (refine eK ?_ ?_ <;> with_reducible repeat' (first | exact trivial | (show _ ∧ _; refine aK ?_ ?_)))
 unfold idxI
 cases h : l.findIdx? p with
 | none =>
   rw [List.findIdx?_eq_none_iff] at h
   have : l.any p = false := by rw [List.any_eq_false]; intro x hx; rw [h x hx]; simp
   rw [this]; rfl
 | some i =>
   rw [List.findIdx?_eq_some_iff_getElem] at h
   obtain ⟨hi, h1, _⟩ := h
   have : l.any p = true := List.any_eq_true.2 ⟨_, List.getElem_mem hi, h1⟩
   rw [this]; exact (decide_eq_true (Int.natCast_nonneg i)).symm
theorem f135_ok (l : List AttrM) (hl : l.length ≤ 100000) (n : ByteArray) : FnOK Tryz.prog 135 [] [eAttrs l, eStr n] [] (eInt (idxI (fun a => decide (a.name = n)) l)) := by
 refine FnOK.startC (rvs := [.tmp 4]) G G_good Tryz.func135 rfl Tryz.ntmps135 rfl rfl ?_; with_reducible refine wD ?_
 refine CallK.lit [30] (f169_ok 170 c170 [.fptr (eStr n) 0] rfl (fun a => decide (a.name = n)) l hl fun a _ => f170_ok a n) c169 ⟨rfl, ⟨rfl, trivial, ⟨_, _, _, _, _, rfl, rfl, rfl, rfl, rfl, rfl⟩, trivial⟩, trivial⟩ rfl rfl ?_; with_reducible refine wK ?_
 (refine eK ?_ ?_ <;> with_reducible repeat' (first | exact trivial | (show _ ∧ _; refine aK ?_ ?_)))
def okA (a : AttrM) : Bool := rightS a.name && decide (lowS a.name = a.name) && decide (a.value.size ≤ 200)
theorem badA_eq (a : AttrM) : badA a = !okA a := rfl
def hasName (n : ByteArray) (a : AttrM) : Bool := decide (a.name = n)
def posA (l : List AttrM) (n : ByteArray) : Int := idxI (hasName n) l
def rightA (l : List AttrM) : Bool := decide (l.length ≤ 40) && l.all okA && decide ((l.map AttrM.name).Nodup)
def tabFrom (t : List (ByteArray × AttrM)) (l : List AttrM) : List (ByteArray × AttrM) := l.foldl (fun t a => tput a.name a t) t
def tabL (l : List AttrM) : List (ByteArray × AttrM) := tabFrom [] l
theorem tput_len {K α : Type} [DecidableEq K] (k : K) (x : α) : ∀ t : List (K × α), (tput k x t).length = if (tget k t).isSome then t.length else t.length + 1
 | [] => rfl
 | p :: r => by
   simp only [tput, tget]
   split
   ·simp
   ·rw [List.length_cons, tput_len k x r]; split <;> simp
theorem tabFrom_len : ∀ (l : List AttrM) (t : List (ByteArray × AttrM)), (tabFrom t l).length ≤ t.length + l.length ∧ ((tabFrom t l).length = t.length + l.length ↔ (l.map AttrM.name).Nodup ∧ ∀ a ∈ l, (tget a.name t).isSome = false)
 | [], t => by simp [tabFrom]
 | a :: r, t => by
   obtain ⟨h1, h2⟩ := tabFrom_len r (tput a.name a t)
   have hl := tput_len a.name a t
   show (tabFrom (tput a.name a t) r).length ≤ _ ∧ ((tabFrom (tput a.name a t) r).length = _ ↔ _)
   cases hg : (tget a.name t).isSome with
   | true =>
     rw [hg, if_pos rfl] at hl
     refine ⟨by simp only [List.length_cons]; omega, ⟨fun h => ?_, fun h => ?_⟩⟩
     ·simp only [List.length_cons] at h; omega
     ·have := h.2 a (by simp); rw [hg] at this; cases this
   | false =>
     rw [hg, if_neg (by simp)] at hl
     refine ⟨by simp only [List.length_cons]; omega, ?_⟩
     rw [show (tabFrom (tput a.name a t) r).length = t.length + (a :: r).length ↔ (tabFrom (tput a.name a t) r).length = (tput a.name a t).length + r.length from by rw [hl, List.length_cons]; omega, h2]
     simp only [List.map_cons, List.nodup_cons, List.mem_cons, forall_eq_or_imp]
     constructor
     ·rintro ⟨k1, k2⟩
      refine ⟨⟨fun hm => ?_, k1⟩, hg, fun b hb => ?_⟩
      ·obtain ⟨b, hb, he⟩ := List.mem_map.1 hm
       have := k2 b hb
       rw [tget_put, he, if_pos rfl] at this; cases this
      ·have := k2 b hb
       rw [tget_put] at this
       split at this
       ·cases this
       ·exact this
     ·rintro ⟨⟨k1, k2⟩, _, k3⟩
      refine ⟨k2, fun b hb => ?_⟩
      rw [tget_put, if_neg (fun e => k1 (List.mem_map.2 ⟨b, hb, e.symm⟩))]
      exact k3 b hb
theorem tabL_len (l : List AttrM) : (tabL l).length = l.length ↔ (l.map AttrM.name).Nodup := by
 have := (tabFrom_len l []).2
 simp only [List.length_nil, Nat.zero_add] at this
 exact this.trans ⟨fun h => h.1, fun h => ⟨h, fun _ _ => rfl⟩⟩
theorem tabL_le (l : List AttrM) : (tabL l).length ≤ l.length := by
 have := (tabFrom_len l []).1
 simp only [List.length_nil, Nat.zero_add] at this
 exact this
theorem tabL_snoc {l : List AttrM} {k : Nat} {a : AttrM} (h : l[k]? = some a) : tabL (l.take (k + 1)) = tput a.name a (tabL (l.take k)) := by
 have hk := (List.getElem?_eq_some_iff.1 h).1
 rw [List.take_succ_eq_append_getElem hk, (List.getElem?_eq_some_iff.1 h).2]
 simp [tabL, tabFrom, List.foldl_append]
@[reducible] def rTab (l : List AttrM) : MS := .live 2 (tRows Value.string oAttr (tabL l)) false
theorem noRef_tabA (t : List (ByteArray × AttrM)) : noRefL (tRows Value.string oAttr t) = true := by
 rw [noRefL_iff]; intro x hx
 obtain ⟨a, _, rfl⟩ := List.mem_map.1 hx
 rfl
theorem map64 : MapTy Tryz.prog 204 .string (.agg #[.string ByteArray.empty, .string ByteArray.empty]) := ⟨9, 130, by kernel_rfl, by kernel_rfl, fun w => Tryz.zeroValue130 w⟩
theorem f167_ok (l : List AttrM) (hl : l.length ≤ 100000) : FnOK Tryz.prog 167 [] [eAttrs l] [rTab l] (.mapr 0) := by
 have hlm : (l.map oAttr).length = l.length := List.length_map ..
 refine FnOK.startC (rvs := [.tmp 2]) G G_good Tryz.func167 rfl Tryz.ntmps167 rfl rfl ?_; with_reducible refine wD ?_
 refine LoopK.use G G_good (fun (k : Nat) => [(3, .mapr 61), (7, eAttrs l), (8, eInt l.length), (9, eInt k)]) (fun k => [(61, .live 2 (tRows Value.string oAttr (tabL (l.take k))) false)]) (fun k => k ≤ l.length) (fun k => l.length - k) 0 (Nat.zero_le _)
  ⟨⟨rfl, rfl⟩, ⟨trivial, rfl, by show (l.length : Int) = ((l.map oAttr).length : Int); rw [hlm], rfl, trivial⟩, ⟨.refl rfl, rfl⟩, trivial⟩ ?_
 intro k hk
 with_reducible refine wK ?_
 refine IfK.mk (fun h1 => ?_) (fun h1 => ?_) <;> (try simp only [castN] at h1) <;> with_reducible refine wK ?_
 ·simp only [decide_eq_true_eq] at h1
  have hk' : k < l.length := by omega
  obtain ⟨a, ha⟩ : ∃ a, l[k]? = some a := ⟨_, List.getElem?_eq_getElem hk'⟩
  obtain ⟨n, v⟩ := a
  refine IdxK.mk k (eAttr ⟨n, v⟩) rfl (attr_get ha) ?_; with_reducible refine wK ?_
  have hle : (tabL (l.take k)).length ≤ k := Nat.le_trans (tabL_le _) (by simp; omega)
  refine PutK.tab Value.string oAttr (tabL (l.take k)) (k := n) ⟨n, v⟩ map64 rfl key_str inj_str (by unfold maxLen; omega) rfl ?_; with_reducible refine wK ?_
  refine nK ?_; with_reducible refine wK ?_
  refine NextK.mk (k + 1) (by omega) (by omega) ⟨⟨rfl, rfl⟩, ⟨trivial, rfl, rfl, by show ((k + 1 : Nat) : Int) = (k : Int) + 1; omega, trivial⟩, ⟨?_, ?_⟩, trivial⟩
  ·rw [tabL_snoc ha]; exact .refl (noRef_tabA _)
  ·exact noRef_tabA _
 ·(refine eK ?_ ?_ <;> with_reducible repeat' (first | exact trivial | (show _ ∧ _; refine aK ?_ ?_)))
  have : k = l.length := by simp only [decide_eq_false_iff_not] at h1; omega
  rw [this, List.take_length]
  exact MFL_refl (noRef_tabA _)
theorem FnOK.fn1 {P : Program} {f g : FuncId} {a : AV} {outs : List MS} {res : AV} (h : FnOK P f [] [a, .clo (.func g) [] []] outs res) : FnOK P f [] [a, .lit (.func (.func g) #[] #[])] outs res := by
 intro w W0 L vs hL hs hr
 refine h w W0 L vs hL hs ⟨hr.1, fun j c v h1 h2 => ?_⟩
 match j with
 | 0 => exact hr.2 0 c v h1 h2
 | 1 =>
   have := hr.2 1 _ v rfl h2
   cases this
   simp at h1
   subst h1
   exact Rep.clo (va := []) (vb := []) rfl rfl (fun j c v h => by simp at h) (fun j c v h => by simp at h)
 | j + 2 => simp at h1
theorem right_bad (l : List AttrM) : l.any badA = !l.all okA := by
 induction l with
 | nil => rfl
 | cons a r ih => simp [List.any_cons, List.all_cons, ih, badA_eq]
theorem tab_outs (l : List AttrM) : okOuts [rTab l] := by
 refine ⟨Wide.of_mem fun r hr => ?_, noRef_tabA _, trivial⟩
 obtain ⟨p, _, rfl⟩ := List.mem_map.1 hr
 rfl
theorem f133_ok (l : List AttrM) (hl : l.length ≤ 100000) : FnOK Tryz.prog 133 [] [eAttrs l] [] (eBool (rightA l)) := by
 have hlm : (l.map oAttr).length = l.length := List.length_map ..
 refine FnOK.startC (rvs := [.tmp 2]) G G_good Tryz.func133 rfl Tryz.ntmps133 rfl rfl ?_; with_reducible refine wD ?_
 repeat' (first
  | refine aE ?_ ?_
  | ((with_reducible show IfK _ _ _ _); first | refine iK ?_ | (refine IfK.mk (fun _ => ?_) (fun _ => ?_) <;> with_reducible refine wK ?_))
  | ((with_reducible refine kQ 166 ?_); refine CallK.lit [] (FnOK.fn1 (f166_ok 165 c165 [] rfl badA l hl fun a _ => f165_ok a)) c166 ⟨rfl, MF_refl 12 _ rfl, trivial⟩ rfl rfl ?_; with_reducible refine wK ?_)
  | ((with_reducible refine kQ 167 ?_); refine CallK.new 151 [] (f167_ok l hl) c167 ⟨rfl, trivial⟩ rfl rfl rfl (tab_outs l) rfl ?_; with_reducible refine wK ?_)
  | ((with_reducible show CountK _ _ _ _ _ _ _); refine CountK.mk map64 ⟨_, _, rfl⟩ rfl ?_; with_reducible refine wK ?_)
  | apply trivial)
 ·have h2 : l.all okA = true := by have := right_bad l; simp_all
  have e : (tRows Value.string oAttr (tabL l)).length = (tabL l).length := List.length_map ..
  have h3 : l.length ≤ 40 := by simp only [hlm, decide_eq_true_eq] at *; omega
  have h4 := tabL_len l
  unfold rightA
  rw [h2, decide_eq_true h3, e, hlm]
  by_cases hn : (l.map AttrM.name).Nodup
  ·rw [decide_eq_true hn, h4.2 hn]; simp
  ·rw [decide_eq_false hn]
   have : ¬ (tabL l).length = l.length := fun h => hn (h4.1 h)
   rw [decide_eq_false (by (try simp only [castN]); omega)]; rfl
 ·have h2 : l.all okA = false := by have := right_bad l; simp_all
  unfold rightA; rw [h2]; simp
 ·have h2 : decide (l.length ≤ 40) = false := by simp only [hlm, decide_eq_false_iff_not] at *; omega
  unfold rightA; rw [h2]; simp
def noS : ByteArray := ⟨#[]⟩
def findE (l : List AttrM) (n : ByteArray) : Int := if rightA l then (if rightS n then 0 else 4) else 1
def findS (l : List AttrM) (n : ByteArray) : ByteArray := if rightA l && rightS n then lowS n else noS
def findP (l : List AttrM) (n : ByteArray) : Int := if rightA l && rightS n then posA l (lowS n) else -1
theorem f88_ok (l : List AttrM) (hl : l.length ≤ 100000) (n : ByteArray) : FnOK Tryz.prog 88 [] [eAttrs l, eStr n] [] (.tup [eStr (findS l n), eInt (findP l n), eInt (findE l n)]) := by
 refine FnOK.startC (rvs := [.tmp 4, .tmp 5, .tmp 6]) G G_good Tryz.func88 rfl Tryz.ntmps88 rfl rfl ?_; with_reducible refine wD ?_
 repeat' (first
  | refine aE ?_ ?_
  | ((with_reducible show IfK _ _ _ _); first | refine iK ?_ | (refine IfK.mk (fun _ => ?_) (fun _ => ?_) <;> with_reducible refine wK ?_))
  | ((with_reducible refine kQ 133 ?_); refine cL (f133_ok l hl) c133 ?_; with_reducible refine wK ?_)
  | ((with_reducible refine kQ 134 ?_); refine cL (f134_ok _) c134 ?_; with_reducible refine wK ?_)
  | ((with_reducible refine kQ 135 ?_); refine cL (f135_ok l hl _) c135 ?_; with_reducible refine wK ?_)
  | apply trivial)
 all_goals (cases h1 : rightA l <;> cases h2 : rightS n <;> simp_all [findE, findS, findP, noS])
 rfl
def getS (l : List AttrM) (n : ByteArray) : ByteArray := if 0 ≤ findP l n then ((l[(findP l n).toNat]?).map AttrM.value).getD noS else noS
theorem idxI_cases {α : Type} (p : α → Bool) (l : List α) : idxI p l = -1 ∨ ∃ (k : Nat) (a : α), idxI p l = k ∧ l[k]? = some a ∧ p a = true := by
 unfold idxI
 cases h : l.findIdx? p with
 | none => exact .inl rfl
 | some k =>
   rw [List.findIdx?_eq_some_iff_getElem] at h
   obtain ⟨hk, h1, _⟩ := h
   exact .inr ⟨k, _, rfl, List.getElem?_eq_getElem hk, h1⟩
theorem findP_cases (l : List AttrM) (n : ByteArray) : findP l n = -1 ∨ ∃ (k : Nat) (a : AttrM), findP l n = k ∧ l[k]? = some a ∧ a.name = lowS n := by
 unfold findP
 split
 ·rcases idxI_cases (hasName (lowS n)) l with h | ⟨k, a, h1, h2, h3⟩
  ·exact .inl h
  ·exact .inr ⟨k, a, h1, h2, by simpa [hasName] using h3⟩
 ·exact .inl rfl
theorem f47_ok (l : List AttrM) (hl : l.length ≤ 100000) (n : ByteArray) : FnOK Tryz.prog 47 [] [eAttrs l, eStr n] [] (.tup [eStr (getS l n), eBool (decide (0 ≤ findP l n))]) := by
 refine FnOK.startC (rvs := [.tmp 4, .tmp 5]) G G_good Tryz.func47 rfl Tryz.ntmps47 rfl rfl ?_; with_reducible refine wD ?_
 refine cL (f88_ok l hl n) c88 ?_; with_reducible refine wK ?_
 rcases findP_cases l n with h | ⟨k, a, h, ha, hn⟩
 ·simp only [h]
  refine IfK.yes rfl ?_; with_reducible refine wK ?_
  (refine eK ?_ ?_ <;> with_reducible repeat' (first | exact trivial | (show _ ∧ _; refine aK ?_ ?_)))
  ·unfold getS; rw [h]; rfl
  ·rfl
 ·simp only [h]
  refine IfK.no (decide_eq_false (by (try simp only [castN]); omega)) ?_; with_reducible refine wK ?_
  refine IdxK.mk k (eAttr a) rfl (attr_get ha) ?_; with_reducible refine wK ?_
  (refine eK ?_ ?_ <;> with_reducible repeat' (first | exact trivial | (show _ ∧ _; refine aK ?_ ?_)))
  ·unfold getS; rw [h, if_pos (by omega), Int.toNat_natCast, ha]; rfl
  ·exact decide_eq_true (by omega)
end Go.Proofs.Heir
namespace Go.Proofs
open Go.Shelf
def Tryz.lays144_ren : Go.Shelf.Ren := ⟨fun | 144 => 143 | 143 => 179 | 219 => 198 | 217 => 211 | 225 => 212 | 224 => 213 | 267 => 214 | 266 => 222 | 314 => 223 | n => n, fun | 9 => 9 | 4 => 4 | 3 => 3 | 5 => 5 | 46 => 242 | 146 => 265 | 51 => 246 | n => n, fun | 1 => 2 | n => n⟩
theorem Tryz.lays144 : Go.Proofs.Lays.n144 Tryz.prog Tryz.lays144_ren := {
 mixed := by kernel_rfl
 f143 := Tryz.func179.trans (congrArg some (by kernel_rfl))
 f144 := Tryz.func143.trans (congrArg some (by kernel_rfl))
 f217 := Tryz.func211.trans (congrArg some (by kernel_rfl))
 f219 := Tryz.func198.trans (congrArg some (by kernel_rfl))
 f224 := Tryz.func213.trans (congrArg some (by kernel_rfl))
 f225 := Tryz.func212.trans (congrArg some (by kernel_rfl))
 f266 := Tryz.func222.trans (congrArg some (by kernel_rfl))
 f267 := Tryz.func214.trans (congrArg some (by kernel_rfl))
 f314 := Tryz.func223.trans (congrArg some (by kernel_rfl))
 t3 := Tryz.underlying3
 a3 := Tryz.isAgg3
 z3 := Tryz.sizeOf3
 v3 := Tryz.zeroValue3
 t4 := Tryz.underlying4
 a4 := Tryz.isAgg4
 z4 := Tryz.sizeOf4
 v4 := Tryz.zeroValue4
 t5 := Tryz.underlying5
 a5 := Tryz.isAgg5
 z5 := Tryz.sizeOf5
 v5 := Tryz.zeroValue5
 t9 := Tryz.underlying9
 a9 := Tryz.isAgg9
 z9 := Tryz.sizeOf9
 v9 := Tryz.zeroValue9
 t46 := Tryz.underlying242
 a46 := Tryz.isAgg242
 z46 := Tryz.sizeOf242
 v46 := Tryz.zeroValue242
 t51 := Tryz.underlying246
 a51 := Tryz.isAgg246
 z51 := Tryz.sizeOf246
 v51 := Tryz.zeroValue246
 t146 := Tryz.underlying265
 a146 := Tryz.isAgg265
 z146 := Tryz.sizeOf265
 v146 := Tryz.zeroValue265
 g1 := by kernel_rfl }
open Go.RowKit Go.Lib in
theorem Tryz.strings_Contains_one (s : ByteArray) (c : UInt8) (w : World) :
  Calls Tryz.prog 143 #[.string s, .string ⟨#[c]⟩] w fun e w' => e = .returned (.bool (decide (0 ≤ Lib.indexByte s.data.toList c))) ∧ w' = w := Any.strings_Contains_one Tryz.lays144 s c w
def Tryz.lays157_ren : Go.Shelf.Ren := ⟨fun | 157 => 181 | 229 => 199 | 199 => 200 | 261 => 215 | 311 => 224 | 312 => 225 | n => n, fun | 9 => 9 | 31 => 59 | 3 => 3 | 5 => 5 | 4 => 4 | 119 => 226 | 0 => 0 | 40 => 176 | 152 => 243 | 21 => 21 | 154 => 245 | 51 => 246 | 141 => 248 | 196 => 270 | 193 => 267 | 198 => 273 | 49 => 271 | 194 => 268 | 201 => 276 | 226 => 278 | 46 => 242 | 227 => 279 | n => n, fun | 0 => 0 | 6 => 3 | n => n⟩
theorem Tryz.lays157 : Go.Proofs.Lays.n157 Tryz.prog Tryz.lays157_ren := {
 mixed := by kernel_rfl
 f157 := Tryz.func181.trans (congrArg some (by kernel_rfl))
 f199 := Tryz.func200.trans (congrArg some (by kernel_rfl))
 f229 := Tryz.func199.trans (congrArg some (by kernel_rfl))
 f261 := Tryz.func215.trans (congrArg some (by kernel_rfl))
 f311 := Tryz.func224.trans (congrArg some (by kernel_rfl))
 f312 := Tryz.func225.trans (congrArg some (by kernel_rfl))
 t0 := Tryz.underlying0
 a0 := Tryz.isAgg0
 z0 := Tryz.sizeOf0
 v0 := Tryz.zeroValue0
 t3 := Tryz.underlying3
 a3 := Tryz.isAgg3
 z3 := Tryz.sizeOf3
 v3 := Tryz.zeroValue3
 t4 := Tryz.underlying4
 a4 := Tryz.isAgg4
 z4 := Tryz.sizeOf4
 v4 := Tryz.zeroValue4
 t5 := Tryz.underlying5
 a5 := Tryz.isAgg5
 z5 := Tryz.sizeOf5
 v5 := Tryz.zeroValue5
 t9 := Tryz.underlying9
 a9 := Tryz.isAgg9
 z9 := Tryz.sizeOf9
 v9 := Tryz.zeroValue9
 t21 := Tryz.underlying21
 a21 := Tryz.isAgg21
 z21 := Tryz.sizeOf21
 v21 := Tryz.zeroValue21
 t31 := Tryz.underlying59
 a31 := Tryz.isAgg59
 z31 := Tryz.sizeOf59
 v31 := Tryz.zeroValue59
 t40 := Tryz.underlying176
 a40 := Tryz.isAgg176
 z40 := Tryz.sizeOf176
 v40 := Tryz.zeroValue176
 t46 := Tryz.underlying242
 a46 := Tryz.isAgg242
 z46 := Tryz.sizeOf242
 v46 := Tryz.zeroValue242
 t49 := Tryz.underlying271
 a49 := Tryz.isAgg271
 z49 := Tryz.sizeOf271
 v49 := Tryz.zeroValue271
 t51 := Tryz.underlying246
 a51 := Tryz.isAgg246
 z51 := Tryz.sizeOf246
 v51 := Tryz.zeroValue246
 t119 := Tryz.underlying226
 a119 := Tryz.isAgg226
 z119 := Tryz.sizeOf226
 t141 := Tryz.underlying248
 a141 := Tryz.isAgg248
 z141 := Tryz.sizeOf248
 v141 := Tryz.zeroValue248
 t152 := Tryz.underlying243
 a152 := Tryz.isAgg243
 z152 := Tryz.sizeOf243
 v152 := Tryz.zeroValue243
 t154 := Tryz.underlying245
 a154 := Tryz.isAgg245
 z154 := Tryz.sizeOf245
 v154 := Tryz.zeroValue245
 t193 := Tryz.underlying267
 a193 := Tryz.isAgg267
 z193 := Tryz.sizeOf267
 v193 := Tryz.zeroValue267
 t194 := Tryz.underlying268
 a194 := Tryz.isAgg268
 z194 := Tryz.sizeOf268
 v194 := Tryz.zeroValue268
 t196 := Tryz.underlying270
 a196 := Tryz.isAgg270
 z196 := Tryz.sizeOf270
 v196 := Tryz.zeroValue270
 t198 := Tryz.underlying273
 a198 := Tryz.isAgg273
 z198 := Tryz.sizeOf273
 v198 := Tryz.zeroValue273
 t201 := Tryz.underlying276
 a201 := Tryz.isAgg276
 z201 := Tryz.sizeOf276
 v201 := Tryz.zeroValue276
 t226 := Tryz.underlying278
 a226 := Tryz.isAgg278
 z226 := Tryz.sizeOf278
 v226 := Tryz.zeroValue278
 t227 := Tryz.underlying279
 a227 := Tryz.isAgg279
 z227 := Tryz.sizeOf279
 v227 := Tryz.zeroValue279
 g0 := by kernel_rfl
 g6 := by kernel_rfl }
end Go.Proofs
namespace Go.Proofs.Heir
open Go Go.Am Go.RowKit Go.Lib
set_option maxRecDepth 100000
set_option maxHeartbeats 8000000
def oStr (s : ByteArray) : AV := eStr s
@[reducible] def eStrs (l : List ByteArray) : AV := .sl 1 (l.map oStr)
@[reducible] def rStrs (l : List ByteArray) : MS := .live 1 (l.map oStr) false
theorem noRef_strs (l : List ByteArray) : noRefL (l.map oStr) = true := by
 rw [noRefL_iff]; intro x hx
 obtain ⟨a, _, rfl⟩ := List.mem_map.1 hx
 rfl
theorem strs_get {l : List ByteArray} {k : Nat} {a : ByteArray} (h : l[k]? = some a) : (l.map oStr)[k]? = some (eStr a) := by rw [List.getElem?_map, h]; rfl
theorem strs_outs (l : List ByteArray) : okOuts [rStrs l] := ⟨Wide.of_mem fun r hr => by obtain ⟨a, _, rfl⟩ := List.mem_map.1 hr; rfl, noRef_strs l, trivial⟩
theorem frz_strs {m : ML} {fz : Nat → Bool} {tab : List (Nat × Nat)} {n t len : Nat} {ro : Bool} {rows : List AV} {l : List ByteArray} (h1 : lkM m t = .live 1 rows ro) (h2 : fz t = true) (h3 : rows = l.map oStr) (h4 : len = l.length) : FrzK m fz (MF tab fz m n) (eStrs l) t 0 len := by
 subst h3; subst h4
 have e : (l.map oStr).length = l.length := List.length_map ..
 exact .cut h1 h2 (by omega) (by rw [List.drop_zero, List.take_of_length_le (by omega)]) (noRef_strs l)
theorem f180_ok (l : List ByteArray) (hl : l.length ≤ 100000) (s : ByteArray) : FnOK Tryz.prog 180 [] [eStrs l, eStr s] [] (eInt (idxI (fun x => decide (x = s)) l)) := by
 have hlm : (l.map oStr).length = l.length := List.length_map ..
 refine FnOK.startC (rvs := [.tmp 4]) G G_good Tryz.func180 rfl Tryz.ntmps180 rfl rfl ?_; with_reducible refine wD ?_
 refine LoopK.use G G_good (fun (k : Nat) => [(0, eStrs l), (1, eStr s), (7, eInt l.length), (8, eInt k)]) (fun _ => []) (fun k => k ≤ l.length ∧ ∀ j x, j < k → l[j]? = some x → decide (x = s) = false) (fun k => l.length - k) 0 ⟨Nat.zero_le _, fun j x h => by omega⟩
  ⟨⟨rfl, rfl⟩, ⟨rfl, rfl, by show (l.length : Int) = ((l.map oStr).length : Int); rw [hlm], rfl, trivial⟩, trivial⟩ ?_
 rintro k ⟨hk, hno⟩
 with_reducible refine wK ?_
 refine IfK.mk (fun h1 => ?_) (fun h1 => ?_) <;> (try simp only [castN] at h1) <;> with_reducible refine wK ?_
 ·simp only [decide_eq_true_eq] at h1
  have hk' : k < l.length := by omega
  obtain ⟨a, ha⟩ : ∃ a, l[k]? = some a := ⟨_, List.getElem?_eq_getElem hk'⟩
  refine IdxK.mk k (eStr a) rfl (strs_get ha) ?_; with_reducible refine wK ?_
  refine IfK.mk (fun h2 => ?_) (fun h2 => ?_) <;> (try simp only [castN] at h2) <;> with_reducible refine wK ?_
  ·(refine eK ?_ ?_ <;> with_reducible repeat' (first | exact trivial | (show _ ∧ _; refine aK ?_ ?_)))
   refine idxI_hit (p := fun x => decide (x = s)) ha ?_ hno
   simp only [decide_eq_true_eq] at h2 ⊢; exact h2.symm
  ·refine nK ?_; with_reducible refine wK ?_
   refine NextK.mk (k + 1) ⟨by omega, fun j x hj hx => ?_⟩ (by omega) ⟨⟨rfl, rfl⟩, ⟨rfl, rfl, rfl, by show ((k + 1 : Nat) : Int) = (k : Int) + 1; omega, trivial⟩, trivial⟩
   rcases Nat.lt_or_ge j k with h3 | h3
   ·exact hno j x h3 hx
   ·have : j = k := by omega
    subst this
    rw [ha] at hx; cases hx
    simp only [decide_eq_false_iff_not] at h2 ⊢; exact fun e => h2 e.symm
 ·(refine eK ?_ ?_ <;> with_reducible repeat' (first | exact trivial | (show _ ∧ _; refine aK ?_ ?_)))
  exact idxI_none fun j x hx => hno j x (by have := (List.getElem?_eq_some_iff.1 hx).1; simp only [decide_eq_false_iff_not] at h1; omega) hx
def hasW (l : List ByteArray) (s : ByteArray) : Bool := l.any fun x => decide (x = s)
theorem hasW_iff {l : List ByteArray} {s : ByteArray} : hasW l s = true ↔ s ∈ l := by
 unfold hasW; rw [List.any_eq_true]
 exact ⟨fun ⟨x, hx, e⟩ => by rw [← of_decide_eq_true e]; exact hx, fun h => ⟨s, h, decide_eq_true rfl⟩⟩
theorem idxI_mem {l : List ByteArray} {s : ByteArray} : decide (0 ≤ idxI (fun x => decide (x = s)) l) = hasW l s := by
 rw [Bool.eq_iff_iff, decide_eq_true_eq, hasW_iff]
 unfold idxI
 cases h : l.findIdx? (fun x => decide (x = s)) with
 | none =>
   rw [List.findIdx?_eq_none_iff] at h
   simp only
   refine ⟨fun h' => by omega, fun hs => ?_⟩
   have := h s hs
   simp at this
 | some k =>
   rw [List.findIdx?_eq_some_iff_getElem] at h
   obtain ⟨hk, h2, _⟩ := h
   simp only
   exact ⟨fun _ => by rw [← of_decide_eq_true h2]; exact List.getElem_mem hk, fun _ => by omega⟩
theorem f144_ok (l : List ByteArray) (hl : l.length ≤ 100000) (s : ByteArray) : FnOK Tryz.prog 144 [] [eStrs l, eStr s] [] (eBool (hasW l s)) := by
 rw [← idxI_mem]
 refine FnOK.startC (rvs := [.tmp 4]) G G_good Tryz.func144 rfl Tryz.ntmps144 rfl rfl ?_; with_reducible refine wD ?_
 refine cL (f180_ok l hl s) c180 ?_; with_reducible refine wK ?_
 (refine eK ?_ ?_ <;> with_reducible repeat' (first | exact trivial | (show _ ∧ _; refine aK ?_ ?_)))
def strB (l : List UInt8) : ByteArray := ⟨l.toArray⟩
def resL : List ByteArray := [strB [97, 110, 110, 111, 116, 97, 116, 105, 111, 110, 45, 120, 109, 108], strB [99, 111, 108, 111, 114, 45, 112, 114, 111, 102, 105, 108, 101], strB [102, 111, 110, 116, 45, 102, 97, 99, 101], strB [102, 111, 110, 116, 45, 102, 97, 99, 101, 45, 115, 114, 99],
 strB [102, 111, 110, 116, 45, 102, 97, 99, 101, 45, 117, 114, 105], strB [102, 111, 110, 116, 45, 102, 97, 99, 101, 45, 102, 111, 114, 109, 97, 116], strB [102, 111, 110, 116, 45, 102, 97, 99, 101, 45, 110, 97, 109, 101], strB [109, 105, 115, 115, 105, 110, 103, 45, 103, 108, 121, 112, 104]]
theorem f145_ok : FnOK Tryz.prog 145 [] [] [rStrs resL] (.own 0 0 8) := by
 refine FnOK.startC (rvs := [.tmp 0]) G G_good Tryz.func145 rfl Tryz.ntmps145 rfl rfl ?_; with_reducible refine wD ?_
 (refine eK ?_ ?_ <;> with_reducible repeat' (first | exact trivial | (show _ ∧ _; refine aK ?_ ?_)))
 all_goals first | rfl | exact MFL_refl (noRef_strs resL)
theorem f143_ok (s : ByteArray) (c : UInt8) : FnOK Tryz.prog 143 [] [eStr s, eStr ⟨#[c]⟩] [] (eBool (decide (0 ≤ Lib.indexByte s.data.toList c))) :=
 FnOK.of_calls (vs := [.string s, .string ⟨#[c]⟩]) (v := .bool _) fun w _ => (Go.Proofs.Tryz.strings_Contains_one s c w).mono fun e w' ⟨h1, h2⟩ => ⟨h1, by rw [h2]; exact Below.refl _ w⟩
theorem cut_strOf (s : ByteArray) (a b : Nat) : s.extract a b = strOf ((s.data.toList.take b).drop a) := by
 obtain ⟨l, rfl⟩ : ∃ l : List UInt8, s = ⟨l.toArray⟩ := ⟨s.data.toList, by obtain ⟨⟨l⟩⟩ := s; rfl⟩
 rw [ByteArray.extract_mk]
 unfold strOf
 rw [List.drop_take]
@[reducible] def knowB : List UInt8 := [97, 32, 98, 32, 98, 117, 116, 116, 111, 110, 32, 100, 105, 118, 32, 102, 105, 101, 108, 100, 115, 101, 116, 32, 102, 111, 114, 109, 32, 105, 32, 105, 110, 112, 117, 116, 32, 108, 97, 98, 101, 108, 32, 108, 101, 103, 101, 110, 100, 32, 108, 105, 32, 111, 112, 116, 105, 111, 110, 32, 111, 117, 116, 112, 117, 116, 32, 112, 32, 115, 101, 108, 101, 99, 116, 32, 115, 112, 97, 110, 32, 116, 101, 109, 112, 108, 97, 116, 101, 32, 116, 101, 120, 116, 97, 114, 101, 97, 32, 117, 108]
def knowL : List ByteArray := (Lib.fields knowB).map strB
theorem knowL_len : (Lib.fields knowB).length = 19 := by decide +kernel
theorem know_ascii : ∀ (j : Nat) b, (ByteArray.mk knowB.toArray).data.toList[j]? = some b → b.toNat < 128 := by
 intro j b h
 have h1 : knowB.all (fun b => decide (b.toNat < 128)) = true := by decide +kernel
 exact of_decide_eq_true (List.all_eq_true.1 h1 b (List.mem_of_getElem? h))
theorem flat_strs (l : List ByteArray) : flat (l.map oStr) = l.map oStr := by
 induction l with
 | nil => rfl
 | cons a r ih => show cells (oStr a) ++ flat (r.map oStr) = _; rw [ih]; rfl
theorem FnOK.at_strs {P : Program} {f : FuncId} {l : List ByteArray} {s : ByteArray} {b : Bool} (h : FnOK P f [] [eStrs l, eStr s] [] (eBool b)) {w : World} {blk cap : Nat} {arr : Array Value} {ty : TypeId} {fz : Nat × Nat} (hh : w.heap[blk]? = some (.cells arr ty fz))
  (harr : ∀ (i : Nat) (x : ByteArray), l[i]? = some x → arr[i]? = some (.string x)) (hcap : l.length ≤ cap) (ht : Tabs P w fun _ => none) :
  Calls P f #[.slice (some ⟨blk, 0, none⟩) l.length cap, .string s] w fun e w' => e = .returned (.bool b) ∧ Below w.heap.size w w' := by
 have hW : ∀ b, ¬ Wr (fun _ => False) (fun _ => none) (objsOf []) b := by
  rintro b (h | ⟨t, B, wd, rows, _, h, _⟩)
  ·exact h
  ·cases h
 have hblk : blk < w.heap.size := (Array.getElem?_eq_some_iff.1 hh).1
 refine (h w (fun _ => False) (fun _ => none) [.slice (some ⟨blk, 0, none⟩) l.length cap, .string s] (fun _ _ => rfl) (sim_start w ht) ⟨rfl, ?_⟩).mono ?_
 ·intro j c v h1 h2
  match j with
  | 0 =>
    simp at h1 h2; subst h1; subst h2
    have key : ∀ (q : Nat) (c : AV), (flat (l.map oStr))[q]? = some c → ∃ x, l[q]? = some x ∧ c = eStr x := by
     intro q c hq
     rw [flat_strs, List.getElem?_map] at hq
     cases hx : l[q]? with
     | none => rw [hx] at hq; cases hq
     | some x => rw [hx] at hq; exact ⟨x, rfl, (Option.some.inj hq).symm⟩
    refine .sl (f := fun q => arr.getD q undef) (hW _) hblk (by simp) hcap (fun i r hr => ?_) (fun q c hq => ?_) (fun q c hq => ?_) (fun c hc => ?_)
    ·rw [List.getElem?_map] at hr
     cases hx : l[i]? with
     | none => rw [hx] at hr; cases hr
     | some x => rw [hx] at hr; cases hr; rfl
    ·obtain ⟨x, hx, rfl⟩ := key q c hq
     have := harr q x hx
     simp [World.cell?, hh, this, Array.getD_eq_getD_getElem?]
    ·obtain ⟨x, hx, rfl⟩ := key q c hq
     have := harr q x hx
     simp only [Array.getD_eq_getD_getElem?, this, Option.getD_some]
     exact .lit
    ·rw [flat_strs] at hc
     obtain ⟨x, _, rfl⟩ := List.mem_map.1 hc
     rfl
  | 1 => simp at h1 h2; subst h1; subst h2; exact .lit
  | j + 2 => simp at h1
 ·rintro e w' ⟨v', μ', rfl, hs, hv⟩
  cases hv
  exact ⟨rfl, hs.os, hs.tape, hs.output, hs.hsize, fun b hb => hs.keep b hb (by rintro ⟨t, B, h, _⟩; cases h)⟩
theorem f151_calls (w : World) (ht : Tabs Tryz.prog w fun _ => none) : Calls Tryz.prog 151 #[] w fun e w' => e = .returned (.slice (some ⟨w.heap.size, 0, none⟩) 19 19) ∧ w' = w.alloc (.cells (knowL.map Value.string).toArray 9) := by
 have hf := Any.strings_Fields_core Go.Proofs.Tryz.lays157 (by kernel_rfl) (ByteArray.mk knowB.toArray) w (by decide) know_ascii (fun c hc => ((ht _ (by kernel_rfl)).2.2 c hc))
 have e1 : (ByteArray.mk knowB.toArray).data.toList = knowB := rfl
 rw [e1, knowL_len, show ((Lib.fields knowB).map fun l => Value.string ⟨l.toArray⟩) = knowL.map Value.string from by unfold knowL; rw [List.map_map]; rfl] at hf
 go_enter Tryz.func151, Tryz.ntmps151
 go_wp2_with (go_at_call 181; refine hf.mono ?_; rintro e w1 ⟨rfl, rfl⟩)
 go_ret
 exact ⟨rfl, rfl⟩
theorem f99_ok (s : ByteArray) : FnOK Tryz.prog 99 [] [eStr s] [] (eBool (hasW knowL s)) := by
 refine FnOK.of_calls (vs := [.string s]) (v := .bool (hasW knowL s)) fun w ht => ?_
 have hl : knowL.length = 19 := by unfold knowL; rw [List.length_map, knowL_len]
 have h29 := f151_calls w ht
 have hb : Below w.heap.size w (w.alloc (.cells (knowL.map Value.string).toArray 9)) := (Below.refl _ w).alloc (Nat.le_refl _) _
 have h26 := FnOK.at_strs (f144_ok knowL (by omega) s) (w := w.alloc (.cells (knowL.map Value.string).toArray 9)) (blk := w.heap.size) (cap := 19) (heap_alloc_new w _) (fun i x hx => by simp [hx]) (by omega) (ht.below hb)
 rw [hl] at h26
 go_enter Tryz.func99, Tryz.ntmps99
 go_wp2_with (first
  | (go_at_call 151; refine h29.mono ?_; rintro e w1 ⟨rfl, rfl⟩)
  | (go_at_call 144; refine h26.mono ?_; rintro e w2 ⟨rfl, hb2⟩))
 go_ret
 exact ⟨rfl, hb.trans (hb2.mono hb.size)⟩
@[reducible] def resB : List UInt8 := [97, 110, 110, 111, 116, 97, 116, 105, 111, 110, 45, 120, 109, 108, 32, 99, 111, 108, 111, 114, 45, 112, 114, 111, 102, 105, 108, 101, 32, 102, 111, 110, 116, 45, 102, 97, 99, 101, 32, 102, 111, 110, 116, 45, 102, 97, 99, 101, 45, 115, 114, 99, 32, 102, 111, 110, 116, 45, 102, 97, 99, 101, 45, 117, 114, 105, 32, 102, 111, 110, 116, 45, 102, 97, 99, 101, 45, 102, 111, 114, 109, 97, 116, 32, 102, 111, 110, 116, 45, 102, 97, 99, 101, 45, 110, 97, 109, 101, 32, 109, 105, 115, 115, 105, 110, 103, 45, 103, 108, 121, 112, 104]
def dashB (l : List UInt8) : Bool := l.any (fun b => decide (b = 45))
def capsB (l : List UInt8) : Bool := l.any (fun b => capC (b.toNat : Int))
def lowFirst : List UInt8 → Bool
 | [] => false
 | b :: _ => smallC (b.toNat : Int)
def customS (s : ByteArray) : Bool := rightS s && (lowFirst s.data.toList && (!capsB s.data.toList && (dashB s.data.toList && !hasW resL s)))
theorem dash_index (l : List UInt8) : decide (0 ≤ Lib.indexByte l 45) = dashB l := by
 rw [Bool.eq_iff_iff, decide_eq_true_eq]
 unfold dashB
 rw [List.any_eq_true]
 constructor
 ·intro h
  obtain ⟨o, ho⟩ : ∃ o : Nat, Lib.indexByte l 45 = o := ⟨(Lib.indexByte l 45).toNat, by omega⟩
  obtain ⟨h1, _⟩ := Lib.indexByte_some ho
  exact ⟨45, List.mem_of_getElem? h1, rfl⟩
 ·rintro ⟨b, hb, e⟩
  have := of_decide_eq_true e; subst this
  rcases Int.lt_or_le (Lib.indexByte l 45) 0 with h | h
  ·have : Lib.indexByte l 45 = -1 := by have := Lib.indexByte_ge l 45; omega
   obtain ⟨k, hk⟩ := List.getElem?_of_mem hb
   exact absurd hk (Lib.indexByte_none this k)
  ·exact h
theorem idx_plain (p : Nat → Bool) (s : ByteArray) (hs : ∀ b ∈ s.data.toList, b.toNat < 128) : ∀ (f pos : Nat), s.size ≤ pos + f → (0 ≤ idxFuncFrom p true s f pos ↔ ∃ i, pos ≤ i ∧ ∃ b, s.data.toList[i]? = some b ∧ p b.toNat = true)
 | 0, pos, h => by
   have : ¬ (0 : Int) ≤ idxFuncFrom p true s 0 pos := by simp [idxFuncFrom]
   refine ⟨fun h' => absurd h' this, ?_⟩
   rintro ⟨i, h1, b, h2, _⟩
   have := (List.getElem?_eq_some_iff.1 h2).1
   have : i < s.size := this
   omega
 | f + 1, pos, h => by
   by_cases hp : pos < s.size
   ·have ih := idx_plain p s hs f
    obtain ⟨b, hb1, hb2⟩ : ∃ b, s.data.toList[pos]? = some b ∧ s.get! pos = b := ⟨_, List.getElem?_eq_getElem hp, by show s.data[pos]! = _; rw [getElem!_pos s.data pos hp]; rfl⟩
    have hb3 := hs b (List.mem_of_getElem? hb1)
    unfold idxFuncFrom
    rw [if_pos hp, decode_at, hb2]
    have hd : ∀ n b1 b2 b3, decodeN n b.toNat b1 b2 b3 = (b.toNat, 1) := fun n b1 b2 b3 => by rw [decodeN, if_pos hb3]
    rw [hd]
    show (0 : Int) ≤ (if p b.toNat = true then (pos : Int) else idxFuncFrom p true s f (pos + 1)) ↔ _
    cases hpb : p b.toNat with
    | true => exact ⟨fun _ => ⟨pos, Nat.le_refl _, b, hb1, hpb⟩, fun _ => by simp⟩
    | false =>
      rw [if_neg (by simp), ih (pos + 1) (by omega)]
      constructor
      ·rintro ⟨i, h3, h4⟩; exact ⟨i, by omega, h4⟩
      ·rintro ⟨i, h3, b', h4, h5⟩
       rcases Nat.lt_or_ge pos i with h6 | h6
       ·exact ⟨i, h6, b', h4, h5⟩
       ·have : i = pos := by omega
        subst this
        rw [hb1] at h4; cases h4
        rw [hpb] at h5; cases h5
   ·rw [idxFuncFrom_end _ _ _ _ _ hp]
    refine ⟨fun h' => by omega, ?_⟩
    rintro ⟨i, h1, b, h2, _⟩
    have := (List.getElem?_eq_some_iff.1 h2).1
    have : i < s.size := this
    omega
theorem right_plain {s : ByteArray} (h : rightS s = true) : ∀ b ∈ s.data.toList, b.toNat < 128 := by
 intro b hb
 unfold rightS rightL at h
 simp only [Bool.and_eq_true, List.all_eq_true] at h
 have := h.1.2 b hb
 unfold signB signC smallC capC at this
 simp only [Bool.or_eq_true, Bool.and_eq_true, decide_eq_true_eq] at this
 omega
theorem caps_index {s : ByteArray} (h : rightS s = true) : decide (0 ≤ idxFunc (fun r => capC (r : Int)) true s) = capsB s.data.toList := by
 rw [Bool.eq_iff_iff, decide_eq_true_eq]
 unfold capsB
 rw [List.any_eq_true]
 have := idx_plain (fun r => capC (r : Int)) s (right_plain h) s.size 0 (by omega)
 refine Iff.trans this ⟨?_, ?_⟩
 ·rintro ⟨i, _, b, h1, h2⟩; exact ⟨b, List.mem_of_getElem? h1, h2⟩
 ·rintro ⟨b, h1, h2⟩
  obtain ⟨i, hi⟩ := List.getElem?_of_mem h1
  exact ⟨i, Nat.zero_le _, b, hi, h2⟩
theorem f20c_ok (s : ByteArray) (h : rightS s = true) : FnOK Tryz.prog 141 [] [eStr s, .lit (.func (.func 142) #[] #[])] [] (eBool (capsB s.data.toList)) := by
 rw [← caps_index h]
 exact FnOK.of_calls (vs := [.string s, .func (.func 142) #[] #[]]) fun w ht => f141_calls 142 c142 (fun r => capC (r : Int)) s w ht fun W x ht _ => (f142_ok (x : Int)).below (vs := [.int .i32 (x : Int)]) W ht
theorem right_first {s : ByteArray} (h : rightS s = true) : ∃ b r, s.data.toList = b :: r := by
 unfold rightS rightL at h
 simp only [Bool.and_eq_true, decide_eq_true_eq] at h
 obtain ⟨b, r, e, _⟩ := first_get h.1.1.1
 exact ⟨b, r, e⟩
theorem f91_ok (s : ByteArray) : FnOK Tryz.prog 91 [] [eStr s] [] (eBool (customS s)) := by
 refine FnOK.startC (rvs := [.tmp 2]) G G_good Tryz.func91 rfl Tryz.ntmps91 rfl rfl ?_; with_reducible refine wD ?_
 refine cL (f139_ok s) c139 ?_; with_reducible refine wK ?_
 unfold customS
 cases hr : rightS s with
 | false =>
   repeat' (first
  | refine aE ?_ ?_
  | ((with_reducible show IfK _ _ _ _); first | refine iK ?_ | (refine IfK.mk (fun _ => ?_) (fun _ => ?_) <;> with_reducible refine wK ?_))
  | apply trivial)
   all_goals rfl
 | true =>
   obtain ⟨b, r, hb⟩ := right_first hr
   have hb0 : s.data.toList[0]? = some b := by rw [hb]; rfl
   have hlf : lowFirst s.data.toList = smallC (b.toNat : Int) := by rw [hb]; rfl
   have hda := dash_index s.data.toList
   have f25 := f143_ok s 45
   rw [hda] at f25
   refine IfK.tt ?_; with_reducible refine wK ?_
   refine IdxSK.mk 0 b rfl hb0 ?_; with_reducible refine wK ?_
   refine ConvK.int (by kernel_rfl) (by kernel_rfl) (u8_i32 _) ?_; with_reducible refine wK ?_
   refine cL (f140_ok _) c140 ?_; with_reducible refine wK ?_
   repeat' (first
  | refine aE ?_ ?_
  | ((with_reducible show IfK _ _ _ _); first | refine iK ?_ | (refine IfK.mk (fun _ => ?_) (fun _ => ?_) <;> with_reducible refine wK ?_))
  | ((with_reducible refine kQ 141 ?_); refine cL (f20c_ok s hr) c141 ?_; with_reducible refine wK ?_)
  | ((with_reducible refine kQ 143 ?_); refine cL f25 c143 ?_; with_reducible refine wK ?_)
  | ((with_reducible refine kQ 145 ?_); refine CallK.new 211 [] f145_ok c145 trivial rfl rfl rfl (strs_outs resL) rfl ?_; with_reducible refine wK ?_)
  | ((with_reducible refine kQ 144 ?_); refine CallK.lit [211] (f144_ok resL (by decide) s) c144 ⟨frz_strs rfl rfl rfl rfl, rfl, trivial⟩ rfl rfl ?_; with_reducible refine wK ?_)
  | apply trivial)
   all_goals (rw [hlf]; clear hb hb0 hda f25 hlf; rw [show s.data.toList = s.1.1 from rfl]; simp_all)
def oInt (n : Int) : AV := eInt n
def vInt (n : Int) : Value := .int .i64 n
@[reducible] def eInts (l : List Int) : AV := .sl 1 (l.map oInt)
theorem int_get {l : List Int} {k : Nat} {x : Int} (h : l[k]? = some x) : (l.map oInt)[k]? = some (eInt x) := by rw [List.getElem?_map, h]; rfl
structure NodeM where
 kind : Int
 name : ByteArray
 is : ByteArray
 data : ByteArray
 attrs : List AttrM
 parent : Int
 kids : List Int
 host : Int
 under : Int
 doc : Int
structure ForM where
 nodes : List NodeM
 most : Int
def noNode : NodeM := ⟨0, ⟨#[]⟩, ⟨#[]⟩, ⟨#[]⟩, [], 0, [], 0, 0, 0⟩
def nd (l : List NodeM) (n : Int) : NodeM := (l[n.toNat]?).getD noNode
def thereN (l : List NodeM) (n : Int) : Bool := decide (0 ≤ n) && decide (n < (l.length : Int))
def isN (l : List NodeM) (n k : Int) : Bool := thereN l n && decide ((nd l n).kind = k)
def holdK (k : Int) : Bool := decide (k = 0) || decide (k = 1) || decide (k = 3) || decide (k = 4)
def hasI (l : List Int) (n : Int) : Bool := decide (n ∈ l)
def upN (x : NodeM) : Int := if x.parent = -1 then x.host else x.parent
def ownedN (l : List NodeM) (n : Int) (x : NodeM) : Bool := isN l x.doc 0 && (decide (x.kind ≠ 0) || decide (x.doc = n))
def hungN (l : List NodeM) (n : Int) (x : NodeM) : Bool := decide (x.parent = -1) || ((decide (x.kind = 1) || decide (x.kind = 2)) && thereN l x.parent && holdK (nd l x.parent).kind && hasI (nd l x.parent).kids n)
def kidOK (l : List NodeM) (n : Int) (x : NodeM) (pre : List Int) (c : Int) : Bool :=
 thereN l c && !hasI pre c && decide ((nd l c).parent = n) && decide ((nd l c).doc = x.doc) && (decide ((nd l c).kind = 1) || (decide ((nd l c).kind = 2) && decide (x.kind ≠ 0)))
def kidsOK (l : List NodeM) (n : Int) (x : NodeM) : List Int → List Int → Bool
 | _, [] => true
 | pre, c :: r => kidOK l n x pre c && kidsOK l n x (pre ++ [c]) r
def elemsN (l : List NodeM) (cs : List Int) : Nat := cs.countP (fun c => decide ((nd l c).kind = 1))
def bearsN (l : List NodeM) (n : Int) (x : NodeM) : Bool :=
 kidsOK l n x [] x.kids && ((holdK x.kind || decide (x.kids = [])) && (decide (x.kind ≠ 0) || decide (elemsN l x.kids ≤ 1)))
def shadedN (l : List NodeM) (n : Int) (x : NodeM) : Bool :=
 (if x.kind = 4 then isN l x.host 1 && decide ((nd l x.host).under = n) && decide ((nd l x.host).doc = x.doc) else decide (x.host = -1)) &&
 (decide (x.under = -1) || (decide (x.kind = 1) && isN l x.under 4 && decide ((nd l x.under).host = n)))
def endsN (l : List NodeM) : Nat → Int → Bool
 | 0, _ => false
 | m + 1, n => if upN (nd l n) = -1 then true else endsN l m (upN (nd l n))
def namedN (x : NodeM) : Bool :=
 if x.kind = 1 then rightS x.name && decide (lowS x.name = x.name) && (decide (x.is = ⟨#[]⟩) || customS x.is) && decide (x.data = ⟨#[]⟩) && rightA x.attrs
 else if x.kind = 2 then decide (x.data.size ≤ 200) && decide (x.name = ⟨#[]⟩) && decide (x.is = ⟨#[]⟩) && decide (x.attrs = [])
 else if x.kind = 0 ∨ x.kind = 3 ∨ x.kind = 4 then decide (x.name = ⟨#[]⟩) && decide (x.is = ⟨#[]⟩) && decide (x.data = ⟨#[]⟩) && decide (x.attrs = [])
 else false
def nodeOK (l : List NodeM) (n : Int) (x : NodeM) : Bool := namedN x && (ownedN l n x && (hungN l n x && (bearsN l n x && shadedN l n x)))
def headOK (f : ForM) : Bool := decide (1 ≤ f.most) && decide (f.most ≤ 400) && decide (1 ≤ f.nodes.length) && decide ((f.nodes.length : Int) ≤ f.most) && decide ((nd f.nodes 0).kind = 0)
def allIx {α : Type} (p : Nat → α → Bool) : Nat → List α → Bool
 | _, [] => true
 | i, x :: r => p i x && allIx p (i + 1) r
def rightF (f : ForM) : Bool := headOK f && (allIx (fun k x => nodeOK f.nodes k x) 0 f.nodes && allIx (fun k _ => endsN f.nodes f.nodes.length k) 0 f.nodes)
def shortF (f : ForM) : Bool := decide (f.nodes.length ≤ 60) && f.nodes.all (fun x => decide (x.kids.length ≤ 60) && decide (x.attrs.length ≤ 60) && decide (x.name.size ≤ 300))
structure SmallN (l : List NodeM) : Prop where
 len : l.length ≤ 60
 kids : ∀ x ∈ l, x.kids.length ≤ 60
 attrs : ∀ x ∈ l, x.attrs.length ≤ 60
 name : ∀ x ∈ l, x.name.size ≤ 300
theorem shortF_iff {f : ForM} : shortF f = true ↔ SmallN f.nodes := by
 unfold shortF
 simp only [Bool.and_eq_true, decide_eq_true_eq, List.all_eq_true]
 constructor
 ·rintro ⟨h1, h2⟩
  exact ⟨h1, fun x hx => (h2 x hx).1.1, fun x hx => (h2 x hx).1.2, fun x hx => (h2 x hx).2⟩
 ·rintro ⟨h1, h2, h3, h4⟩
  exact ⟨h1, fun x hx => ⟨⟨h2 x hx, h3 x hx⟩, h4 x hx⟩⟩
theorem nd_get {l : List NodeM} {k : Nat} {x : NodeM} (h : l[k]? = some x) : nd l (k : Int) = x := by unfold nd; rw [Int.toNat_natCast, h]; rfl
theorem there_get {l : List NodeM} {k : Nat} {x : NodeM} (h : l[k]? = some x) : thereN l (k : Int) = true := by
 unfold thereN
 have := (List.getElem?_eq_some_iff.1 h).1
 simp; omega
theorem there_iff {l : List NodeM} {n : Int} : thereN l n = true ↔ ∃ (k : Nat) (x : NodeM), n = (k : Int) ∧ l[k]? = some x ∧ nd l n = x := by
 constructor
 ·intro h
  unfold thereN at h
  simp only [Bool.and_eq_true, decide_eq_true_eq] at h
  have hk : n.toNat < l.length := by omega
  have hn : n = (n.toNat : Int) := by omega
  refine ⟨n.toNat, l[n.toNat], hn, List.getElem?_eq_getElem hk, ?_⟩
  unfold nd; rw [List.getElem?_eq_getElem hk]; rfl
 ·rintro ⟨k, x, rfl, h, _⟩
  exact there_get h
theorem allIx_iff {α : Type} {p : Nat → α → Bool} : ∀ {i : Nat} {l : List α}, allIx p i l = true ↔ ∀ k x, l[k]? = some x → p (i + k) x = true
 | i, [] => by simp [allIx]
 | i, a :: r => by
   simp only [allIx, Bool.and_eq_true, allIx_iff (i := i + 1) (l := r)]
   constructor
   ·rintro ⟨h1, h2⟩ k x hx
    cases k with
    | zero => simp at hx; subst hx; exact h1
    | succ k => have := h2 k x (by simpa using hx); rw [show i + (k + 1) = i + 1 + k from by omega]; exact this
   ·intro h
    refine ⟨h 0 a rfl, fun k x hx => ?_⟩
    have := h (k + 1) x (by simpa using hx)
    rw [show i + 1 + k = i + (k + 1) from by omega]; exact this
@[reducible] def eNode (x : NodeM) : AV := .agg [eInt x.kind, eStr x.name, eStr x.is, eStr x.data, eAttrs x.attrs, eInt x.parent, eInts x.kids, eInt x.host, eInt x.under, eInt x.doc]
def oNode (x : NodeM) : AV := eNode x
@[reducible] def eNodes (l : List NodeM) : AV := .sl 10 (l.map oNode)
@[reducible] def eFor (f : ForM) : AV := .agg [eNodes f.nodes, eInt f.most]
theorem node_get {l : List NodeM} {k : Nat} {x : NodeM} (h : l[k]? = some x) : (l.map oNode)[k]? = some (eNode x) := by rw [List.getElem?_map, h]; rfl
end Go.Proofs.Heir
section
namespace Go.Proofs.Heir
open Go Go.Am Go.RowKit Go.Lib
set_option maxRecDepth 100000
set_option maxHeartbeats 8000000
def finN (l : List NodeM) : Nat → Int → Bool
 | 0, _ => false
 | m + 1, n => if (nd l n).parent = -1 then true else finN l m (nd l n).parent
def chN (l : List NodeM) : Nat → Int → List Int
 | 0, _ => []
 | m + 1, n => n :: if (nd l n).parent = -1 then [] else chN l m (nd l n).parent
def ordN (l : List NodeM) : Nat → Int → List Int
 | 0, _ => []
 | m + 1, n => n :: (nd l n).kids.flatMap (ordN l m)
def wayN (l : List NodeM) (n : Int) : List Int := chN l l.length n
theorem fin_of_ends {l : List NodeM} : ∀ {m : Nat} {n : Int}, endsN l m n = true → finN l m n = true
 | 0, n, h => by simp [endsN] at h
 | m + 1, n, h => by
   unfold finN
   by_cases hp : (nd l n).parent = -1
   ·rw [if_pos hp]
   ·rw [if_neg hp]
    have hu : upN (nd l n) = (nd l n).parent := if_neg hp
    unfold endsN at h
    rw [hu, if_neg hp] at h
    exact fin_of_ends h
theorem ch_len (l : List NodeM) : ∀ (m : Nat) (n : Int), (chN l m n).length ≤ m
 | 0, _ => Nat.le_refl _
 | m + 1, n => by
   unfold chN
   split
   ·simp
   ·have := ch_len l m (nd l n).parent
    simp; omega
theorem ch_more {l : List NodeM} : ∀ {m k : Nat} {n : Int}, finN l m n = true → m ≤ k → chN l k n = chN l m n
 | 0, k, n, h, _ => by simp [finN] at h
 | m + 1, k, n, h, hk => by
   obtain ⟨k, rfl⟩ : ∃ j, k = j + 1 := ⟨k - 1, by omega⟩
   unfold finN at h
   unfold chN
   by_cases hp : (nd l n).parent = -1
   ·rw [if_pos hp, if_pos hp]
   ·rw [if_neg hp] at h
    rw [if_neg hp, if_neg hp, ch_more h (by omega)]
structure Tree (l : List NodeM) : Prop where
 par : ∀ n, thereN l n = true → (nd l n).parent ≠ -1 → thereN l (nd l n).parent = true ∧ n ∈ (nd l (nd l n).parent).kids
 kid : ∀ n, thereN l n = true → ∀ k ∈ (nd l n).kids, thereN l k = true ∧ (nd l k).parent = n
 dup : ∀ n, thereN l n = true → (nd l n).kids.Nodup
 fin : ∀ n, thereN l n = true → finN l l.length n = true
 nam : ∀ n, thereN l n = true → namedN (nd l n) = true
theorem there_pos {l : List NodeM} {n : Int} (h : thereN l n = true) : 0 ≤ n ∧ n < (l.length : Int) := by
 unfold thereN at h; simpa using h
variable {l : List NodeM}
theorem up_ind (T : Tree l) {P : Int → Prop} (h0 : ∀ n, thereN l n = true → (nd l n).parent = -1 → P n) (h1 : ∀ n, thereN l n = true → (nd l n).parent ≠ -1 → thereN l (nd l n).parent = true → P (nd l n).parent → P n) : ∀ n, thereN l n = true → P n := by
 have H : ∀ (m : Nat) (n : Int), thereN l n = true → finN l m n = true → P n := by
  intro m
  induction m with
  | zero => intro n _ h; simp [finN] at h
  | succ m ih =>
    intro n hn h
    unfold finN at h
    by_cases hp : (nd l n).parent = -1
    ·exact h0 n hn hp
    ·rw [if_neg hp] at h
     have hq := (T.par n hn hp).1
     exact h1 n hn hp hq (ih _ hq h)
 exact fun n hn => H _ n hn (T.fin n hn)
theorem way_top (T : Tree l) {n : Int} (hn : thereN l n = true) (hp : (nd l n).parent = -1) : wayN l n = [n] := by
 have := there_pos hn
 obtain ⟨m, hm⟩ : ∃ m, l.length = m + 1 := ⟨l.length - 1, by omega⟩
 unfold wayN; rw [hm]; unfold chN; rw [if_pos hp]
theorem way_step (T : Tree l) {n : Int} (hn : thereN l n = true) (hp : (nd l n).parent ≠ -1) : wayN l n = n :: wayN l (nd l n).parent := by
 have := there_pos hn
 obtain ⟨m, hm⟩ : ∃ m, l.length = m + 1 := ⟨l.length - 1, by omega⟩
 have hf := T.fin n hn
 unfold wayN; rw [hm] at hf ⊢
 unfold finN at hf
 rw [if_neg hp] at hf
 rw [chN, if_neg hp, ch_more hf (Nat.le_succ m)]
theorem way_kid (T : Tree l) {n k : Int} (hn : thereN l n = true) (hk : k ∈ (nd l n).kids) : wayN l k = k :: wayN l n := by
 have h := T.kid n hn k hk
 have h0 := there_pos hn
 have hp : (nd l k).parent ≠ -1 := by rw [h.2]; omega
 rw [way_step T h.1 hp, h.2]
theorem way_head (T : Tree l) {n : Int} (hn : thereN l n = true) : ∃ r, wayN l n = n :: r := by
 by_cases hp : (nd l n).parent = -1
 ·exact ⟨[], way_top T hn hp⟩
 ·exact ⟨_, way_step T hn hp⟩
theorem way_self (T : Tree l) {n : Int} (hn : thereN l n = true) : n ∈ wayN l n := by
 obtain ⟨r, hr⟩ := way_head T hn; rw [hr]; exact List.mem_cons_self
theorem way_len (n : Int) : (wayN l n).length ≤ l.length := ch_len l _ n
theorem way_there (T : Tree l) : ∀ n, thereN l n = true → ∀ a ∈ wayN l n, thereN l a = true := by
 refine up_ind T (fun n hn hp a ha => ?_) (fun n hn hp hq ih a ha => ?_)
 ·rw [way_top T hn hp] at ha; rw [List.mem_singleton.1 ha]; exact hn
 ·rw [way_step T hn hp] at ha
  rcases List.mem_cons.1 ha with rfl | h
  ·exact hn
  ·exact ih a h
theorem way_cut (T : Tree l) : ∀ n, thereN l n = true → ∀ a ∈ wayN l n, ∃ t, wayN l n = t ++ wayN l a := by
 refine up_ind T (fun n hn hp a ha => ?_) (fun n hn hp hq ih a ha => ?_)
 ·have h := ha; rw [way_top T hn hp] at h; rw [List.mem_singleton.1 h]; exact ⟨[], rfl⟩
 ·have h := ha
  rw [way_step T hn hp] at h
  rcases List.mem_cons.1 h with rfl | h
  ·exact ⟨[], rfl⟩
  ·obtain ⟨t, ht⟩ := ih a h
   exact ⟨n :: t, by rw [way_step T hn hp, ht]; rfl⟩
theorem way_trans (T : Tree l) {a b c : Int} (hc : thereN l c = true) (h1 : a ∈ wayN l b) (h2 : b ∈ wayN l c) : a ∈ wayN l c := by
 obtain ⟨t, ht⟩ := way_cut T c hc b h2
 rw [ht]; exact List.mem_append_right _ h1
theorem way_eq (T : Tree l) {n a b : Int} (hn : thereN l n = true) (ha : a ∈ wayN l n) (hb : b ∈ wayN l n) (he : (wayN l a).length = (wayN l b).length) : a = b := by
 obtain ⟨t, ht⟩ := way_cut T n hn a ha
 obtain ⟨s, hs⟩ := way_cut T n hn b hb
 rw [ht] at hs
 have h := (List.append_inj' hs he).2
 obtain ⟨r, hr⟩ := way_head T (way_there T n hn a ha)
 obtain ⟨q, hq⟩ := way_head T (way_there T n hn b hb)
 rw [hr, hq] at h
 exact (List.cons.inj h).1
theorem ord_way (T : Tree l) : ∀ (m : Nat) (n : Int), thereN l n = true → ∀ b ∈ ordN l m n, thereN l b = true ∧ n ∈ wayN l b
 | 0, n, _, b, hb => by simp [ordN] at hb
 | m + 1, n, hn, b, hb => by
   unfold ordN at hb
   rcases List.mem_cons.1 hb with rfl | h
   ·exact ⟨hn, way_self T hn⟩
   ·obtain ⟨k, hk, hbk⟩ := List.mem_flatMap.1 h
    have hkk := T.kid n hn k hk
    obtain ⟨h1, h2⟩ := ord_way T m k hkk.1 b hbk
    refine ⟨h1, way_trans T h1 ?_ h2⟩
    rw [way_kid T hn hk]
    exact List.mem_cons_of_mem _ (way_self T hn)
theorem ord_kid (T : Tree l) : ∀ (m : Nat) (n : Int), thereN l n = true → l.length + 1 ≤ m + (wayN l n).length → ∀ x ∈ ordN l m n, ∀ k ∈ (nd l x).kids, k ∈ ordN l m n
 | 0, n, _, _, x, hx, _, _ => by simp [ordN] at hx
 | m + 1, n, hn, hm, x, hx, k, hk => by
   unfold ordN at hx ⊢
   refine List.mem_cons_of_mem _ (List.mem_flatMap.2 ?_)
   rcases List.mem_cons.1 hx with rfl | h
   ·have hkk := T.kid x hn k hk
    have h1 := way_len (l := l) k
    rw [way_kid T hn hk] at h1
    have h2 : (wayN l x).length + 1 ≤ l.length := h1
    obtain ⟨j, hj⟩ : ∃ j, m = j + 1 := ⟨m - 1, by omega⟩
    refine ⟨k, hk, ?_⟩
    rw [hj]; unfold ordN; exact List.mem_cons_self
   ·obtain ⟨c, hc, hxc⟩ := List.mem_flatMap.1 h
    have hcc := T.kid n hn c hc
    refine ⟨c, hc, ord_kid T m c hcc.1 ?_ x hxc k hk⟩
    rw [way_kid T hn hc]; simp; omega
theorem way_ord (T : Tree l) {m : Nat} {n : Int} (hn : thereN l n = true) (hm : l.length + 1 ≤ m + (wayN l n).length) : ∀ b, thereN l b = true → n ∈ wayN l b → b ∈ ordN l m n := by
 have hself : n ∈ ordN l m n := by
  have := way_len (l := l) n
  obtain ⟨j, hj⟩ : ∃ j, m = j + 1 := ⟨m - 1, by omega⟩
  rw [hj]; unfold ordN; exact List.mem_cons_self
 refine up_ind T (fun b hb hp h => ?_) (fun b hb hp hq ih h => ?_)
 ·rw [way_top T hb hp] at h; rw [← List.mem_singleton.1 h]; exact hself
 ·rw [way_step T hb hp] at h
  rcases List.mem_cons.1 h with rfl | h
  ·exact hself
  ·exact ord_kid T m n hn hm _ (ih h) _ (T.par b hb hp).2
theorem ord_fuel (T : Tree l) {n : Int} (hn : thereN l n = true) : l.length + 1 ≤ l.length + (wayN l n).length := by
 obtain ⟨r, hr⟩ := way_head T hn
 rw [hr]; simp
theorem ord_iff (T : Tree l) {a b : Int} (ha : thereN l a = true) (hb : thereN l b = true) : b ∈ ordN l l.length a ↔ a ∈ wayN l b :=
 ⟨fun h => (ord_way T _ a ha b h).2, fun h => way_ord T ha (ord_fuel T ha) b hb h⟩
theorem ord_nodup (T : Tree l) : ∀ (m : Nat) (n : Int), thereN l n = true → (ordN l m n).Nodup
 | 0, _, _ => List.nodup_nil
 | m + 1, n, hn => by
   unfold ordN
   refine List.nodup_cons.2 ⟨fun h => ?_, ?_⟩
   ·obtain ⟨k, hk, hnk⟩ := List.mem_flatMap.1 h
    have hkk := T.kid n hn k hk
    have h1 := (ord_way T m k hkk.1 n hnk).2
    obtain ⟨t, ht⟩ := way_cut T n hn k h1
    have h2 := congrArg List.length ht
    rw [way_kid T hn hk] at h2
    simp at h2
    omega
   ·refine List.pairwise_flatMap.2 ⟨fun k hk => ord_nodup T m k (T.kid n hn k hk).1, ?_⟩
    refine List.Pairwise.imp_of_mem (fun {a b} ha hb hab x hx y hy e => ?_) (T.dup n hn)
    subst e
    have h1 := ord_way T m a (T.kid n hn a ha).1 x hx
    have h2 := ord_way T m b (T.kid n hn b hb).1 x hy
    refine hab (way_eq T h1.1 h1.2 h2.2 ?_)
    rw [way_kid T hn ha, way_kid T hn hb]; rfl
theorem nodup_len : ∀ (s t : List Int), t.Nodup → (∀ x ∈ t, x ∈ s) → t.length ≤ s.length
 | [], t, _, h => by
   cases t with
   | nil => exact Nat.le_refl _
   | cons a r => exact absurd (h a List.mem_cons_self) (by simp)
 | a :: s, t, hd, h => by
   have h1 := nodup_len s (t.erase a) (hd.erase a) (fun x hx => by
   have h2 := (hd.mem_erase_iff).1 hx
   rcases List.mem_cons.1 (h x h2.2) with e | e
   ·exact absurd e h2.1
   ·exact e)
   have h3 : t.length ≤ (t.erase a).length + 1 := by rw [List.length_erase]; split <;> omega
   simp; omega
theorem ints_len {t : List Int} {n : Nat} (hd : t.Nodup) (h : ∀ x ∈ t, 0 ≤ x ∧ x < (n : Int)) : t.length ≤ n := by
 have := nodup_len ((List.range n).map (fun k : Nat => (k : Int))) t hd (fun x hx => by
  have := h x hx
  exact List.mem_map.2 ⟨x.toNat, List.mem_range.2 (by omega), by omega⟩)
 simpa using this
theorem ord_len (T : Tree l) (m : Nat) {n : Int} (hn : thereN l n = true) : (ordN l m n).length ≤ l.length :=
 ints_len (ord_nodup T m n hn) fun x hx => there_pos (ord_way T m n hn x hx).1
def kidP (l : List NodeM) (n : Int) (x : NodeM) (c : Int) : Bool :=
 thereN l c && (decide ((nd l c).parent = n) && (decide ((nd l c).doc = x.doc) && (decide ((nd l c).kind = 1) || (decide ((nd l c).kind = 2) && decide (x.kind ≠ 0)))))
theorem kidsOK_iff {n : Int} {x : NodeM} : ∀ {cs pre : List Int}, kidsOK l n x pre cs = true ↔ (∀ c ∈ cs, kidP l n x c = true) ∧ cs.Nodup ∧ (∀ c ∈ cs, c ∉ pre)
 | [], pre => by simp [kidsOK]
 | a :: r, pre => by
   have hk : kidOK l n x pre a = true ↔ kidP l n x a = true ∧ a ∉ pre := by
    unfold kidOK kidP hasI
    simp only [Bool.and_eq_true, Bool.or_eq_true, decide_eq_true_eq, Bool.not_eq_true', decide_eq_false_iff_not]
    constructor
    ·rintro ⟨⟨⟨⟨h1, h2⟩, h3⟩, h4⟩, h5⟩; exact ⟨⟨h1, h3, h4, h5⟩, h2⟩
    ·rintro ⟨⟨h1, h3, h4, h5⟩, h2⟩; exact ⟨⟨⟨⟨h1, h2⟩, h3⟩, h4⟩, h5⟩
   unfold kidsOK
   rw [Bool.and_eq_true, hk, kidsOK_iff, List.nodup_cons]
   constructor
   ·rintro ⟨⟨h1, h2⟩, h3, h4, h5⟩
    refine ⟨fun c hc => ?_, ⟨fun h => ?_, h4⟩, fun c hc => ?_⟩
    ·rcases List.mem_cons.1 hc with rfl | h
     ·exact h1
     ·exact h3 c h
    ·exact h5 a h (by simp)
    ·rcases List.mem_cons.1 hc with rfl | h
     ·exact h2
     ·exact fun h6 => h5 c h (List.mem_append_left _ h6)
   ·rintro ⟨h1, ⟨h2, h3⟩, h4⟩
    refine ⟨⟨h1 a List.mem_cons_self, h4 a List.mem_cons_self⟩, fun c hc => h1 c (List.mem_cons_of_mem _ hc), h3, fun c hc h => ?_⟩
    rcases List.mem_append.1 h with h | h
    ·exact h4 c (List.mem_cons_of_mem _ hc) h
    ·rw [List.mem_singleton] at h; subst h; exact h2 hc
theorem right_nodes {f : ForM} (h : rightF f = true) : ∀ n, thereN f.nodes n = true → nodeOK f.nodes n (nd f.nodes n) = true := by
 intro n hn
 obtain ⟨k, x, rfl, hk, hx⟩ := there_iff.1 hn
 unfold rightF at h
 simp only [Bool.and_eq_true] at h
 have := allIx_iff.1 h.2.1 k x hk
 rw [hx]; simpa using this
theorem right_ends {f : ForM} (h : rightF f = true) : ∀ n, thereN f.nodes n = true → endsN f.nodes f.nodes.length n = true := by
 intro n hn
 obtain ⟨k, x, rfl, hk, hx⟩ := there_iff.1 hn
 unfold rightF at h
 simp only [Bool.and_eq_true] at h
 simpa using allIx_iff.1 h.2.2 k x hk
theorem tree_of {f : ForM} (h : rightF f = true) : Tree f.nodes := by
 have hN := right_nodes h
 have hB : ∀ n, thereN f.nodes n = true → (∀ c ∈ (nd f.nodes n).kids, kidP f.nodes n (nd f.nodes n) c = true) ∧ (nd f.nodes n).kids.Nodup := by
  intro n hn
  have h1 := hN n hn
  unfold nodeOK bearsN at h1
  simp only [Bool.and_eq_true] at h1
  have := kidsOK_iff.1 h1.2.2.2.1.1
  exact ⟨this.1, this.2.1⟩
 refine ⟨fun n hn hp => ?_, fun n hn k hk => ?_, fun n hn => (hB n hn).2, fun n hn => fin_of_ends (right_ends h n hn), fun n hn => ?_⟩
 ·have h1 := hN n hn
  unfold nodeOK hungN at h1
  simp only [Bool.and_eq_true, Bool.or_eq_true, decide_eq_true_eq] at h1
  rcases h1.2.2.1 with h2 | h2
  ·exact absurd h2 hp
  ·refine ⟨h2.1.1.2, ?_⟩
   have := h2.2
   unfold hasI at this; simpa using this
 ·have h1 := (hB n hn).1 k hk
  unfold kidP at h1
  simp only [Bool.and_eq_true, decide_eq_true_eq] at h1
  exact ⟨h1.1, h1.2.1⟩
 ·have h1 := hN n hn
  unfold nodeOK at h1
  simp only [Bool.and_eq_true] at h1
  exact h1.1
end Go.Proofs.Heir
end
section
namespace Go.Proofs.Heir
open Go Go.Am Go.RowKit Go.Lib
set_option maxRecDepth 100000
set_option maxHeartbeats 8000000
@[reducible] def disW : ByteArray := ⟨⟨[100, 105, 115, 97, 98, 108, 101, 100]⟩⟩
@[reducible] def legW : ByteArray := ⟨⟨[108, 101, 103, 101, 110, 100]⟩⟩
@[reducible] def fldW : ByteArray := ⟨⟨[102, 105, 101, 108, 100, 115, 101, 116]⟩⟩
def disX (x : NodeM) : Bool := decide (x.kind = 1) && decide (0 ≤ findP x.attrs disW)
def isLeg (l : List NodeM) (k : Int) : Bool := decide ((nd l k).kind = 1) && decide ((nd l k).name = legW)
def kidAt (p : Int → Bool) (cs : List Int) : Int := if 0 ≤ idxI p cs then (cs[(idxI p cs).toNat]?).getD (-1) else -1
def legN (l : List NodeM) (n : Int) : Int := kidAt (isLeg l) (nd l n).kids
def condB (l : List NodeM) (p b : Int) : Bool := decide ((nd l p).name = fldW) && (disX (nd l p) && decide (legN l p ≠ b))
def walkB (l : List NodeM) : Nat → Int → Bool
 | 0, _ => false
 | m + 1, b => if (nd l b).parent = -1 then false else (condB l (nd l b).parent b || walkB l m (nd l b).parent)
def barN (l : List NodeM) (n : Int) : Bool := disX (nd l n) || (decide ((nd l n).kind = 1) && walkB l l.length n)
variable {l : List NodeM}
theorem nam_kind (T : Tree l) {n : Int} (hn : thereN l n = true) : (nd l n).kind = 1 ∨ ((nd l n).kind ≠ 1 ∧ (nd l n).name = ⟨#[]⟩ ∧ (nd l n).attrs = []) := by
 have h := T.nam n hn
 unfold namedN at h
 by_cases e1 : (nd l n).kind = 1
 ·exact .inl e1
 ·right
  rw [if_neg e1] at h
  refine ⟨e1, ?_⟩
  split at h
  ·simp only [Bool.and_eq_true, decide_eq_true_eq] at h
   exact ⟨h.1.1.2, h.2⟩
  ·split at h
   ·simp only [Bool.and_eq_true, decide_eq_true_eq] at h
    exact ⟨h.1.1.1, h.2⟩
   ·cases h
theorem dis_kind {x : NodeM} (h : disX x = true) : x.kind = 1 := by
 unfold disX at h; simp only [Bool.and_eq_true, decide_eq_true_eq] at h; exact h.1
end Go.Proofs.Heir
end
section
namespace Go.Proofs.Heir
open Go Go.Am Go.RowKit Go.Lib
set_option maxRecDepth 100000
set_option maxHeartbeats 8000000
variable {l : List NodeM}
theorem node_up (h : ∀ n, thereN l n = true → nodeOK l n (nd l n) = true) : ∀ n, thereN l n = true → upN (nd l n) = -1 ∨ thereN l (upN (nd l n)) = true := by
 intro n hn
 have h0 := h n hn
 unfold nodeOK at h0
 simp only [Bool.and_eq_true] at h0
 obtain ⟨_, _, hH, _, hS⟩ := h0
 unfold upN
 unfold hungN at hH
 simp only [Bool.and_eq_true, Bool.or_eq_true, decide_eq_true_eq] at hH
 by_cases e : (nd l n).parent = -1
 ·rw [if_pos e]
  unfold shadedN at hS
  rw [Bool.and_eq_true] at hS
  by_cases e4 : (nd l n).kind = 4
  ·rw [if_pos e4] at hS
   unfold isN at hS
   simp only [Bool.and_eq_true] at hS
   exact .inr hS.1.1.1.1
  ·rw [if_neg e4] at hS
   exact .inl (by simpa using hS.1)
 ·rw [if_neg e]
  rcases hH with h | h
  ·exact absurd h e
  ·exact .inr h.1.1.2
end Go.Proofs.Heir
end
namespace Go.Proofs.Heir
open Go Go.Am Go.RowKit Go.Lib
set_option maxRecDepth 100000
set_option maxHeartbeats 8000000
def chU (x : NodeM) : List Int := (if x.under = -1 then [] else [x.under]) ++ x.kids
namespace U
def finN (l : List NodeM) : Nat → Int → Bool
 | 0, _ => false
 | m + 1, n => if (upN (nd l n)) = -1 then true else finN l m (upN (nd l n))
def chN (l : List NodeM) : Nat → Int → List Int
 | 0, _ => []
 | m + 1, n => n :: if (upN (nd l n)) = -1 then [] else chN l m (upN (nd l n))
def ordN (l : List NodeM) : Nat → Int → List Int
 | 0, _ => []
 | m + 1, n => n :: (chU (nd l n)).flatMap (ordN l m)
def wayN (l : List NodeM) (n : Int) : List Int := chN l l.length n
theorem fin_of_ends {l : List NodeM} : ∀ {m : Nat} {n : Int}, endsN l m n = true → finN l m n = true
 | 0, n, h => by simp [endsN] at h
 | m + 1, n, h => by
   unfold finN; unfold endsN at h
   by_cases hp : upN (nd l n) = -1
   ·rw [if_pos hp]
   ·rw [if_neg hp] at h ⊢; exact fin_of_ends h
theorem ch_len (l : List NodeM) : ∀ (m : Nat) (n : Int), (chN l m n).length ≤ m
 | 0, _ => Nat.le_refl _
 | m + 1, n => by
   unfold chN
   split
   ·simp
   ·have := ch_len l m (upN (nd l n))
    simp; omega
theorem ch_more {l : List NodeM} : ∀ {m k : Nat} {n : Int}, finN l m n = true → m ≤ k → chN l k n = chN l m n
 | 0, k, n, h, _ => by simp [finN] at h
 | m + 1, k, n, h, hk => by
   obtain ⟨k, rfl⟩ : ∃ j, k = j + 1 := ⟨k - 1, by omega⟩
   unfold finN at h
   unfold chN
   by_cases hp : (upN (nd l n)) = -1
   ·rw [if_pos hp, if_pos hp]
   ·rw [if_neg hp] at h
    rw [if_neg hp, if_neg hp, ch_more h (by omega)]
structure Tree (l : List NodeM) : Prop where
 par : ∀ n, thereN l n = true → (upN (nd l n)) ≠ -1 → thereN l (upN (nd l n)) = true ∧ n ∈ (chU (nd l (upN (nd l n))))
 kid : ∀ n, thereN l n = true → ∀ k ∈ (chU (nd l n)), thereN l k = true ∧ (upN (nd l k)) = n
 dup : ∀ n, thereN l n = true → (chU (nd l n)).Nodup
 fin : ∀ n, thereN l n = true → finN l l.length n = true
variable {l : List NodeM}
theorem up_ind (T : Tree l) {P : Int → Prop} (h0 : ∀ n, thereN l n = true → (upN (nd l n)) = -1 → P n) (h1 : ∀ n, thereN l n = true → (upN (nd l n)) ≠ -1 → thereN l (upN (nd l n)) = true → P (upN (nd l n)) → P n) : ∀ n, thereN l n = true → P n := by
 have H : ∀ (m : Nat) (n : Int), thereN l n = true → finN l m n = true → P n := by
  intro m
  induction m with
  | zero => intro n _ h; simp [finN] at h
  | succ m ih =>
    intro n hn h
    unfold finN at h
    by_cases hp : (upN (nd l n)) = -1
    ·exact h0 n hn hp
    ·rw [if_neg hp] at h
     have hq := (T.par n hn hp).1
     exact h1 n hn hp hq (ih _ hq h)
 exact fun n hn => H _ n hn (T.fin n hn)
theorem way_top (T : Tree l) {n : Int} (hn : thereN l n = true) (hp : (upN (nd l n)) = -1) : wayN l n = [n] := by
 have := there_pos hn
 obtain ⟨m, hm⟩ : ∃ m, l.length = m + 1 := ⟨l.length - 1, by omega⟩
 unfold wayN; rw [hm]; unfold chN; rw [if_pos hp]
theorem way_step (T : Tree l) {n : Int} (hn : thereN l n = true) (hp : (upN (nd l n)) ≠ -1) : wayN l n = n :: wayN l (upN (nd l n)) := by
 have := there_pos hn
 obtain ⟨m, hm⟩ : ∃ m, l.length = m + 1 := ⟨l.length - 1, by omega⟩
 have hf := T.fin n hn
 unfold wayN; rw [hm] at hf ⊢
 unfold finN at hf
 rw [if_neg hp] at hf
 rw [chN, if_neg hp, ch_more hf (Nat.le_succ m)]
theorem way_kid (T : Tree l) {n k : Int} (hn : thereN l n = true) (hk : k ∈ (chU (nd l n))) : wayN l k = k :: wayN l n := by
 have h := T.kid n hn k hk
 have h0 := there_pos hn
 have hp : (upN (nd l k)) ≠ -1 := by rw [h.2]; omega
 rw [way_step T h.1 hp, h.2]
theorem way_head (T : Tree l) {n : Int} (hn : thereN l n = true) : ∃ r, wayN l n = n :: r := by
 by_cases hp : (upN (nd l n)) = -1
 ·exact ⟨[], way_top T hn hp⟩
 ·exact ⟨_, way_step T hn hp⟩
theorem way_self (T : Tree l) {n : Int} (hn : thereN l n = true) : n ∈ wayN l n := by
 obtain ⟨r, hr⟩ := way_head T hn; rw [hr]; exact List.mem_cons_self
theorem way_len (n : Int) : (wayN l n).length ≤ l.length := ch_len l _ n
theorem way_there (T : Tree l) : ∀ n, thereN l n = true → ∀ a ∈ wayN l n, thereN l a = true := by
 refine up_ind T (fun n hn hp a ha => ?_) (fun n hn hp hq ih a ha => ?_)
 ·rw [way_top T hn hp] at ha; rw [List.mem_singleton.1 ha]; exact hn
 ·rw [way_step T hn hp] at ha
  rcases List.mem_cons.1 ha with rfl | h
  ·exact hn
  ·exact ih a h
theorem way_cut (T : Tree l) : ∀ n, thereN l n = true → ∀ a ∈ wayN l n, ∃ t, wayN l n = t ++ wayN l a := by
 refine up_ind T (fun n hn hp a ha => ?_) (fun n hn hp hq ih a ha => ?_)
 ·have h := ha; rw [way_top T hn hp] at h; rw [List.mem_singleton.1 h]; exact ⟨[], rfl⟩
 ·have h := ha
  rw [way_step T hn hp] at h
  rcases List.mem_cons.1 h with rfl | h
  ·exact ⟨[], rfl⟩
  ·obtain ⟨t, ht⟩ := ih a h
   exact ⟨n :: t, by rw [way_step T hn hp, ht]; rfl⟩
theorem way_trans (T : Tree l) {a b c : Int} (hc : thereN l c = true) (h1 : a ∈ wayN l b) (h2 : b ∈ wayN l c) : a ∈ wayN l c := by
 obtain ⟨t, ht⟩ := way_cut T c hc b h2
 rw [ht]; exact List.mem_append_right _ h1
theorem way_eq (T : Tree l) {n a b : Int} (hn : thereN l n = true) (ha : a ∈ wayN l n) (hb : b ∈ wayN l n) (he : (wayN l a).length = (wayN l b).length) : a = b := by
 obtain ⟨t, ht⟩ := way_cut T n hn a ha
 obtain ⟨s, hs⟩ := way_cut T n hn b hb
 rw [ht] at hs
 have h := (List.append_inj' hs he).2
 obtain ⟨r, hr⟩ := way_head T (way_there T n hn a ha)
 obtain ⟨q, hq⟩ := way_head T (way_there T n hn b hb)
 rw [hr, hq] at h
 exact (List.cons.inj h).1
theorem ord_way (T : Tree l) : ∀ (m : Nat) (n : Int), thereN l n = true → ∀ b ∈ ordN l m n, thereN l b = true ∧ n ∈ wayN l b
 | 0, n, _, b, hb => by simp [ordN] at hb
 | m + 1, n, hn, b, hb => by
   unfold ordN at hb
   rcases List.mem_cons.1 hb with rfl | h
   ·exact ⟨hn, way_self T hn⟩
   ·obtain ⟨k, hk, hbk⟩ := List.mem_flatMap.1 h
    have hkk := T.kid n hn k hk
    obtain ⟨h1, h2⟩ := ord_way T m k hkk.1 b hbk
    refine ⟨h1, way_trans T h1 ?_ h2⟩
    rw [way_kid T hn hk]
    exact List.mem_cons_of_mem _ (way_self T hn)
theorem ord_kid (T : Tree l) : ∀ (m : Nat) (n : Int), thereN l n = true → l.length + 1 ≤ m + (wayN l n).length → ∀ x ∈ ordN l m n, ∀ k ∈ (chU (nd l x)), k ∈ ordN l m n
 | 0, n, _, _, x, hx, _, _ => by simp [ordN] at hx
 | m + 1, n, hn, hm, x, hx, k, hk => by
   unfold ordN at hx ⊢
   refine List.mem_cons_of_mem _ (List.mem_flatMap.2 ?_)
   rcases List.mem_cons.1 hx with rfl | h
   ·have hkk := T.kid x hn k hk
    have h1 := way_len (l := l) k
    rw [way_kid T hn hk] at h1
    have h2 : (wayN l x).length + 1 ≤ l.length := h1
    obtain ⟨j, hj⟩ : ∃ j, m = j + 1 := ⟨m - 1, by omega⟩
    refine ⟨k, hk, ?_⟩
    rw [hj]; unfold ordN; exact List.mem_cons_self
   ·obtain ⟨c, hc, hxc⟩ := List.mem_flatMap.1 h
    have hcc := T.kid n hn c hc
    refine ⟨c, hc, ord_kid T m c hcc.1 ?_ x hxc k hk⟩
    rw [way_kid T hn hc]; simp; omega
theorem way_ord (T : Tree l) {m : Nat} {n : Int} (hn : thereN l n = true) (hm : l.length + 1 ≤ m + (wayN l n).length) : ∀ b, thereN l b = true → n ∈ wayN l b → b ∈ ordN l m n := by
 have hself : n ∈ ordN l m n := by
  have := way_len (l := l) n
  obtain ⟨j, hj⟩ : ∃ j, m = j + 1 := ⟨m - 1, by omega⟩
  rw [hj]; unfold ordN; exact List.mem_cons_self
 refine up_ind T (fun b hb hp h => ?_) (fun b hb hp hq ih h => ?_)
 ·rw [way_top T hb hp] at h; rw [← List.mem_singleton.1 h]; exact hself
 ·rw [way_step T hb hp] at h
  rcases List.mem_cons.1 h with rfl | h
  ·exact hself
  ·exact ord_kid T m n hn hm _ (ih h) _ (T.par b hb hp).2
theorem ord_fuel (T : Tree l) {n : Int} (hn : thereN l n = true) : l.length + 1 ≤ l.length + (wayN l n).length := by
 obtain ⟨r, hr⟩ := way_head T hn
 rw [hr]; simp
theorem ord_iff (T : Tree l) {a b : Int} (ha : thereN l a = true) (hb : thereN l b = true) : b ∈ ordN l l.length a ↔ a ∈ wayN l b :=
 ⟨fun h => (ord_way T _ a ha b h).2, fun h => way_ord T ha (ord_fuel T ha) b hb h⟩
theorem ord_nodup (T : Tree l) : ∀ (m : Nat) (n : Int), thereN l n = true → (ordN l m n).Nodup
 | 0, _, _ => List.nodup_nil
 | m + 1, n, hn => by
   unfold ordN
   refine List.nodup_cons.2 ⟨fun h => ?_, ?_⟩
   ·obtain ⟨k, hk, hnk⟩ := List.mem_flatMap.1 h
    have hkk := T.kid n hn k hk
    have h1 := (ord_way T m k hkk.1 n hnk).2
    obtain ⟨t, ht⟩ := way_cut T n hn k h1
    have h2 := congrArg List.length ht
    rw [way_kid T hn hk] at h2
    simp at h2
    omega
   ·refine List.pairwise_flatMap.2 ⟨fun k hk => ord_nodup T m k (T.kid n hn k hk).1, ?_⟩
    refine List.Pairwise.imp_of_mem (fun {a b} ha hb hab x hx y hy e => ?_) (T.dup n hn)
    subst e
    have h1 := ord_way T m a (T.kid n hn a ha).1 x hx
    have h2 := ord_way T m b (T.kid n hn b hb).1 x hy
    refine hab (way_eq T h1.1 h1.2 h2.2 ?_)
    rw [way_kid T hn ha, way_kid T hn hb]; rfl
theorem ord_len (T : Tree l) (m : Nat) {n : Int} (hn : thereN l n = true) : (ordN l m n).length ≤ l.length :=
 ints_len (ord_nodup T m n hn) fun x hx => there_pos (ord_way T m n hn x hx).1
theorem tree_of {f : ForM} (h : rightF f = true) : Tree f.nodes := by
 have hN := right_nodes h
 have T := Heir.tree_of h
 have kidK : ∀ n, thereN f.nodes n = true → ∀ c ∈ (nd f.nodes n).kids, (nd f.nodes c).kind = 1 ∨ (nd f.nodes c).kind = 2 := by
  intro n hn c hc
  have h1 := hN n hn
  unfold nodeOK bearsN at h1
  simp only [Bool.and_eq_true] at h1
  have h2 := (kidsOK_iff.1 h1.2.2.2.1.1).1 c hc
  unfold kidP at h2
  simp only [Bool.and_eq_true, Bool.or_eq_true, decide_eq_true_eq] at h2
  rcases h2.2.2.2 with h3 | h3
  ·exact .inl h3
  ·exact .inr h3.1
 have und : ∀ n, thereN f.nodes n = true → (nd f.nodes n).under ≠ -1 → thereN f.nodes (nd f.nodes n).under = true ∧ (nd f.nodes (nd f.nodes n).under).kind = 4 ∧ (nd f.nodes (nd f.nodes n).under).host = n := by
  intro n hn hu
  have h1 := hN n hn
  unfold nodeOK shadedN isN at h1
  simp only [Bool.and_eq_true, Bool.or_eq_true, decide_eq_true_eq] at h1
  rcases h1.2.2.2.2.2 with h2 | h2
  ·exact absurd h2 hu
  ·exact ⟨h2.1.2.1, h2.1.2.2, h2.2⟩
 have top4 : ∀ n, thereN f.nodes n = true → (nd f.nodes n).kind = 4 → (nd f.nodes n).parent = -1 := by
  intro n hn hk
  have h1 := hN n hn
  unfold nodeOK hungN at h1
  simp only [Bool.and_eq_true, Bool.or_eq_true, decide_eq_true_eq] at h1
  rcases h1.2.2.1 with h2 | h2
  ·exact h2
  ·rcases h2.1.1.1 with h3 | h3 <;> (rw [hk] at h3; cases h3)
 have mem : ∀ (x : NodeM) (k : Int), k ∈ chU x ↔ (x.under ≠ -1 ∧ k = x.under) ∨ k ∈ x.kids := by
  intro x k
  unfold chU
  rw [List.mem_append]
  by_cases hu : x.under = -1
  ·simp [hu]
  ·simp [hu]
 refine ⟨fun n hn hp => ?_, fun n hn k hk => ?_, fun n hn => ?_, fun n hn => fin_of_ends (right_ends h n hn)⟩
 ·unfold upN at hp ⊢
  by_cases hq : (nd f.nodes n).parent = -1
  ·rw [if_pos hq] at hp ⊢
   have h1 := hN n hn
   unfold nodeOK shadedN at h1
   simp only [Bool.and_eq_true] at h1
   have h2 := h1.2.2.2.2.1
   by_cases hk : (nd f.nodes n).kind = 4
   ·rw [if_pos hk] at h2
    unfold isN at h2
    simp only [Bool.and_eq_true, decide_eq_true_eq] at h2
    refine ⟨h2.1.1.1, (mem _ _).2 (.inl ⟨?_, h2.1.2.symm⟩)⟩
    rw [h2.1.2]
    have := there_pos hn
    omega
   ·rw [if_neg hk] at h2
    exact absurd (by simpa using h2) hp
  ·rw [if_neg hq]
   have h1 := T.par n hn hq
   exact ⟨h1.1, (mem _ _).2 (.inr h1.2)⟩
 ·have hn0 := there_pos hn
  rcases (mem _ _).1 hk with ⟨h1, rfl⟩ | h1
  ·obtain ⟨h2, h3, h4⟩ := und n hn h1
   exact ⟨h2, by unfold upN; rw [if_pos (top4 _ h2 h3)]; exact h4⟩
  ·obtain ⟨h2, h3⟩ := T.kid n hn k h1
   exact ⟨h2, by unfold upN; rw [if_neg (by rw [h3]; omega)]; exact h3⟩
 ·unfold chU
  by_cases hu : (nd f.nodes n).under = -1
  ·rw [if_pos hu]; exact T.dup n hn
  ·rw [if_neg hu]
   refine List.nodup_cons.2 ⟨fun hm => ?_, T.dup n hn⟩
   have h1 := (und n hn hu).2.1
   rcases kidK n hn _ hm with h2 | h2 <;> (rw [h1] at h2; cases h2)
end U
theorem AppK.take {rb rs : List AV} {off len off' len' bytes : Nat} {acc : Tk} {sl : SL} {m : ML} {A : List AV → Tk → SL → ML → Prop} (rows0 news : List AV) (h0 : off = 0 ∧ len ≤ rb.length ∧ rows0 = rb.take len) (h1 : off' = 0 ∧ len' = rs.length ∧ news = rs) (h2 : oneL (flat news) = true)
  (h3 : (rows0.length + news.length) * bytes ≤ 140737488355328) (h4 : rows0.length + news.length ≤ 9223372036854775807) (h : A (rows0 ++ news) acc sl m) : AppK rb off len rs off' len' bytes acc sl m (A := A) := by
 obtain ⟨rfl, hl, rfl⟩ := h0
 obtain ⟨rfl, rfl, rfl⟩ := h1
 exact ⟨_, _, by omega, by simp, by omega, by simp, h2, h3, h4, h⟩
theorem flatMap_congrI {α β : Type} {f g : α → List β} : ∀ {l : List α}, (∀ a ∈ l, f a = g a) → l.flatMap f = l.flatMap g
 | [], _ => rfl
 | a :: r, h => by rw [List.flatMap_cons, List.flatMap_cons, h a List.mem_cons_self, flatMap_congrI fun b hb => h b (List.mem_cons_of_mem _ hb)]
namespace U
variable {l : List NodeM}
theorem ord_more (T : Tree l) : ∀ (m : Nat) (n : Int), thereN l n = true → l.length + 1 ≤ m + (wayN l n).length → ordN l (m + 1) n = ordN l m n
 | 0, n, _, h => by have := way_len (l := l) n; omega
 | m + 1, n, hn, h => by
   rw [ordN, ordN]
   congr 1
   refine flatMap_congrI fun k hk => ?_
   refine ord_more T m k (T.kid n hn k hk).1 ?_
   rw [way_kid T hn hk]; simp; omega
theorem ord_eq (T : Tree l) {n : Int} (hn : thereN l n = true) : ordN l l.length n = n :: (chU (nd l n)).flatMap (ordN l l.length) := by
 have h0 := there_pos hn
 obtain ⟨m, hm⟩ : ∃ m, l.length = m + 1 := ⟨l.length - 1, by omega⟩
 have h1 : ∀ k ∈ chU (nd l n), ordN l l.length k = ordN l m k := fun k hk => by
  rw [hm]
  refine ord_more T m k (T.kid n hn k hk).1 ?_
  obtain ⟨r, hr⟩ := way_head T hn
  rw [way_kid T hn hk, hr]; simp; omega
 conv => lhs; rw [hm, ordN]
 congr 1
 exact flatMap_congrI fun k hk => (h1 k hk).symm
def rest (l : List NodeM) (st : List Int) : List Int := st.reverse.flatMap (ordN l l.length)
theorem rest_pop (T : Tree l) {st : List Int} {t : Int} (ht : thereN l t = true) : rest l (st ++ [t]) = t :: rest l (st ++ (chU (nd l t)).reverse) := by
 unfold rest
 rw [List.reverse_append, List.reverse_append, List.reverse_reverse]
 simp only [List.reverse_cons, List.reverse_nil, List.nil_append, List.cons_append, List.flatMap_cons, List.flatMap_append]
 rw [ord_eq T ht]; rfl
theorem rest_len (T : Tree l) : ∀ {st : List Int}, (∀ c ∈ st, thereN l c = true) → st.length ≤ (rest l st).length := by
 intro st h
 unfold rest
 have : ∀ s : List Int, (∀ c ∈ s, thereN l c = true) → s.length ≤ (s.flatMap (ordN l l.length)).length := by
  intro s
  induction s with
  | nil => intro _; exact Nat.le_refl _
  | cons a r ih =>
    intro h
    have h1 := ih fun c hc => h c (List.mem_cons_of_mem _ hc)
    rw [List.flatMap_cons, List.length_append, ord_eq T (h a List.mem_cons_self), List.length_cons, List.length_cons]
    omega
 have := this st.reverse fun c hc => h c (by simpa using hc)
 simpa using this
end U
theorem f122_ok (f : ForM) (n : Int) : FnOK Tryz.prog 122 [] [eFor f, eInt n] [] (eBool (thereN f.nodes n)) := by
 obtain ⟨l, m⟩ := f
 have hlm : (l.map oNode).length = l.length := List.length_map ..
 refine FnOK.startC (rvs := [.tmp 4]) G G_good Tryz.func122 rfl Tryz.ntmps122 rfl rfl ?_; with_reducible refine wD ?_
 by_cases h : (0 : Int) ≤ n
 ·(have fct := h; (repeat' (first
  | refine gF ?_ | refine aE ?_ ?_
  | apply trivial)); all_goals clear fct)
  all_goals simp [thereN, h]
 ·(have fct := (eq_false h); (repeat' (first
  | refine gF ?_ | refine aE ?_ ?_
  | apply trivial)); all_goals clear fct)
  all_goals simp [thereN, h]
theorem f147_ok (k : Int) : FnOK Tryz.prog 147 [] [eInt k] [] (eBool (holdK k)) := by
 refine FnOK.startC (rvs := [.tmp 2]) G G_good Tryz.func147 rfl Tryz.ntmps147 rfl rfl ?_; with_reducible refine wD ?_
 by_cases e0 : k = 0
 ·(have fct := e0; (repeat' (first
  | refine gF ?_ | refine aE ?_ ?_
  | apply trivial)); all_goals clear fct)
  all_goals simp [holdK, e0]
 ·by_cases e1 : k = 1
  ·(have fct := e1; (repeat' (first
  | refine gF ?_ | refine aE ?_ ?_
  | apply trivial)); all_goals clear fct)
   all_goals simp [holdK, e1]
  ·by_cases e3 : k = 3
   ·(have fct := e3; (repeat' (first
  | refine gF ?_ | refine aE ?_ ?_
  | apply trivial)); all_goals clear fct)
    all_goals simp [holdK, e3]
   ·by_cases e4 : k = 4
    ·(have fct := e4; (repeat' (first
  | refine gF ?_ | refine aE ?_ ?_
  | apply trivial)); all_goals clear fct)
     all_goals simp [holdK, e4]
    ·(have fct := And.intro e0 (And.intro e1 (And.intro e3 (e4))); (repeat' (first
  | refine gF ?_ | refine aE ?_ ?_
  | apply trivial)); all_goals clear fct)
     all_goals simp [holdK, e0, e1, e3, e4]
theorem f146_ok (f : ForM) (n k : Int) : FnOK Tryz.prog 146 [] [eFor f, eInt n, eInt k] [] (eBool (isN f.nodes n k)) := by
 have h49 := f122_ok f n
 obtain ⟨l, m⟩ := f
 refine FnOK.startC (rvs := [.tmp 6]) G G_good Tryz.func146 rfl Tryz.ntmps146 rfl rfl ?_; with_reducible refine wD ?_
 refine cL h49 c122 ?_; with_reducible refine wK ?_
 cases ht : thereN l n with
 | false =>
   (have fct := ht; (repeat' (first
  | refine gF ?_ | refine aE ?_ ?_
  | apply trivial)); all_goals clear fct)
   all_goals simp [isN, ht]
 | true =>
   obtain ⟨i, x, rfl, hx, hnd⟩ := there_iff.1 ht
   obtain ⟨a1, a2, a3, a4, a5, a6, a7, a8, a9, a10⟩ := x
   (have fct := ht; (repeat' (first
  | refine gF ?_ | refine aE ?_ ?_
  | ((refine IdxK.mk i (eNode _) rfl (node_get hx) ?_) <;> with_reducible refine wK ?_)
  | apply trivial)); all_goals clear fct)
   all_goals simp [isN, ht, hnd]
theorem f79_ok (l : List Int) (hl : l.length ≤ 100000) (n : Int) : FnOK Tryz.prog 79 [] [eInts l, eInt n] [] (eInt (idxI (fun x => decide (x = n)) l)) := by
 have hlm : (l.map oInt).length = l.length := List.length_map ..
 refine FnOK.startC (rvs := [.tmp 4]) G G_good Tryz.func79 rfl Tryz.ntmps79 rfl rfl ?_; with_reducible refine wD ?_
 refine LoopK.use G G_good (fun (k : Nat) => [(0, eInts l), (1, eInt n), (7, eInt l.length), (8, eInt k)]) (fun _ => []) (fun k => k ≤ l.length ∧ ∀ j x, j < k → l[j]? = some x → decide (x = n) = false) (fun k => l.length - k) 0 ⟨Nat.zero_le _, fun j x h => by omega⟩
  ⟨⟨rfl, rfl⟩, ⟨rfl, rfl, by show (l.length : Int) = ((l.map oInt).length : Int); rw [hlm], rfl, trivial⟩, trivial⟩ ?_
 rintro k ⟨hk, hno⟩
 with_reducible refine wK ?_
 refine IfK.mk (fun h1 => ?_) (fun h1 => ?_) <;> (try simp only [castN] at h1) <;> with_reducible refine wK ?_
 ·have hk' : k < l.length := by simp only [decide_eq_true_eq] at h1; omega
  obtain ⟨a, ha⟩ : ∃ a, l[k]? = some a := ⟨_, List.getElem?_eq_getElem hk'⟩
  refine IdxK.mk k (eInt a) rfl (int_get ha) ?_; with_reducible refine wK ?_
  refine IfK.mk (fun h2 => ?_) (fun h2 => ?_) <;> (try simp only [castN] at h2) <;> with_reducible refine wK ?_
  ·(refine eK ?_ ?_ <;> with_reducible repeat' (first | exact trivial | (show _ ∧ _; refine aK ?_ ?_)))
   refine idxI_hit (p := fun x => decide (x = n)) ha ?_ hno
   simp only [decide_eq_true_eq] at h2 ⊢; exact h2.symm
  ·refine nK ?_; with_reducible refine wK ?_
   refine NextK.mk (k + 1) ⟨by omega, fun j x hj hx => ?_⟩ (by omega) ⟨⟨rfl, rfl⟩, ⟨rfl, rfl, rfl, by show ((k + 1 : Nat) : Int) = (k : Int) + 1; omega, trivial⟩, trivial⟩
   rcases Nat.lt_or_ge j k with h3 | h3
   ·exact hno j x h3 hx
   ·have : j = k := by omega
    subst this
    rw [ha] at hx; cases hx
    simp only [decide_eq_false_iff_not] at h2 ⊢; exact fun e => h2 e.symm
 ·(refine eK ?_ ?_ <;> with_reducible repeat' (first | exact trivial | (show _ ∧ _; refine aK ?_ ?_)))
  exact idxI_none fun j x hx => hno j x (by have := (List.getElem?_eq_some_iff.1 hx).1; simp only [decide_eq_false_iff_not] at h1; omega) hx
theorem idxI_has {l : List Int} {n : Int} : decide (0 ≤ idxI (fun x => decide (x = n)) l) = hasI l n := by
 rw [Bool.eq_iff_iff, decide_eq_true_eq]
 unfold hasI
 rw [decide_eq_true_eq]
 unfold idxI
 cases h : l.findIdx? (fun x => decide (x = n)) with
 | none =>
   rw [List.findIdx?_eq_none_iff] at h
   simp only
   refine ⟨fun h' => by omega, fun hs => ?_⟩
   have := h n hs
   simp at this
 | some k =>
   rw [List.findIdx?_eq_some_iff_getElem] at h
   obtain ⟨hk, h2, _⟩ := h
   simp only
   exact ⟨fun _ => by rw [← of_decide_eq_true h2]; exact List.getElem_mem hk, fun _ => by omega⟩
theorem f148_ok (l : List Int) (hl : l.length ≤ 100000) (n : Int) : FnOK Tryz.prog 148 [] [eInts l, eInt n] [] (eBool (hasI l n)) := by
 rw [← idxI_has]
 refine FnOK.startC (rvs := [.tmp 4]) G G_good Tryz.func148 rfl Tryz.ntmps148 rfl rfl ?_; with_reducible refine wD ?_
 refine cL (f79_ok l hl n) c79 ?_; with_reducible refine wK ?_
 (refine eK ?_ ?_ <;> with_reducible repeat' (first | exact trivial | (show _ ∧ _; refine aK ?_ ?_)))
theorem f149_ok (f : ForM) (k : Nat) (x : NodeM) (hx : f.nodes[k]? = some x) : FnOK Tryz.prog 149 [] [eFor f, eInt k] [] (eInt (upN x)) := by
 obtain ⟨l, m⟩ := f
 obtain ⟨a1, a2, a3, a4, a5, a6, a7, a8, a9, a10⟩ := x
 refine FnOK.startC (rvs := [.tmp 4]) G G_good Tryz.func149 rfl Tryz.ntmps149 rfl rfl ?_; with_reducible refine wD ?_
 refine IdxK.mk k (eNode _) rfl (node_get hx) ?_; with_reducible refine wK ?_
 unfold upN
 by_cases e : a6 = -1
 ·(have fct := e; (repeat' (first
  | refine gF ?_ | refine aE ?_ ?_
  | ((refine IdxK.mk k (eNode _) rfl (node_get hx) ?_) <;> with_reducible refine wK ?_)
  | apply trivial)); all_goals clear fct)
  all_goals simp [e]
 ·(have fct := (eq_false e); (repeat' (first
  | refine gF ?_ | refine aE ?_ ?_
  | ((refine IdxK.mk k (eNode _) rfl (node_get hx) ?_) <;> with_reducible refine wK ?_)
  | apply trivial)); all_goals clear fct)
  all_goals simp [e]
theorem f93_ok (f : ForM) (k : Nat) (x : NodeM) (hx : f.nodes[k]? = some x) : FnOK Tryz.prog 93 [] [eFor f, eInt k] [] (eBool (ownedN f.nodes k x)) := by
 have h55 := f146_ok f x.doc 0
 obtain ⟨l, m⟩ := f
 obtain ⟨a1, a2, a3, a4, a5, a6, a7, a8, a9, a10⟩ := x
 unfold ownedN
 simp only at h55 hx ⊢
 refine FnOK.startC (rvs := [.tmp 4]) G G_good Tryz.func93 rfl Tryz.ntmps93 rfl rfl ?_; with_reducible refine wD ?_
 refine IdxK.mk k (eNode _) rfl (node_get hx) ?_; with_reducible refine wK ?_
 refine cL h55 c146 ?_; with_reducible refine wK ?_
 cases hi : isN l a10 0 with
 | false =>
   (have fct := hi; (repeat' (first
  | refine gF ?_ | refine aE ?_ ?_
  | apply trivial)); all_goals clear fct)
   all_goals simp [hi]
 | true =>
   by_cases e : a1 = 0
   ·(have fct := And.intro hi (e); (repeat' (first
  | refine gF ?_ | refine aE ?_ ?_
  | apply trivial)); all_goals clear fct)
    all_goals simp [hi, e]
   ·(have fct := And.intro hi ((eq_false e)); (repeat' (first
  | refine gF ?_ | refine aE ?_ ?_
  | apply trivial)); all_goals clear fct)
    all_goals simp [hi, e]
theorem f94_ok (f : ForM) (hs : SmallN f.nodes) (k : Nat) (x : NodeM) (hx : f.nodes[k]? = some x) : FnOK Tryz.prog 94 [] [eFor f, eInt k] [] (eBool (hungN f.nodes k x)) := by
 have h49 := f122_ok f x.parent
 have h56 := f147_ok (nd f.nodes x.parent).kind
 have h57 : thereN f.nodes x.parent = true → FnOK Tryz.prog 148 [] [eInts (nd f.nodes x.parent).kids, eInt k] [] (eBool (hasI (nd f.nodes x.parent).kids k)) := fun ht => by
  obtain ⟨i, y, _, hy, hnd⟩ := there_iff.1 ht
  rw [hnd]
  exact f148_ok y.kids (by have := hs.kids y (List.mem_of_getElem? hy); omega) k
 obtain ⟨l, m⟩ := f
 obtain ⟨a1, a2, a3, a4, a5, a6, a7, a8, a9, a10⟩ := x
 unfold hungN
 simp only at h49 h56 h57 hx ⊢
 refine FnOK.startC (rvs := [.tmp 4]) G G_good Tryz.func94 rfl Tryz.ntmps94 rfl rfl ?_; with_reducible refine wD ?_
 refine IdxK.mk k (eNode _) rfl (node_get hx) ?_; with_reducible refine wK ?_
 by_cases e6 : a6 = -1
 ·(have fct := e6; (repeat' (first
  | refine gF ?_ | refine aE ?_ ?_
  | apply trivial)); all_goals clear fct)
  all_goals simp [e6]
 ·refine IfK.no (by simp [e6]) ?_; with_reducible refine wK ?_
  have rest : ∀ b : Bool, (decide (a1 = 1) || decide (a1 = 2)) = b → (b = false ∨ b = true) := fun b _ => by cases b <;> simp
  cases ht : thereN l a6 with
  | false =>
    by_cases e1 : a1 = 1
    ·(have fct := And.intro e1 (And.intro ht ((eq_false e6))); (repeat' (first
  | refine gF ?_ | refine aE ?_ ?_
  | (((with_reducible refine kQ 122 ?_); refine cL h49 c122 ?_) <;> with_reducible refine wK ?_)
  | apply trivial)); all_goals clear fct)
     all_goals simp [e1, ht, e6]
    ·by_cases e2 : a1 = 2
     ·(have fct := And.intro e2 (And.intro ht ((eq_false e6))); (repeat' (first
  | refine gF ?_ | refine aE ?_ ?_
  | (((with_reducible refine kQ 122 ?_); refine cL h49 c122 ?_) <;> with_reducible refine wK ?_)
  | apply trivial)); all_goals clear fct)
      all_goals simp [e2, ht, e6]
     ·(have fct := And.intro (eq_false e1) (And.intro (eq_false e2) (And.intro ht ((eq_false e6)))); (repeat' (first
  | refine gF ?_ | refine aE ?_ ?_
  | apply trivial)); all_goals clear fct)
      all_goals simp [e1, e2, ht, e6]
  | true =>
    obtain ⟨i, y, rfl, hy, hnd⟩ := there_iff.1 ht
    have h57' := h57 ht
    rw [hnd] at h56 h57' ⊢
    obtain ⟨b1, b2, b3, b4, b5, b6, b7, b8, b9, b10⟩ := y
    simp only at h56 h57'
    cases hh : holdK b1 with
    | false =>
      by_cases e1 : a1 = 1
      ·(have fct := And.intro e1 (And.intro ht (And.intro hh ((eq_false e6)))); (repeat' (first
  | refine gF ?_ | refine aE ?_ ?_
  | ((first
   | ((with_reducible refine kQ 122 ?_); refine cL h49 c122 ?_)
   | ((with_reducible refine kQ 147 ?_); refine cL h56 c147 ?_)
   | (refine IdxK.mk i (eNode _) rfl (node_get hy) ?_)) <;> with_reducible refine wK ?_)
  | apply trivial)); all_goals clear fct)
       all_goals simp [e1, ht, e6, hh]
      ·by_cases e2 : a1 = 2
       ·(have fct := And.intro e2 (And.intro ht (And.intro hh ((eq_false e6)))); (repeat' (first
  | refine gF ?_ | refine aE ?_ ?_
  | ((first
   | ((with_reducible refine kQ 122 ?_); refine cL h49 c122 ?_)
   | ((with_reducible refine kQ 147 ?_); refine cL h56 c147 ?_)
   | (refine IdxK.mk i (eNode _) rfl (node_get hy) ?_)) <;> with_reducible refine wK ?_)
  | apply trivial)); all_goals clear fct)
        all_goals simp [e2, ht, e6, hh]
       ·(have fct := And.intro (eq_false e1) (And.intro (eq_false e2) (And.intro ht (And.intro hh ((eq_false e6))))); (repeat' (first
  | refine gF ?_ | refine aE ?_ ?_
  | apply trivial)); all_goals clear fct)
        all_goals simp [e1, e2, ht, e6]
    | true =>
      by_cases e1 : a1 = 1
      ·(have fct := And.intro e1 (And.intro ht (And.intro hh ((eq_false e6)))); (repeat' (first
  | refine gF ?_ | refine aE ?_ ?_
  | ((first
   | ((with_reducible refine kQ 122 ?_); refine cL h49 c122 ?_)
   | ((with_reducible refine kQ 147 ?_); refine cL h56 c147 ?_)
   | ((with_reducible refine kQ 148 ?_); refine cL h57' c148 ?_)
   | (refine IdxK.mk i (eNode _) rfl (node_get hy) ?_)) <;> with_reducible refine wK ?_)
  | apply trivial)); all_goals clear fct)
       all_goals simp [e1, ht, e6, hh]
      ·by_cases e2 : a1 = 2
       ·(have fct := And.intro e2 (And.intro ht (And.intro hh ((eq_false e6)))); (repeat' (first
  | refine gF ?_ | refine aE ?_ ?_
  | ((first
   | ((with_reducible refine kQ 122 ?_); refine cL h49 c122 ?_)
   | ((with_reducible refine kQ 147 ?_); refine cL h56 c147 ?_)
   | ((with_reducible refine kQ 148 ?_); refine cL h57' c148 ?_)
   | (refine IdxK.mk i (eNode _) rfl (node_get hy) ?_)) <;> with_reducible refine wK ?_)
  | apply trivial)); all_goals clear fct)
        all_goals simp [e2, ht, e6, hh]
       ·(have fct := And.intro (eq_false e1) (And.intro (eq_false e2) (And.intro ht (And.intro hh ((eq_false e6))))); (repeat' (first
  | refine gF ?_ | refine aE ?_ ?_
  | apply trivial)); all_goals clear fct)
        all_goals simp [e1, e2, ht, e6]
theorem endsN_succ (l : List NodeM) (m : Nat) (n : Int) : endsN l (m + 1) n = if upN (nd l n) = -1 then true else endsN l m (upN (nd l n)) := rfl
theorem f97_ok (f : ForM) (hl : f.nodes.length ≤ 100000) (hup : ∀ (k : Nat) (x : NodeM), f.nodes[k]? = some x → upN x = -1 ∨ thereN f.nodes (upN x) = true) (k : Nat) (hk : k < f.nodes.length) : FnOK Tryz.prog 97 [] [eFor f, eInt k] [] (eBool (endsN f.nodes f.nodes.length k)) := by
 have h58 := f149_ok f
 obtain ⟨l, m⟩ := f
 simp only at h58 hup hk hl ⊢
 have hlm : (l.map oNode).length = l.length := List.length_map ..
 refine FnOK.startC (rvs := [.tmp 4]) G G_good Tryz.func97 rfl Tryz.ntmps97 rfl rfl ?_; with_reducible refine wD ?_
 refine LoopK.use G G_good (fun (i : Nat × Nat) => [(1, eInt i.2), (2, .ptr 20 0 0), (8, eInt l.length), (9, eInt i.1)]) (fun _ => [(20, .live 2 [eFor ⟨l, m⟩] false)]) (fun i => i.1 ≤ l.length ∧ i.2 < l.length ∧ endsN l l.length k = endsN l (l.length - i.1) i.2) (fun i => l.length - i.1) (0, k) ⟨Nat.zero_le _, hk, rfl⟩
  ⟨⟨rfl, rfl⟩, ⟨rfl, ⟨rfl, rfl⟩, by show (l.length : Int) = ((l.map oNode).length : Int); rw [hlm], rfl, trivial⟩, ⟨⟨rfl, rfl, trivial⟩, trivial⟩, trivial⟩ ?_
 rintro ⟨i, j⟩ ⟨hi, hj, he⟩
 simp only at hi hj he
 with_reducible refine wK ?_
 refine IfK.mk (fun h1 => ?_) (fun h1 => ?_) <;> (try simp only [castN] at h1) <;> with_reducible refine wK ?_
 ·have hi' : i < l.length := by simp only [decide_eq_true_eq] at h1; omega
  obtain ⟨x, hx⟩ : ∃ x, l[j]? = some x := ⟨_, List.getElem?_eq_getElem hj⟩
  have h58' := h58 j x hx
  refine cL h58' c149 ?_; with_reducible refine wK ?_
  rw [show l.length - i = (l.length - (i + 1)) + 1 from by omega] at he
  rw [endsN_succ, nd_get hx] at he
  by_cases e : upN x = -1
  ·rw [if_pos e] at he
   (have fct := e; (repeat' (first
  | refine gF ?_ | refine aE ?_ ?_
  | apply trivial)); all_goals clear fct)
   all_goals rw [he]
  ·rw [if_neg e] at he
   rcases hup j x hx with h | h
   ·exact absurd h e
   obtain ⟨j', y, hj1, hj2, _⟩ := there_iff.1 h
   rw [hj1] at he
   have hlt := (List.getElem?_eq_some_iff.1 hj2).1
   refine IfK.no (decide_eq_false e) ?_; with_reducible refine wK ?_
   refine nK ?_; with_reducible refine wK ?_
   refine NextK.mk (i + 1, j') ⟨by show i + 1 ≤ l.length; omega, hlt, he⟩ (by show l.length - (i + 1) < l.length - i; omega) ⟨⟨rfl, rfl⟩, ⟨hj1.symm, ⟨rfl, rfl⟩, rfl, by show ((i + 1 : Nat) : Int) = (i : Int) + 1; omega, trivial⟩, ⟨⟨rfl, rfl, trivial⟩, trivial⟩, trivial⟩
 ·(refine eK ?_ ?_ <;> with_reducible repeat' (first | exact trivial | (show _ ∧ _; refine aK ?_ ?_)))
  have : i = l.length := by simp only [decide_eq_false_iff_not] at h1; omega
  rw [he, this, Nat.sub_self]; rfl
theorem is_there {l : List NodeM} {n k : Int} (h : isN l n k = true) : ∃ (i : Nat) (x : NodeM), n = (i : Int) ∧ l[i]? = some x ∧ nd l n = x := by
 unfold isN at h
 simp only [Bool.and_eq_true] at h
 exact there_iff.1 h.1
theorem f96_ok (f : ForM) (k : Nat) (x : NodeM) (hx : f.nodes[k]? = some x) : FnOK Tryz.prog 96 [] [eFor f, eInt k] [] (eBool (shadedN f.nodes k x)) := by
 have h1 := f146_ok f x.host 1
 have h4 := f146_ok f x.under 4
 obtain ⟨l, m⟩ := f
 obtain ⟨a1, a2, a3, a4, a5, a6, a7, a8, a9, a10⟩ := x
 unfold shadedN
 simp only at h1 h4 hx ⊢
 refine FnOK.startC (rvs := [.tmp 4]) G G_good Tryz.func96 rfl Tryz.ntmps96 rfl rfl ?_; with_reducible refine wD ?_
 refine IdxK.mk k (eNode _) rfl (node_get hx) ?_; with_reducible refine wK ?_
 by_cases e4 : a1 = 4
 ·have e1 : ¬ a1 = 1 := by omega
  refine IfK.yes (by simp [e4]) ?_; with_reducible refine wK ?_
  rw [if_pos e4]
  cases hi : isN l a8 1 with
  | false =>
    rw [hi] at h1
    by_cases e9 : a9 = -1
    ·(have fct := And.intro e4 (e9); (repeat' (first
  | refine gF ?_ | refine aE ?_ ?_
  | (((with_reducible refine kQ 146 ?_); refine cL h1 c146 ?_) <;> with_reducible refine wK ?_)
  | apply trivial)); all_goals clear fct)
     all_goals simp [e9]
    ·(have fct := And.intro e4 (And.intro (eq_false e9) ((eq_false e1))); (repeat' (first
  | refine gF ?_ | refine aE ?_ ?_
  | (((with_reducible refine kQ 146 ?_); refine cL h1 c146 ?_) <;> with_reducible refine wK ?_)
  | apply trivial)); all_goals clear fct)
     all_goals simp [e9, e1]
  | true =>
    rw [hi] at h1
    obtain ⟨i, y, rfl, hy, hnd⟩ := is_there hi
    rw [hnd]
    obtain ⟨b1, b2, b3, b4, b5, b6, b7, b8, b9, b10⟩ := y
    by_cases e9 : a9 = -1
    ·by_cases u9 : b9 = k
     ·by_cases u10 : b10 = a10
      ·(have fct := And.intro e4 (And.intro e9 (And.intro u9 (u10))); (repeat' (first
  | refine gF ?_ | refine aE ?_ ?_
  | ((first
   | ((with_reducible refine kQ 146 ?_); refine cL h1 c146 ?_)
   | (refine IdxK.mk i (eNode _) rfl (node_get hy) ?_)) <;> with_reducible refine wK ?_)
  | apply trivial)); all_goals clear fct)
       all_goals simp [e9, u9, u10]
      ·(have fct := And.intro e4 (And.intro e9 (And.intro u9 ((eq_false u10)))); (repeat' (first
  | refine gF ?_ | refine aE ?_ ?_
  | ((first
   | ((with_reducible refine kQ 146 ?_); refine cL h1 c146 ?_)
   | (refine IdxK.mk i (eNode _) rfl (node_get hy) ?_)) <;> with_reducible refine wK ?_)
  | apply trivial)); all_goals clear fct)
       all_goals simp [e9, u9, u10]
     ·(have fct := And.intro e4 (And.intro e9 ((eq_false u9))); (repeat' (first
  | refine gF ?_ | refine aE ?_ ?_
  | ((first
   | ((with_reducible refine kQ 146 ?_); refine cL h1 c146 ?_)
   | (refine IdxK.mk i (eNode _) rfl (node_get hy) ?_)) <;> with_reducible refine wK ?_)
  | apply trivial)); all_goals clear fct)
      all_goals simp [e9, u9]
    ·by_cases u9 : b9 = k
     ·by_cases u10 : b10 = a10
      ·(have fct := And.intro e4 (And.intro (eq_false e9) (And.intro (eq_false e1) (And.intro u9 (u10)))); (repeat' (first
  | refine gF ?_ | refine aE ?_ ?_
  | ((first
   | ((with_reducible refine kQ 146 ?_); refine cL h1 c146 ?_)
   | (refine IdxK.mk i (eNode _) rfl (node_get hy) ?_)) <;> with_reducible refine wK ?_)
  | apply trivial)); all_goals clear fct)
       all_goals simp [e9, e1, u9, u10]
      ·(have fct := And.intro e4 (And.intro (eq_false e9) (And.intro (eq_false e1) (And.intro u9 ((eq_false u10))))); (repeat' (first
  | refine gF ?_ | refine aE ?_ ?_
  | ((first
   | ((with_reducible refine kQ 146 ?_); refine cL h1 c146 ?_)
   | (refine IdxK.mk i (eNode _) rfl (node_get hy) ?_)) <;> with_reducible refine wK ?_)
  | apply trivial)); all_goals clear fct)
       all_goals simp [e9, e1, u9, u10]
     ·(have fct := And.intro e4 (And.intro (eq_false e9) (And.intro (eq_false e1) ((eq_false u9)))); (repeat' (first
  | refine gF ?_ | refine aE ?_ ?_
  | ((first
   | ((with_reducible refine kQ 146 ?_); refine cL h1 c146 ?_)
   | (refine IdxK.mk i (eNode _) rfl (node_get hy) ?_)) <;> with_reducible refine wK ?_)
  | apply trivial)); all_goals clear fct)
      all_goals simp [e9, e1, u9]
 ·refine IfK.no (by simp [e4]) ?_; with_reducible refine wK ?_
  rw [if_neg e4]
  by_cases e8 : a8 = -1
  ·by_cases e9 : a9 = -1
   ·(have fct := And.intro (eq_false e4) (And.intro e8 (e9)); (repeat' (first
  | refine gF ?_ | refine aE ?_ ?_
  | apply trivial)); all_goals clear fct)
    all_goals simp [e9, e8]
   ·by_cases e1 : a1 = 1
    ·cases hu : isN l a9 4 with
     | false =>
       rw [hu] at h4
       (have fct := And.intro (eq_false e4) (And.intro e8 (And.intro (eq_false e9) (e1))); (repeat' (first
  | refine gF ?_ | refine aE ?_ ?_
  | (((with_reducible refine kQ 146 ?_); refine cL h4 c146 ?_) <;> with_reducible refine wK ?_)
  | apply trivial)); all_goals clear fct)
       all_goals simp [e9, e8, e1]
     | true =>
       rw [hu] at h4
       obtain ⟨j, z, rfl, hz, hnd⟩ := is_there hu
       rw [hnd]
       obtain ⟨d1, d2, d3, d4, d5, d6, d7, d8, d9, d10⟩ := z
       (have fct := And.intro (eq_false e4) (And.intro e8 (And.intro (eq_false e9) (e1))); (repeat' (first
  | refine gF ?_ | refine aE ?_ ?_
  | ((first
   | ((with_reducible refine kQ 146 ?_); refine cL h4 c146 ?_)
   | (refine IdxK.mk j (eNode ⟨d1, d2, d3, d4, d5, d6, d7, d8, d9, d10⟩) rfl (node_get hz) ?_)) <;> with_reducible refine wK ?_)
  | apply trivial)); all_goals clear fct)
       all_goals simp [e9, e8, e1]
    ·(have fct := And.intro (eq_false e4) (And.intro e8 (And.intro (eq_false e9) ((eq_false e1)))); (repeat' (first
  | refine gF ?_ | refine aE ?_ ?_
  | apply trivial)); all_goals clear fct)
     all_goals simp [e9, e8, e1]
  ·by_cases e9 : a9 = -1
   ·(have fct := And.intro (eq_false e4) (And.intro (eq_false e8) (e9)); (repeat' (first
  | refine gF ?_ | refine aE ?_ ?_
  | apply trivial)); all_goals clear fct)
    all_goals simp [e9, e8]
   ·by_cases e1 : a1 = 1
    ·cases hu : isN l a9 4 with
     | false =>
       rw [hu] at h4
       (have fct := And.intro (eq_false e4) (And.intro (eq_false e8) (And.intro (eq_false e9) (e1))); (repeat' (first
  | refine gF ?_ | refine aE ?_ ?_
  | (((with_reducible refine kQ 146 ?_); refine cL h4 c146 ?_) <;> with_reducible refine wK ?_)
  | apply trivial)); all_goals clear fct)
       all_goals simp [e9, e8, e1]
     | true =>
       rw [hu] at h4
       obtain ⟨j, z, rfl, hz, hnd⟩ := is_there hu
       rw [hnd]
       obtain ⟨d1, d2, d3, d4, d5, d6, d7, d8, d9, d10⟩ := z
       (have fct := And.intro (eq_false e4) (And.intro (eq_false e8) (And.intro (eq_false e9) (e1))); (repeat' (first
  | refine gF ?_ | refine aE ?_ ?_
  | ((first
   | ((with_reducible refine kQ 146 ?_); refine cL h4 c146 ?_)
   | (refine IdxK.mk j (eNode ⟨d1, d2, d3, d4, d5, d6, d7, d8, d9, d10⟩) rfl (node_get hz) ?_)) <;> with_reducible refine wK ?_)
  | apply trivial)); all_goals clear fct)
       all_goals simp [e9, e8, e1]
    ·(have fct := And.intro (eq_false e4) (And.intro (eq_false e8) (And.intro (eq_false e9) ((eq_false e1)))); (repeat' (first
  | refine gF ?_ | refine aE ?_ ?_
  | apply trivial)); all_goals clear fct)
     all_goals simp [e9, e8, e1]
theorem f92_ok (x : NodeM) (hx : x.attrs.length ≤ 100000) : FnOK Tryz.prog 92 [] [eNode x] [] (eBool (namedN x)) := by
 have h45 := f134_ok x.name
 have h54 := f91_ok x.is
 have h44 := f133_ok x.attrs hx
 obtain ⟨a1, a2, a3, a4, a5, a6, a7, a8, a9, a10⟩ := x
 have hlm : (a5.map oAttr).length = a5.length := List.length_map ..
 unfold namedN
 simp only at h45 h54 h44 hx ⊢
 refine FnOK.startC (rvs := [.tmp 2]) G G_good Tryz.func92 rfl Tryz.ntmps92 rfl rfl ?_; with_reducible refine wD ?_
 by_cases e1 : a1 = 1
 ·rw [if_pos e1]
  cases hr : rightS a2 with
  | false =>
    rw [hr] at h45
    simp only [Bool.false_eq_true, if_false] at h45
    (have fct := And.intro e1 (hr); (repeat' (first
  | refine gF ?_ | refine aE ?_ ?_
  | (((with_reducible refine kQ 134 ?_); refine cL h45 c134 ?_) <;> with_reducible refine wK ?_)
  | apply trivial)); all_goals clear fct)
    all_goals simp [hr]
  | true =>
    rw [hr] at h45
    simp only [if_true] at h45
    by_cases hl : lowS a2 = a2
    ·by_cases h3 : a3 = ⟨#[]⟩
     ·by_cases h4 : a4 = ⟨#[]⟩
      ·(have fct := And.intro e1 (And.intro hr (And.intro hl (And.intro h3 (h4)))); (repeat' (first
  | refine gF ?_ | refine aE ?_ ?_
  | ((first
   | ((with_reducible refine kQ 134 ?_); refine cL h45 c134 ?_)
   | ((with_reducible refine kQ 133 ?_); refine cL h44 c133 ?_)) <;> with_reducible refine wK ?_)
  | apply trivial)); all_goals clear fct)
       all_goals simp [hr, hl, h3, h4]
      ·(have fct := And.intro e1 (And.intro hr (And.intro hl (And.intro h3 ((eq_false h4))))); (repeat' (first
  | refine gF ?_ | refine aE ?_ ?_
  | (((with_reducible refine kQ 134 ?_); refine cL h45 c134 ?_) <;> with_reducible refine wK ?_)
  | apply trivial)); all_goals clear fct)
       all_goals simp [hr, hl, h3, h4]
     ·cases hc : customS a3 with
      | false =>
        rw [hc] at h54
        (have fct := And.intro e1 (And.intro hr (And.intro hl (And.intro (eq_false h3) (hc)))); (repeat' (first
  | refine gF ?_ | refine aE ?_ ?_
  | ((first
   | ((with_reducible refine kQ 134 ?_); refine cL h45 c134 ?_)
   | ((with_reducible refine kQ 91 ?_); refine cL h54 c91 ?_)) <;> with_reducible refine wK ?_)
  | apply trivial)); all_goals clear fct)
        all_goals simp [hr, hl, h3, hc]
      | true =>
        rw [hc] at h54
        by_cases h4 : a4 = ⟨#[]⟩
        ·(have fct := And.intro e1 (And.intro hr (And.intro hl (And.intro (eq_false h3) (And.intro hc (h4))))); (repeat' (first
  | refine gF ?_ | refine aE ?_ ?_
  | ((first
   | ((with_reducible refine kQ 134 ?_); refine cL h45 c134 ?_)
   | ((with_reducible refine kQ 91 ?_); refine cL h54 c91 ?_)
   | ((with_reducible refine kQ 133 ?_); refine cL h44 c133 ?_)) <;> with_reducible refine wK ?_)
  | apply trivial)); all_goals clear fct)
         all_goals simp [hr, hl, h3, hc, h4]
        ·(have fct := And.intro e1 (And.intro hr (And.intro hl (And.intro (eq_false h3) (And.intro hc ((eq_false h4)))))); (repeat' (first
  | refine gF ?_ | refine aE ?_ ?_
  | ((first
   | ((with_reducible refine kQ 134 ?_); refine cL h45 c134 ?_)
   | ((with_reducible refine kQ 91 ?_); refine cL h54 c91 ?_)) <;> with_reducible refine wK ?_)
  | apply trivial)); all_goals clear fct)
         all_goals simp [hr, hl, h3, hc, h4]
    ·(have fct := And.intro e1 (And.intro hr ((eq_false hl))); (repeat' (first
  | refine gF ?_ | refine aE ?_ ?_
  | (((with_reducible refine kQ 134 ?_); refine cL h45 c134 ?_) <;> with_reducible refine wK ?_)
  | apply trivial)); all_goals clear fct)
     all_goals simp [hr, hl]
 ·rw [if_neg e1]
  by_cases e2 : a1 = 2
  ·rw [if_pos e2]
   by_cases hd : a4.size ≤ 200
   ·by_cases h2 : a2 = ⟨#[]⟩
    ·by_cases h3 : a3 = ⟨#[]⟩
     ·(have fct := And.intro e2 (And.intro hd (And.intro h2 (h3))); (repeat' (first
  | refine gF ?_ | refine aE ?_ ?_
  | apply trivial)); all_goals clear fct)
      all_goals simp [hd, h2, h3]
     ·(have fct := And.intro e2 (And.intro hd (And.intro h2 ((eq_false h3)))); (repeat' (first
  | refine gF ?_ | refine aE ?_ ?_
  | apply trivial)); all_goals clear fct)
      all_goals simp [hd, h2, h3]
    ·(have fct := And.intro e2 (And.intro hd ((eq_false h2))); (repeat' (first
  | refine gF ?_ | refine aE ?_ ?_
  | apply trivial)); all_goals clear fct)
     all_goals simp [hd, h2]
   ·(have fct := And.intro e2 ((eq_false hd)); (repeat' (first
  | refine gF ?_ | refine aE ?_ ?_
  | apply trivial)); all_goals clear fct)
    all_goals simp [hd]
  ·rw [if_neg e2]
   by_cases ho : a1 = 0 ∨ a1 = 3 ∨ a1 = 4
   ·rw [if_pos ho]
    by_cases h2 : a2 = ⟨#[]⟩
    ·by_cases h3 : a3 = ⟨#[]⟩
     ·by_cases h4 : a4 = ⟨#[]⟩
      ·rcases ho with e | e | e
       ·(have fct := And.intro e (And.intro h2 (And.intro h3 (h4))); (repeat' (first
  | refine gF ?_ | refine aE ?_ ?_
  | apply trivial)); all_goals clear fct)
        all_goals simp [h2, h3, h4]
       ·(have fct := And.intro e (And.intro h2 (And.intro h3 (h4))); (repeat' (first
  | refine gF ?_ | refine aE ?_ ?_
  | apply trivial)); all_goals clear fct)
        all_goals simp [h2, h3, h4]
       ·(have fct := And.intro e (And.intro h2 (And.intro h3 (h4))); (repeat' (first
  | refine gF ?_ | refine aE ?_ ?_
  | apply trivial)); all_goals clear fct)
        all_goals simp [h2, h3, h4]
      ·rcases ho with e | e | e
       ·(have fct := And.intro e (And.intro h2 (And.intro h3 ((eq_false h4)))); (repeat' (first
  | refine gF ?_ | refine aE ?_ ?_
  | apply trivial)); all_goals clear fct)
        all_goals simp [h2, h3, h4]
       ·(have fct := And.intro e (And.intro h2 (And.intro h3 ((eq_false h4)))); (repeat' (first
  | refine gF ?_ | refine aE ?_ ?_
  | apply trivial)); all_goals clear fct)
        all_goals simp [h2, h3, h4]
       ·(have fct := And.intro e (And.intro h2 (And.intro h3 ((eq_false h4)))); (repeat' (first
  | refine gF ?_ | refine aE ?_ ?_
  | apply trivial)); all_goals clear fct)
        all_goals simp [h2, h3, h4]
     ·rcases ho with e | e | e
      ·(have fct := And.intro e (And.intro h2 ((eq_false h3))); (repeat' (first
  | refine gF ?_ | refine aE ?_ ?_
  | apply trivial)); all_goals clear fct)
       all_goals simp [h2, h3]
      ·(have fct := And.intro e (And.intro h2 ((eq_false h3))); (repeat' (first
  | refine gF ?_ | refine aE ?_ ?_
  | apply trivial)); all_goals clear fct)
       all_goals simp [h2, h3]
      ·(have fct := And.intro e (And.intro h2 ((eq_false h3))); (repeat' (first
  | refine gF ?_ | refine aE ?_ ?_
  | apply trivial)); all_goals clear fct)
       all_goals simp [h2, h3]
    ·rcases ho with e | e | e
     ·(have fct := And.intro e ((eq_false h2)); (repeat' (first
  | refine gF ?_ | refine aE ?_ ?_
  | apply trivial)); all_goals clear fct)
      all_goals simp [h2]
     ·(have fct := And.intro e ((eq_false h2)); (repeat' (first
  | refine gF ?_ | refine aE ?_ ?_
  | apply trivial)); all_goals clear fct)
      all_goals simp [h2]
     ·(have fct := And.intro e ((eq_false h2)); (repeat' (first
  | refine gF ?_ | refine aE ?_ ?_
  | apply trivial)); all_goals clear fct)
      all_goals simp [h2]
   ·rw [if_neg ho]
    have e0 : ¬ a1 = 0 := fun h => ho (.inl h)
    have e3 : ¬ a1 = 3 := fun h => ho (.inr (.inl h))
    have e4 : ¬ a1 = 4 := fun h => ho (.inr (.inr h))
    (have fct := And.intro e0 (And.intro e1 (And.intro e2 (And.intro e3 (e4)))); (repeat' (first
  | refine gF ?_ | refine aE ?_ ?_
  | apply trivial)); all_goals clear fct)
end Go.Proofs.Heir
end
