/- A region's walk as one proposition that is worked out by rewriting. By an AI agent. -/
import Derived.Test.YtgfbnphfgeeldaaAm13
namespace Go.Am

def dstok (N : Nat) : Option Nat → Bool
  | none => true
  | some d => decide (d < N)
theorem dstok_spec {N : Nat} {dst : Option Nat} (h : dstok N dst = true) : ∀ d, dst = some d → d < N := by
  rintro d rfl; simpa [dstok] using h

section
variable (P : Program) (N : Nat) (Γ : TEnv) (ds : List (Option Nat))

/-- An operation whose effect is given by hand: by contract. -/
def ByHand (o : Oper) (sl : List (Nat × AV)) (m : List (Nat × MS)) (R : List Nat → AV → List (Nat × MS) → Prop) : Prop := ∃ rd x ups, EffOK P N o (St sl m) rd x ups ∧ R rd x ups

def wpDo2 (o : Oper) (sl : List (Nat × AV)) (m : List (Nat × MS)) (R : List Nat → AV → List (Nat × MS) → Prop) : Option (Prop × List Nat × AV × List (Nat × MS)) → Prop
  | some (c, rd, x, ups) => c ∧ R rd x ups
  | none => ByHand P N o sl m R
def wpDo (o : Oper) (sl : List (Nat × AV)) (m : List (Nat × MS)) (R : List Nat → AV → List (Nat × MS) → Prop) : Option (List Nat × AV × List (Nat × MS)) → Prop
  | some (rd, x, ups) => R rd x ups
  | none => wpDo2 P N o sl m R (condA Γ sl m o.dst o.op)
/-- Two ways, by a bool. -/
def wpH (c : Bool) (yes no : Prop) : Prop := (c = true → yes) ∧ (c = false → no)
/-- Under a guard. -/
def wpG (x : AV) (b : Bool) (yes no : Prop) : Prop :=
  match x with
  | .lit (.bool c) => wpH (c == b) yes no
  | _ => False

/-- What follows an operation: with the objects that it reads and writes noted. -/
def wpAs : List Oper → Tk → List (Nat × AV) → List (Nat × MS) → (Tk → AState → Prop) → Prop
  | [], acc, sl, m, K => K acc (St sl m)
  | o :: rest, acc, sl, m, K =>
    dstok N o.dst = true ∧
    match o.guard with
    | none => wpDo P N Γ o sl m (fun rd x ups => wpAs rest (acc ++ [(rd, ups.map (·.1))]) (pushS o.dst x sl) (ups ++ m) K) (plainA Γ sl m o.dst o.op)
    | some (j, b) => match (ds[j]?).bind id with
      | some d => d < N ∧ wpG (lookS sl d) b
          (wpDo P N Γ o ((d, .lit (.bool b)) :: sl) m (fun rd x ups => wpAs rest (acc ++ [(rd, ups.map (·.1))]) (pushS o.dst x ((d, .lit (.bool b)) :: sl)) (ups ++ m) K) (plainA Γ ((d, .lit (.bool b)) :: sl) m o.dst o.op))
          (wpAs rest (acc ++ [([], [])]) (pushS o.dst (.lit undef) ((d, .lit (.bool (!b))) :: sl)) m K)
      | none => False
end

section
variable (P : Program) (N : Nat) (Γ : TEnv) (ds : List (Option Nat))
/-- What follows an operation. Without binders: an operation by hand keeps it folded. -/
def wpRest (o : Oper) (rest : List Oper) (acc : Tk) (sl : List (Nat × AV)) (m : List (Nat × MS)) (K : Tk → AState → Prop) (rd : List Nat) (x : AV) (ups : List (Nat × MS)) : Prop :=
  wpAs P N Γ ds rest (acc ++ [(rd, ups.map (·.1))]) (pushS o.dst x sl) (ups ++ m) K
/-- The wanted way of a guarded operation. -/
def wpYes (d : Nat) (b : Bool) (o : Oper) (rest : List Oper) (acc : Tk) (sl : List (Nat × AV)) (m : List (Nat × MS)) (K : Tk → AState → Prop) : Prop :=
  wpDo P N Γ o ((d, .lit (.bool b)) :: sl) m (wpRest P N Γ ds o rest acc ((d, .lit (.bool b)) :: sl) m K) (plainA Γ ((d, .lit (.bool b)) :: sl) m o.dst o.op)
/-- The unwanted way. -/
def wpNo (d : Nat) (b : Bool) (o : Oper) (rest : List Oper) (acc : Tk) (sl : List (Nat × AV)) (m : List (Nat × MS)) (K : Tk → AState → Prop) : Prop :=
  wpAs P N Γ ds rest (acc ++ [([], [])]) (pushS o.dst (.lit undef) ((d, .lit (.bool (!b))) :: sl)) m K
/-- A guard's two ways: not gone on with before the guard is known. -/
def wpGx (x : AV) (d : Nat) (b : Bool) (o : Oper) (rest : List Oper) (acc : Tk) (sl : List (Nat × AV)) (m : List (Nat × MS)) (K : Tk → AState → Prop) : Prop :=
  wpG x b (wpYes P N Γ ds d b o rest acc sl m K) (wpNo P N Γ ds d b o rest acc sl m K)
def wpGd (o' : Option Nat) (b : Bool) (o : Oper) (rest : List Oper) (acc : Tk) (sl : List (Nat × AV)) (m : List (Nat × MS)) (K : Tk → AState → Prop) : Prop :=
  match o' with
  | some d => d < N ∧ wpGx P N Γ ds (lookS sl d) d b o rest acc sl m K
  | none => False
def wpGu (g : Option (Nat × Bool)) (o : Oper) (rest : List Oper) (acc : Tk) (sl : List (Nat × AV)) (m : List (Nat × MS)) (K : Tk → AState → Prop) : Prop :=
  match g with
  | none => wpDo P N Γ o sl m (wpRest P N Γ ds o rest acc sl m K) (plainA Γ sl m o.dst o.op)
  | some (j, b) => wpGd P N Γ ds ((ds[j]?).bind id) b o rest acc sl m K
end
section
variable {P : Program} {N : Nat} {Γ : TEnv} {ds : List (Option Nat)}
variable {o : Oper} {rest : List Oper} {acc : Tk} {sl : List (Nat × AV)} {m : List (Nat × MS)} {K : Tk → AState → Prop} {d : Nat}
theorem wpAs_nil : wpAs P N Γ ds [] acc sl m K = K acc (St sl m) := rfl
theorem wpAs_cons : wpAs P N Γ ds (o :: rest) acc sl m K = (dstok N o.dst = true ∧ wpGu P N Γ ds o.guard o rest acc sl m K) := by
  simp only [wpAs]
  cases o.guard with
  | none => rfl
  | some q =>
    obtain ⟨j, b⟩ := q
    simp only [wpGu]
    cases (ds[j]?).bind id <;> rfl
theorem wpGx_tt : wpGx P N Γ ds (.lit (.bool true)) d true o rest acc sl m K = wpYes P N Γ ds d true o rest acc sl m K := by (simp [wpGx, wpG, wpH])
theorem wpGx_ff : wpGx P N Γ ds (.lit (.bool false)) d false o rest acc sl m K = wpYes P N Γ ds d false o rest acc sl m K := by (simp [wpGx, wpG, wpH])
theorem wpGx_tf : wpGx P N Γ ds (.lit (.bool true)) d false o rest acc sl m K = wpNo P N Γ ds d false o rest acc sl m K := by (simp [wpGx, wpG, wpH])
theorem wpGx_ft : wpGx P N Γ ds (.lit (.bool false)) d true o rest acc sl m K = wpNo P N Γ ds d true o rest acc sl m K := by (simp [wpGx, wpG, wpH])
theorem wpGx.split {c b : Bool} (hy : c = b → wpYes P N Γ ds d b o rest acc sl m K) (hn : c = (!b) → wpNo P N Γ ds d b o rest acc sl m K) : wpGx P N Γ ds (.lit (.bool c)) d b o rest acc sl m K := by
  refine ⟨fun h => hy ?_, fun h => hn ?_⟩ <;> cases c <;> cases b <;> simp_all
end
@[congr] theorem wpDo_congr {P : Program} {N : Nat} {Γ : TEnv} {o : Oper} {sl m R x x'} (h : x = x') : wpDo P N Γ o sl m R x = wpDo P N Γ o sl m R x' := by rw [h]
@[congr] theorem wpDo2_congr {P : Program} {N : Nat} {o : Oper} {sl m R x x'} (h : x = x') : wpDo2 P N o sl m R x = wpDo2 P N o sl m R x' := by rw [h]

section
variable {P : Program} {N nL : Nat} {Γ : TEnv} {ds : List (Option Nat)} {ops : Array Oper}

theorem wpDo_ok (hΓ : Γ.Good P) {o : Oper} {sl : List (Nat × AV)} {m : List (Nat × MS)} {R : List Nat → AV → List (Nat × MS) → Prop} (hd : dstok N o.dst = true) (h : wpDo P N Γ o sl m R (plainA Γ sl m o.dst o.op)) :
    ∃ rd x ups, EffOK P N o (St sl m) rd x ups ∧ R rd x ups := by
  cases hp : plainA Γ sl m o.dst o.op with
  | some q =>
    obtain ⟨rd, x, ups⟩ := q
    rw [hp] at h
    exact ⟨rd, x, ups, plainA_ok hΓ hp (dstok_spec hd), h⟩
  | none =>
    rw [hp] at h
    simp only [wpDo] at h
    cases hc : condA Γ sl m o.dst o.op with
    | some q =>
      obtain ⟨c, rd, x, ups⟩ := q
      rw [hc] at h
      exact ⟨rd, x, ups, condA_ok hΓ hc h.1 (dstok_spec hd), h.2⟩
    | none => rw [hc] at h; exact h

theorem wpAs_sound (hΓ : Γ.Good P) (hds : ∀ j : Nat, (ops[j]?).bind (·.dst) = (ds[j]?).bind id) : ∀ (l : List Oper) (acc : Tk) (sl : List (Nat × AV)) (m : List (Nat × MS)) (K : Tk → AState → Prop), wpAs P N Γ ds l acc sl m K →
    AReg P N ops l (St sl m) (fun es σ' => K (acc ++ es.map Eff.toks) σ')
  | [], acc, sl, m, K, h => by simp only [wpAs] at h; simpa [AReg] using h
  | o :: rest, acc, sl, m, K, h => by
    obtain ⟨hd, h⟩ := h
    have go : ∀ sl, Wanted N ops o (St sl m) true → (wpDo P N Γ o sl m (fun rd x ups => wpAs P N Γ ds rest (acc ++ [(rd, ups.map (·.1))]) (pushS o.dst x sl) (ups ++ m) K) (plainA Γ sl m o.dst o.op)) →
        AReg P N ops (o :: rest) (St sl m) (fun es σ' => K (acc ++ es.map Eff.toks) σ') := by
      intro sl hw h
      obtain ⟨rd, x, ups, h1, h2⟩ := wpDo_ok hΓ hd h
      refine ⟨⟨o, true, St sl m, rd, x, ups⟩, rfl, rfl, ⟨hw, dstok_spec hd, fun _ => h1, fun h => by cases h⟩, ?_⟩
      have := wpAs_sound hΓ hds rest _ _ _ K h2
      rw [show AState.app (St sl m) ⟨o, true, St sl m, rd, x, ups⟩ = St (pushS o.dst x sl) (ups ++ m) from St_upd sl m ups o.dst x]
      simpa [Eff.toks] using this
    cases hg : o.guard with
    | none =>
      rw [hg] at h
      exact go sl (by simp [Wanted, hg]) h
    | some jb =>
      obtain ⟨j, b⟩ := jb
      rw [hg] at h
      simp only at h
      cases hj : (ds[j]?).bind id with
      | none => rw [hj] at h; exact h.elim
      | some d =>
        rw [hj] at h
        simp only at h
        obtain ⟨hdN, h⟩ := h
        unfold wpG at h
        split at h
        · rename_i c hc
          have hst : St sl m = St ((d, .lit (.bool c)) :: sl) m := by
            unfold St
            congr 1
            funext i
            simp only [lookS]
            by_cases hi : i = d
            · subst hi; simp [hc]
            · have h' : (i == d) = false := by simpa using hi
              rw [h']; rfl
          have hw : ∀ c', lookS sl d = .lit (.bool c') → Wanted N ops o (St ((d, .lit (.bool c')) :: sl) m) (c' == b) := by
            intro c' _
            simp only [Wanted, hg]
            exact ⟨d, c', by rw [hds, hj], hdN, by simp [St, lookS], rfl⟩
          rw [hst]
          by_cases hcb : c = b
          · subst hcb
            exact go _ (by have := hw c hc; simpa using this) (h.1 (by simp))
          · have hcn : c = !b := by cases c <;> cases b <;> simp_all
            refine ⟨⟨o, false, St ((d, .lit (.bool c)) :: sl) m, [], .lit undef, []⟩, rfl, rfl, ⟨by have := hw c hc; rwa [show (c == b) = false from by simpa using hcb] at this, dstok_spec hd, (fun h => by cases h), fun _ => ⟨rfl, rfl⟩⟩, ?_⟩
            have h2 := h.2 (by rw [hcn]; cases b <;> rfl)
            rw [← hcn] at h2
            have := wpAs_sound hΓ hds rest _ _ _ K h2
            rw [show AState.app (St ((d, .lit (.bool c)) :: sl) m) ⟨o, false, St ((d, .lit (.bool c)) :: sl) m, [], .lit undef, []⟩ = St (pushS o.dst (.lit undef) ((d, .lit (.bool c)) :: sl)) m from St_upd _ m [] o.dst _]
            simpa [Eff.toks] using this
        · exact h.elim

theorem AWp.regionW {id : Nat} {l : List Oper} {Q : Exit → AState → Prop} {sl : List (Nat × AV)} {m : List (Nat × MS)} (hΓ : Γ.Good P) (h : wpAs P N Γ (l.map (·.dst)) l [] sl m (fun _ σ' => Q .normal σ')) :
    AWp P N nL (.region id l.toArray false) Q (St sl m) :=
  .region (by
    have := wpAs_sound (ops := l.toArray) hΓ (fun j => by simp [List.getElem?_map, Option.bind_map]) l [] sl m _ h
    exact this)
theorem AWp.drawsW {id : Nat} {l : List Oper} {Q : Exit → AState → Prop} {sl : List (Nat × AV)} {m : List (Nat × MS)} (hΓ : Γ.Good P) (hm : P.follows .mixedOrders = true) (hB : Region.lexB .any l.toArray = true)
    (h : wpAs P N Γ (l.map (·.dst)) l [] sl m (fun ts σ' => tokOK l.toArray ts = true ∧ Q .normal σ')) : AWp P N nL (.region id l.toArray true) Q (St sl m) :=
  .draws hm hB (by
    have := wpAs_sound (ops := l.toArray) hΓ (fun j => by simp [List.getElem?_map, Option.bind_map]) l [] sl m _ h
    simpa using this)

/-- A call by hand that hands back nothing in memory. -/
theorem ByHand.call0 {o : Oper} {sl : List (Nat × AV)} {m : List (Nat × MS)} {R : List Nat → AV → List (Nat × MS) → Prop} {f : FuncId} {ys args : List AV} {res : AV} (T : List Nat) (hto : CallsTo (St sl m) o f ys) (hc : Callable P f)
    (hargs : CvL (lookM m) id (fun _ => False) (· ∈ T) args ys) (hd : dstok N o.dst = true) (hp : noMem res = true) (hf : FnOK P f [] args [] res) (h : R T res []) : ByHand P N o sl m R :=
  ⟨T, res, [], .call0 T hto hc hargs hf hp (dstok_spec hd), h⟩

/-- The same, where the arguments have no reference to the frame's objects, and the result may be anything that has none. -/
theorem ByHand.callR {o : Oper} {sl : List (Nat × AV)} {m : List (Nat × MS)} {R : List Nat → AV → List (Nat × MS) → Prop} {f : FuncId} {ys : List AV} {res : AV} (hto : CallsTo (St sl m) o f ys) (hc : Callable P f)
    (hargs : noRefL ys = true) (hd : dstok N o.dst = true) (hp : noRef res = true) (hf : FnOK P f [] ys [] res) (h : R [] res []) : ByHand P N o sl m R :=
  ⟨[], res, [], by
    have := EffOK.callN (P := P) (N := N) (o := o) (σ := St sl m) (news := []) (x := res) (base := 0) [] hto hc (CvL.same hargs) (by simp) hf (by simp) rfl (by simp) (.same hp) (dstok_spec hd)
    simpa using this, h⟩
end
end Go.Am
namespace Go.Am
theorem TBuild.mk {P : Program} {t : TypeId} {fields : Array Field} {places : Array (Nat × Nat)} {z : Array Value} {place : Nat → Option (Nat × Nat)} (h1 : P.underlying t = some (.struct fields)) (h2 : TZero P t (.agg z))
    (h3 : ∀ w, (fields.toList.mapM (m := Sem) fun f => do pure (f.offset, ← sizeOf f.type)).run P w = .ok places.toList w) (h4 : ∀ i, place i = places[i]?) : TBuild P t z place := by
  intro parts w
  have hpl : place = (places[·]?) := funext h4
  have hm : (fields.mapM (m := Sem) fun f => do pure (f.offset, ← sizeOf f.type)).run P w = .ok places w := by
    rw [Array.mapM_eq_mapM_toList]
    simp only [Sem.run_map, h3 w, Result.andThen_ok]
  have hb : (Instr.build t parts).run P w = match Instr.fill (places[·]?) z parts.toList with
      | some cells => .ok (.agg cells) w
      | none => .halt (.stuck "build: no such field, or a part of the wrong size") w := by
    unfold Instr.build
    simp only [Sem.run_bind, h2 w, Result.andThen_ok, run_underlying h1, hm, Value.cells]
    cases Instr.fill (places[·]?) z parts.toList <;> rfl
  rw [hpl]
  cases hf : Instr.fill (places[·]?) z parts.toList with
  | none => rfl
  | some cells => rw [hb, hf]
end Go.Am
namespace Go.Am
/-- Arguments in their slots. -/
def argsS : Nat → List AV → List (Nat × AV)
  | _, [] => []
  | k, x :: r => (k, x) :: argsS (k + 1) r
def objsS : Nat → List MS → List (Nat × MS)
  | _, [] => []
  | k, x :: r => (k, x) :: objsS (k + 1) r
theorem argsS_look : ∀ (l : List AV) (k i : Nat), lookS (argsS k l) i = if k ≤ i then l.getD (i - k) .any else .any
  | [], k, i => by simp [argsS, lookS]
  | x :: r, k, i => by
    simp only [argsS, lookS]
    rw [argsS_look r (k + 1) i]
    by_cases h : i = k
    · subst h; simp
    · have h' : (i == k) = false := by simpa using h
      rw [h']
      by_cases h2 : k ≤ i
      · rw [if_pos h2, if_pos (by omega), show i - k = (i - (k + 1)) + 1 from by omega]; rfl
      · rw [if_neg h2, if_neg (by omega)]; rfl
theorem objsS_look : ∀ (l : List MS) (k i : Nat), lookM (objsS k l) i = if k ≤ i then (l[i - k]?).getD .free else .free
  | [], k, i => by simp [objsS, lookM]
  | x :: r, k, i => by
    simp only [objsS, lookM]
    rw [objsS_look r (k + 1) i]
    by_cases h : i = k
    · subst h; simp
    · have h' : (i == k) = false := by simpa using h
      rw [h']
      by_cases h2 : k ≤ i
      · rw [if_pos h2, if_pos (by omega), show i - k = (i - (k + 1)) + 1 from by omega]; rfl
      · rw [if_neg h2, if_neg (by omega)]; rfl
theorem FnOK.of_code {P : Program} {f : FuncId} {fn : Func} {c : Code} {ins outs : List MS} {args : List AV} {res : AV} (hf : P.funcs[f]? = some fn) (hb : fn.body = some c) (hN : args.length ≤ fn.ntmps)
    (h : AWp P fn.ntmps ins.length c (fun e σ' => (e = .normal ∨ e = .ret) ∧ RetTo P ins.length fn.results.toList σ' outs res) (St (argsS 0 args) (objsS 0 ins))) : FnOK P f ins args outs res := by
  refine FnOK.of_body hf hb hN ?_
  have : (⟨fun i => args.getD i .any, objsOf ins⟩ : AState) = St (argsS 0 args) (objsS 0 ins) := by
    unfold St
    congr 1
    · funext i; rw [argsS_look]; simp
    · funext i; rw [objsS_look]; simp [objsOf]
  rw [this]; exact h

theorem thenA_normal {n : AState → Prop} {Q : Exit → AState → Prop} {σ : AState} : thenA n Q .normal σ = n σ := rfl
theorem thenA_ret {n : AState → Prop} {Q : Exit → AState → Prop} {σ : AState} : thenA n Q .ret σ = Q .ret σ := rfl
theorem thenA_exit {n : AState → Prop} {Q : Exit → AState → Prop} {σ : AState} {i : Nat} : thenA n Q (.exit i) σ = Q (.exit i) σ := rfl
theorem inBlockA_normal {i : Nat} {Q : Exit → AState → Prop} {σ : AState} : inBlockA i Q .normal σ = Q .normal σ := rfl
theorem inBlockA_ret {i : Nat} {Q : Exit → AState → Prop} {σ : AState} : inBlockA i Q .ret σ = Q .ret σ := rfl
theorem inBlockA_exit {i j : Nat} {Q : Exit → AState → Prop} {σ : AState} : inBlockA i Q (.exit j) σ = if j = i then Q .normal σ else Q (.exit j) σ := rfl

/-- A function whose one result has no reference to its frame. -/
theorem RetTo.one {P : Program} {sl : List (Nat × AV)} {m : List (Nat × MS)} {t : Nat} {res : AV} (h : lookS sl t = res) (hr : noRef res = true) : RetTo P 0 [.tmp t] (St sl m) [] res :=
  ⟨[res], rfl, fun j rv x h1 h2 => by
    cases j with
    | zero => simp at h1 h2; subst h1; subst h2; exact h
    | succ j => simp at h1, id, fun _ => False,
    ⟨fun _ => .any, fun t => .inl (by simp [bare, objsOf]), fun t t' h => absurd (by simp [bare, objsOf]) h, fun s h => h.elim, fun t h => absurd h (Nat.not_lt_zero t)⟩, .same hr⟩
end Go.Am
namespace Go.Am
theorem FnOK.start {P : Program} {f : FuncId} {fn : Func} {c : Code} {ins outs : List MS} {args : List AV} {res : AV} {N : Nat} {rvs : List ResultVar} (hf : P.funcs[f]? = some fn) (hb : fn.body = some c) (hN : fn.ntmps = N) (hr : fn.results.toList = rvs) (hlen : args.length ≤ N)
    (h : AWp P N ins.length c (fun e σ' => (e = .normal ∨ e = .ret) ∧ RetTo P ins.length rvs σ' outs res) (St (argsS 0 args) (objsS 0 ins))) : FnOK P f ins args outs res := by
  subst hN; subst hr; exact .of_code hf hb hlen h
end Go.Am
