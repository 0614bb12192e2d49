/- Walks of functions by unfolding over abstract states; runs of functions by an evaluator that is proved. By an AI agent. -/
import Derived.Test.YtadjfbmhbfjjaaaW2
section
set_option linter.unusedSimpArgs false
set_option linter.unusedVariables false
namespace Go.Am
open Go Go.RowKit Go.Lib MapKept
structure EEnv where
  Γ : TEnv
  Δ : MEnv
  fns : List (Nat × Func)
  kinds : List (Nat × IntKind)
  orc : CallT
def lkF : List (Nat × Func) → Nat → Option Func
  | [], _ => none
  | (k, f) :: r, g => match Nat.beq g k with
    | true => some f
    | false => lkF r g
def lkK : List (Nat × IntKind) → Nat → Option IntKind
  | [], _ => none
  | (k, f) :: r, g => match Nat.beq g k with
    | true => some f
    | false => lkK r g
structure EEnv.Good (P : Program) (E : EEnv) : Prop where
  Γ : E.Γ.Good P
  Δ : E.Δ.Good P
  fns : ∀ p ∈ E.fns, P.funcs[p.1]? = some p.2 ∧ Callable P p.1
  kinds : ∀ p ∈ E.kinds, P.underlying p.1 = some (.int p.2)
  orc : ∀ g ins args outs res, E.orc g ins args = some (outs, res) → FnOK P g ins args outs res ∧ Callable P g
  orders : P.follows .mixedOrders = true
theorem lkF_mem : ∀ {l : List (Nat × Func)} {g : Nat} {f : Func}, lkF l g = some f → (g, f) ∈ l
  | [], _, _, h => by cases h
  | (k, f0) :: r, g, f, h => by
    simp only [lkF] at h
    split at h
    · rename_i hb; cases h; rw [beq_eq hb]; exact List.mem_cons_self ..
    · exact List.mem_cons_of_mem _ (lkF_mem h)
theorem lkK_mem : ∀ {l : List (Nat × IntKind)} {g : Nat} {f : IntKind}, lkK l g = some f → (g, f) ∈ l
  | [], _, _, h => by cases h
  | (k, f0) :: r, g, f, h => by
    simp only [lkK] at h
    split at h
    · rename_i hb; cases h; rw [beq_eq hb]; exact List.mem_cons_self ..
    · exact List.mem_cons_of_mem _ (lkK_mem h)
def convE (E : EEnv) (S : ES) (src dst : TypeId) (y : Operand) : Option ER :=
  match lkK E.kinds src, lkK E.kinds dst, evE S y with
  | some _, some k', .lit (.int _ n) => match decide (k'.wrap n = n) with
    | true => some ([], .lit (.int k' n), [], S.nx)
    | false => none
  | _, _, _ => none
def stepE (E : EEnv) (callF : CallT) (S : ES) (o : Oper) : Option ER :=
  match o.op with
  | .indexAddr t y z => idxE E.Γ S t y z
  | .slice t y lo hi mx => cutE E.Γ S t y lo hi mx
  | .buildSlice t len parts => litE E.Γ S t len parts.toList
  | .alloc t => allocE E.Γ S t
  | .box _ y => boxE S y
  | .makeMap _ hint => match hint with
    | none => mkMapE S
    | some _ => none
  | .lookup t y x c => lookE E.Δ S t y x c
  | .mapUpdate t y x v => setMapE E.Δ S t y x v
  | .index t y z => byteE E.Γ S t y z
  | .convert src dst y => convE E S src dst y
  | .binOp op t y z _ => binE E.Γ S o op t y z
  | .call c => match c.callee with
    | .value f => match f with
      | .func g => callE callF S g (c.args.toList.map (evE S))
      | f => match evE S f with
        | .clo (.func g) first cap => callE callF S g (first ++ c.args.toList.map (evE S) ++ cap)
        | .lit (.func (.func g) a b) => match a.toList, b.toList with
          | [], [] => callE callF S g (c.args.toList.map (evE S))
          | _, _ => none
        | _ => none
    | .builtin .append => match c.args.toList, c.argTypes.toList with
      | [y, z], [t, t2] => appE E.Γ S y z t t2
      | _, _ => none
    | .builtin .len => match c.args.toList, c.argTypes.toList with
      | [y], [t] => match lenME E.Δ S t y with
        | some q => some q
        | none => plainE E.Γ S o
      | _, _ => none
    | _ => plainE E.Γ S o
  | _ => plainE E.Γ S o
def opsE (E : EEnv) (callF : CallT) (N : Nat) (ds : List (Option Nat)) : List Oper → Tk → ES → Option (Tk × ES)
  | [], acc, S => some (acc, S)
  | o :: rest, acc, S => match dstB N o.dst with
    | false => none
    | true => match o.guard with
      | none => match stepE E callF S o with
        | some (rd, x, ups, nx) => opsE E callF N ds rest (acc ++ [(rd, ups.map Prod.fst)]) (applyE S o.dst x ups nx)
        | none => none
      | some (j, b) => match getR ds j with
        | some (some d) => match Nat.ble (d + 1) N, evE S (.tmp d) with
          | true, .lit v => match gv v b with
            | true => match stepE E callF S o with
              | some (rd, x, ups, nx) => opsE E callF N ds rest (acc ++ [(rd, ups.map Prod.fst)]) (applyE S o.dst x ups nx)
              | none => none
            | false => opsE E callF N ds rest (acc ++ [([], [])]) (applyE S o.dst (.lit undef) [] S.nx)
          | _, _ => none
        | _ => none
def codeE (E : EEnv) (callF : CallT) (N : Nat) : Nat → Code → ES → Option (Exit × ES)
  | 0, _, _ => none
  | n + 1, c, S => match c with
    | .skip => some (.normal, S)
    | .region _ ops dr => match opsE E callF N (ops.toList.map Oper.dst) ops.toList [] S with
      | some (acc, S') => match dr with
        | false => some (.normal, S')
        | true => match Region.lexB .any ops, tokOK2 ops acc with
          | true, true => some (.normal, S')
          | _, _ => none
      | none => none
    | .seq a b => match codeE E callF N n a S with
      | some (.normal, S') => codeE E callF N n b S'
      | r => r
    | .cond x a b => match evE S x with
      | .lit (.bool true) => codeE E callF N n a S
      | .lit (.bool false) => codeE E callF N n b S
      | _ => none
    | .block id c => match codeE E callF N n c S with
      | some (.exit j, S') => match Nat.beq j id with
        | true => some (.normal, S')
        | false => some (.exit j, S')
      | r => r
    | .exit i => some (.exit i, S)
    | .ret => some (.ret, S)
    | .label _ => some (.normal, S)
    | .loop c => match codeE E callF N n c S with
      | some (.normal, S') => codeE E callF N n (.loop c) S'
      | r => r
    | _ => none
theorem codeE_loop (E : EEnv) (callF : CallT) (N n : Nat) (c : Code) (S : ES) : codeE E callF N (n + 1) (.loop c) S = match codeE E callF N n c S with
      | some (.normal, S') => codeE E callF N n (.loop c) S'
      | r => r := rfl
def resE1 (Γ : TEnv) (S : ES) : ResultVar → Option AV
  | .tmp t => some (evE S (.tmp t))
  | .cell a t => match evE S (.tmp a) with
    | .ptr tk i k => match mE S tk with
      | .live _ rows _ => match getR rows i with
        | some r => loadB (lkT Γ t) r k
        | none => none
      | _ => none
    | _ => none
def resE (Γ : TEnv) (S : ES) : List ResultVar → Option (List AV)
  | [] => some []
  | rv :: r => match resE1 Γ S rv, resE Γ S r with
    | some x, some xs => some (x :: xs)
    | _, _ => none
def outsE (S : ES) (f : Nat → Option Nat) : List Nat → Option (List MS)
  | [] => some []
  | t :: r => match outsE S f r with
    | none => none
    | some l => match mE S t with
      | .live wd rows false => some (.live wd (rnL f rows) false :: l)
      | .live _ _ true => some (.dead :: l)
      | .dead => some (.dead :: l)
      | .free => none
def headN : Nat → Nat → List Nat → Bool
  | 0, _, _ => true
  | k + 1, i, t :: r => match Nat.beq t i with
    | true => headN k (i + 1) r
    | false => false
  | _ + 1, _, [] => false
def endE (Γ : TEnv) (nL : Nat) (rvs : List ResultVar) (S : ES) : Option (List MS × AV) :=
  match resE Γ S rvs with
  | none => none
  | some xs => match reachE 1000 S 0 (refA S (ret1 xs) (List.range nL)) with
    | ns => match outsE S (idxIn ns 0) ns, nodupN ns, headN nL 0 ns with
      | some outs, true, true => some (outs, rnA (idxIn ns 0) (ret1 xs))
      | _, _, _ => none
def initS : Nat → List AV → Tr AV
  | _, [] => .nil
  | k, x :: r => (initS (k + 1) r).put k x
def initM : Nat → List MS → Tr MS
  | _, [] => .nil
  | k, x :: r => (initM (k + 1) r).put k x
def runF (E : EEnv) (fuel : Nat) : Nat → CallT
  | 0 => fun _ _ _ => none
  | n + 1 => fun g ins args => match E.orc g ins args with
    | some r => some r
    | none => match lkF E.fns g with
      | none => none
      | some fn => match fn.body, Nat.ble args.length fn.ntmps with
        | some c, true => match codeE E (runF E fuel n) fn.ntmps fuel c ⟨initS 0 args, initM 0 ins, ins.length⟩ with
          | some (.normal, S) => endE E.Γ ins.length fn.results.toList S
          | some (.ret, S) => endE E.Γ ins.length fn.results.toList S
          | _ => none
        | _, _ => none
section
variable {P : Program} {E : EEnv} {callF : CallT} {N : Nat}
def GoodCalls (P : Program) (callF : CallT) : Prop := ∀ g ins args outs res, callF g ins args = some (outs, res) → FnOK P g ins args outs res ∧ Callable P g
theorem convE_ok {o : Oper} {S : ES} {q : ER} (hE : E.Good P) (hd : dstok N o.dst = true) {src dst : TypeId} {y : Operand} (ho : o.op = .convert src dst y) (h : convE E S src dst y = some q) : EffE P N o S q := by
  unfold convE at h
  split at h
  · rename_i k0 k' k n h1 h2 hy
    split at h
    · rename_i hn
      cases h
      have hn' := of_decide_eq_true hn
      have hs := hE.kinds _ (lkK_mem h1)
      have hdd := hE.kinds _ (lkK_mem h2)
      refine EffOK.convLit (P := P) (N := N) (σ := den S) ho (by rw [ev_den]; exact hy) (fun w => ?_) (dstok_spec hd)
      have hk : P.intKind dst = k' := by simp [Program.intKind, hdd]
      have := run_convert_int (P := P) w src dst k n (by rw [hs]; rfl) (by rw [hk]; exact hdd)
      rw [hk, hn'] at this
      exact this
    · cases h
  · cases h
theorem args_den (S : ES) (args : Array Operand) : args.toList.map (den S).eval = args.toList.map (evE S) := by
  apply List.map_congr_left; intro y _; exact ev_den S y
theorem stepE_ok {o : Oper} {S : ES} {q : ER} (hE : E.Good P) (hF : GoodCalls P callF) (hd : dstok N o.dst = true) (h : stepE E callF S o = some q) : EffE P N o S q := by
  unfold stepE at h
  split at h
  · rename_i ho; exact idxE_ok hE.Γ hd ho h
  · rename_i ho; exact cutE_ok hE.Γ hd ho h
  · rename_i ho; exact litE_ok hE.Γ hd ho h
  · rename_i ho; exact allocE_ok hE.Γ hd ho h
  · rename_i ho; exact boxE_ok hd ho h
  · rename_i ho
    split at h
    · exact mkMapE_ok hd ho h
    · cases h
  · rename_i ho; exact lookE_ok hE.Δ hd ho h
  · rename_i ho; exact setMapE_ok hE.Δ hd ho h
  · rename_i ho; exact byteE_ok hE.Γ hd ho h
  · rename_i ho; exact convE_ok hE hd ho h
  · rename_i ho; exact binE_ok hE.Γ hd ho h
  · rename_i c ho
    obtain ⟨callee, args, types⟩ := c
    simp only at h
    split at h
    · split at h
      · rw [← args_den] at h
        exact callE_ok hF hd (.func ho rfl) h
      · split at h
        · rename_i f hne g first cap hy
          rw [← args_den] at h
          exact callE_ok hF hd (.clo ho (by rw [ev_den]; exact hy)) h
        · rename_i f hne g a b hy
          split at h
          · rename_i ha hb
            obtain rfl : a = #[] := Array.ext' ha
            obtain rfl : b = #[] := Array.ext' hb
            rw [← args_den] at h
            exact callE_ok hF hd (.func ho (by rw [ev_den]; exact hy)) h
          · cases h
        · cases h
    · split at h
      · rename_i y z t t2 ea et
        obtain rfl : args = #[y, z] := Array.ext' ea
        obtain rfl : types = #[t, t2] := Array.ext' et
        exact appE_ok hE.Γ hd ho h
      · cases h
    · split at h
      · rename_i y t ea et
        obtain rfl : args = #[y] := Array.ext' ea
        obtain rfl : types = #[t] := Array.ext' et
        split at h
        · rename_i q' hq
          cases h
          exact lenME_ok hE.Δ hd ho hq
        · exact plainE_ok hE.Γ hd h
      · cases h
    · exact plainE_ok hE.Γ hd h
  · exact plainE_ok hE.Γ hd h
theorem opsE_ok (hE : E.Good P) (hF : GoodCalls P callF) {ops : Array Oper} : ∀ (l : List Oper) (acc : Tk) (S : ES) (acc' : Tk) (S' : ES), opsE E callF N (ops.toList.map Oper.dst) l acc S = some (acc', S') → AReg P N ops l (den S) (fun es σ' => σ' = den S' ∧ acc' = acc ++ es.map Eff.toks)
  | [], acc, S, acc', S', h => by
    cases h
    exact ⟨rfl, by simp⟩
  | o :: rest, acc, S, acc', S', h => by
    unfold opsE at h
    split at h
    · cases h
    · rename_i hd0
      have hd := dstB_ok hd0
      have go : Wanted N ops o (den S) true → ∀ {q : ER}, stepE E callF S o = some q → opsE E callF N (ops.toList.map Oper.dst) rest (acc ++ [(q.1, q.2.2.1.map Prod.fst)]) (applyE S o.dst q.2.1 q.2.2.1 q.2.2.2) = some (acc', S') →
          AReg P N ops (o :: rest) (den S) (fun es σ' => σ' = den S' ∧ acc' = acc ++ es.map Eff.toks) := by
        intro hw q hq hr
        refine ⟨⟨o, true, den S, q.1, q.2.1, q.2.2.1⟩, rfl, rfl, ⟨hw, dstok_spec hd, fun _ => stepE_ok hE hF hd hq, fun h => by cases h⟩, ?_⟩
        have := opsE_ok hE hF rest _ _ _ _ hr
        rw [den_apply] at this
        refine AReg.post ?_ this
        rintro es σ' ⟨h1, h2⟩
        exact ⟨h1, by rw [h2]; simp [Eff.toks]⟩
      have skip : Wanted N ops o (den S) false → opsE E callF N (ops.toList.map Oper.dst) rest (acc ++ [([], [])]) (applyE S o.dst (.lit undef) [] S.nx) = some (acc', S') →
          AReg P N ops (o :: rest) (den S) (fun es σ' => σ' = den S' ∧ acc' = acc ++ es.map Eff.toks) := by
        intro hw hr
        refine ⟨⟨o, false, den S, [], .lit undef, []⟩, rfl, rfl, ⟨hw, dstok_spec hd, (fun h => by cases h), fun _ => ⟨rfl, rfl⟩⟩, ?_⟩
        have := opsE_ok hE hF rest _ _ _ _ hr
        rw [den_apply] at this
        refine AReg.post ?_ this
        rintro es σ' ⟨h1, h2⟩
        exact ⟨h1, by rw [h2]; simp [Eff.toks]⟩
      split at h
      · rename_i hg
        split at h
        · rename_i rd x ups nx hq
          exact go (by simp [Wanted, hg]) hq h
        · cases h
      · rename_i j b hg
        split at h
        · rename_i d hj
          rw [getR_eq, List.getElem?_map] at hj
          have hj' : (ops[j]?).bind (·.dst) = some d := by
            rw [← Array.getElem?_toList]
            cases ho : ops.toList[j]? with
            | none => rw [ho] at hj; cases hj
            | some o' => rw [ho] at hj; simpa using hj
          split at h
          · rename_i v hN hv
            have hw : Wanted N ops o (den S) (gv v b) := by
              simp only [Wanted, hg]
              exact ⟨d, v, hj', ble_le hN, hv, rfl⟩
            split at h
            · rename_i hb
              rw [hb] at hw
              split at h
              · rename_i rd x ups nx hq
                exact go hw hq h
              · cases h
            · rename_i hb
              rw [hb] at hw
              exact skip hw h
          · cases h
        · cases h
def AtE (e : Exit) (S : ES) : Exit → AState → Prop := fun e' σ => e' = e ∧ σ = den S
theorem codeE_ok (hE : E.Good P) (hF : GoodCalls P callF) {nL : Nat} : ∀ (n : Nat) (c : Code) (S : ES) (e : Exit) (S' : ES), codeE E callF N n c S = some (e, S') → AWp P N nL c (AtE e S') (den S) := by
  intro n
  induction n using Nat.strongRecOn with
  | _ n ih =>
    intro c S e S' h
    cases n with
    | zero => cases h
    | succ n =>
      have ihn := ih n (Nat.lt_succ_self n)
      unfold codeE at h
      split at h
      · cases h; exact AWp.skip ⟨rfl, rfl⟩
      · rename_i id ops dr
        split at h
        · rename_i acc S1 hops
          have h1 := opsE_ok hE hF (ops := ops) ops.toList [] S acc S1 hops
          obtain ⟨l⟩ := ops
          split at h
          · cases h
            refine AWp.region (AReg.post ?_ h1)
            rintro es σ' ⟨h2, _⟩
            exact ⟨rfl, h2⟩
          · split at h
            · rename_i g1 g2
              cases h
              refine AWp.draws2 hE.orders g1 (AReg.post ?_ h1)
              rintro es σ' ⟨h2, h3⟩
              refine ⟨?_, rfl, h2⟩
              simp only [List.nil_append] at h3
              rw [← h3]; exact g2
            · cases h
        · cases h
      · rename_i a b
        refine AWp.seq ?_
        split at h
        · rename_i S1 h1
          refine (ihn a S _ _ h1).mono ?_
          rintro e' σ ⟨rfl, rfl⟩
          exact ihn b S1 _ _ h
        · rename_i hne
          cases hr : codeE E callF N n a S with
          | none => rw [hr] at h; cases h
          | some p =>
            obtain ⟨e1, S1⟩ := p
            rw [hr] at h
            cases h
            refine (ihn a S _ _ hr).mono ?_
            rintro e' σ ⟨rfl, rfl⟩
            cases e' with
            | normal => exact absurd hr (hne _)
            | _ => exact ⟨rfl, rfl⟩
      · rename_i x a b
        split at h
        · rename_i hx
          exact AWp.cond (by rw [ev_den]; exact hx) (fun _ => ihn a S _ _ h) (fun hb => by cases hb)
        · rename_i hx
          exact AWp.cond (by rw [ev_den]; exact hx) (fun hb => by cases hb) (fun _ => ihn b S _ _ h)
        · cases h
      · rename_i id c
        refine AWp.block ?_
        split at h
        · rename_i j S1 h1
          refine (ihn c S _ _ h1).mono ?_
          rintro e' σ ⟨rfl, rfl⟩
          simp only [inBlockA]
          split at h
          · rename_i hj; cases h; rw [if_pos (beq_eq hj)]; exact ⟨rfl, rfl⟩
          · rename_i hj
            cases h
            rw [if_neg (fun e => by rw [e, Nat.beq_refl] at hj; cases hj)]
            exact ⟨rfl, rfl⟩
        · rename_i hne
          cases hr : codeE E callF N n c S with
          | none => rw [hr] at h; cases h
          | some p =>
            obtain ⟨e1, S1⟩ := p
            rw [hr] at h
            cases h
            refine (ihn c S _ _ hr).mono ?_
            rintro e' σ ⟨rfl, rfl⟩
            cases e' with
            | exit j => exact absurd hr (hne j _)
            | _ => exact ⟨rfl, rfl⟩
      · cases h; exact AWp.exit ⟨rfl, rfl⟩
      · cases h; exact AWp.ret ⟨rfl, rfl⟩
      · cases h; exact AWp.label ⟨rfl, rfl⟩
      · rename_i c
        have h' : codeE E callF N (n + 1) (.loop c) S = some (e, S') := by unfold codeE; exact h
        refine AWp.loop (I := fun k σ => k ≤ n + 1 ∧ ∃ S1, σ = den S1 ∧ codeE E callF N k (.loop c) S1 = some (e, S')) ⟨n + 1, Nat.le_refl _, S, rfl, h'⟩ ?_
        rintro k σ ⟨hk, S1, rfl, hk1⟩
        cases k with
        | zero => cases hk1
        | succ k =>
          rw [codeE_loop] at hk1
          have ihk := ih k (by omega)
          split at hk1
          · rename_i S2 h2
            refine (ihk c S1 _ _ h2).mono ?_
            rintro e' σ ⟨rfl, rfl⟩
            exact ⟨k, Nat.lt_succ_self k, by omega, S2, rfl, hk1⟩
          · rename_i hne
            cases hr : codeE E callF N k c S1 with
            | none => rw [hr] at hk1; cases hk1
            | some p =>
              obtain ⟨e1, S2⟩ := p
              rw [hr] at hk1
              cases hk1
              refine (ihk c S1 _ _ hr).mono ?_
              rintro e' σ ⟨rfl, rfl⟩
              cases e' with
              | normal => exact absurd hr (hne _)
              | _ => exact ⟨rfl, rfl⟩
      · cases h
end
end Go.Am
end
section
set_option linter.unusedSimpArgs false
set_option linter.unusedVariables false
namespace Go.Am
open Go Go.RowKit Go.Lib MapKept
section
variable {P : Program} {E : EEnv} {N : Nat}
theorem initS_get : ∀ (l : List AV) (k i : Nat), (initS k l).get i = if k ≤ i then l[i - k]? else none
  | [], k, i => by simp [initS, Tr.get]
  | x :: r, k, i => by
    simp only [initS, Tr.get_put, initS_get r (k + 1) i]
    by_cases h : i = k
    · subst h; simp
    · rw [if_neg h]
      by_cases h2 : k ≤ i
      · rw [if_pos h2, if_pos (by omega), show i - k = (i - (k + 1)) + 1 by omega]; rfl
      · rw [if_neg h2, if_neg (by omega)]
theorem initM_get : ∀ (l : List MS) (k i : Nat), (initM k l).get i = if k ≤ i then l[i - k]? else none
  | [], k, i => by simp [initM, Tr.get]
  | x :: r, k, i => by
    simp only [initM, Tr.get_put, initM_get r (k + 1) i]
    by_cases h : i = k
    · subst h; simp
    · rw [if_neg h]
      by_cases h2 : k ≤ i
      · rw [if_pos h2, if_pos (by omega), show i - k = (i - (k + 1)) + 1 by omega]; rfl
      · rw [if_neg h2, if_neg (by omega)]
theorem den_init (args : List AV) (ins : List MS) (nx : Nat) : den ⟨initS 0 args, initM 0 ins, nx⟩ = ⟨fun i => args.getD i .any, objsOf ins⟩ := by
  unfold den
  congr 1
  · funext i
    simp only [evE, initS_get, Nat.zero_le, if_true, Nat.sub_zero, List.getD_eq_getElem?_getD]
    cases args[i]? <;> rfl
  · funext t
    simp only [mE, initM_get, Nat.zero_le, if_true, Nat.sub_zero, objsOf]
    cases ins[t]? <;> rfl
theorem resE_ok (hΓ : E.Γ.Good P) {S : ES} : ∀ {rvs : List ResultVar} {xs : List AV}, resE E.Γ S rvs = some xs → ResL P (den S) rvs xs
  | [], xs, h => by cases h; trivial
  | rv :: rvs, xs, h => by
    simp only [resE] at h
    split at h
    · rename_i x ys h1 h2
      cases h
      refine ⟨?_, resE_ok hΓ h2⟩
      cases rv with
      | tmp t =>
        simp only [resE1, Option.some.injEq] at h1
        exact h1
      | cell a t =>
        simp only [resE1] at h1
        split at h1
        · rename_i tk i k ha
          split at h1
          · rename_i wd rows ro hm
            split at h1
            · rename_i r hr
              rw [getR_eq] at hr
              exact ⟨tk, i, k, wd, rows, ro, r, ha, hm, hr, loadA_ok hΓ (by rw [← lkT_eq, ← loadB_eq]; exact h1)⟩
            · cases h1
          · cases h1
        · cases h1
    · cases h
theorem outsE_ok {S : ES} {f : Nat → Option Nat} : ∀ {ns : List Nat} {outs : List MS}, outsE S f ns = some outs → outs.length = ns.length ∧ ∀ (k : Nat) (s : MS) (t : Nat), outs[k]? = some s → ns[k]? = some t →
    (∃ wd rows, s = .live wd (rnL f rows) false ∧ mE S t = .live wd rows false) ∨ (s = .dead ∧ mE S t ≠ .free)
  | [], outs, h => by cases h; exact ⟨rfl, by simp⟩
  | t :: r, outs, h => by
    simp only [outsE] at h
    split at h
    · cases h
    · rename_i l hl
      obtain ⟨h1, h2⟩ := outsE_ok hl
      have cons : ∀ s0, ((∃ wd rows, s0 = .live wd (rnL f rows) false ∧ mE S t = .live wd rows false) ∨ (s0 = .dead ∧ mE S t ≠ .free)) → (s0 :: l).length = (t :: r).length ∧ ∀ (k : Nat) (s : MS) (u : Nat), (s0 :: l)[k]? = some s → (t :: r)[k]? = some u →
          (∃ wd rows, s = .live wd (rnL f rows) false ∧ mE S u = .live wd rows false) ∨ (s = .dead ∧ mE S u ≠ .free) := by
        intro s0 h0
        refine ⟨by simp [h1], fun k s u hs hu => ?_⟩
        cases k with
        | zero => simp at hs hu; subst hs; subst hu; exact h0
        | succ k => exact h2 k s u (by simpa using hs) (by simpa using hu)
      split at h
      · rename_i wd rows hm; cases h; exact cons _ (.inl ⟨wd, rows, rfl, hm⟩)
      · rename_i wd rows hm; cases h; exact cons _ (.inr ⟨rfl, by rw [hm]; simp⟩)
      · rename_i hm; cases h; exact cons _ (.inr ⟨rfl, by rw [hm]; simp⟩)
      · cases h
theorem headN_ok : ∀ {k i : Nat} {ns : List Nat}, headN k i ns = true → ∀ j, j < k → ns[j]? = some (i + j)
  | 0, _, _, _, j, hj => by omega
  | k + 1, i, [], h, _, _ => by cases h
  | k + 1, i, t :: r, h, j, hj => by
    simp only [headN] at h
    split at h
    · rename_i hb
      have := beq_eq hb
      subst this
      cases j with
      | zero => rfl
      | succ j =>
        have := headN_ok h j (by omega)
        rw [show t + (j + 1) = t + 1 + j by omega]
        exact this
    · cases h
theorem endE_ok (hΓ : E.Γ.Good P) {S : ES} {nL : Nat} {fn : Func} {outs : List MS} {res : AV} (h : endE E.Γ nL fn.results.toList S = some (outs, res)) {w0 : World} {W0 : Nat → Prop} {L μ : Mu} {a : Act} {w : World} (hL : ∀ t, nL ≤ t → L t = none) (hs : Sim P N w0 W0 L μ (den S) a w) :
    ∃ v, (results fn a.tmps).run P w = .ok v w ∧ ∃ μ', Sim P 0 w0 W0 L μ' (bare outs) noAct w ∧ Rep (Wr W0 μ' (objsOf outs)) μ' w res v := by
  unfold endE at h
  split at h
  · cases h
  · rename_i xs hxs
    generalize reachE 1000 S 0 (refA S (ret1 xs) (List.range nL)) = ns at h
    simp only at h
    split at h
    · rename_i outs' g1 g2 g3
      cases h
      have hres := (resE_ok hΓ hxs).get
      obtain ⟨v, v1, v2⟩ := results_run hs hres.1 hres.2
      refine ⟨v, v1, ?_⟩
      obtain ⟨o1, o2⟩ := outsE_ok g1
      have hnd := nodupN_ok g2
      have hhd : ∀ j, j < nL → ns[j]? = some j := fun j hj => by have := headN_ok g3 j hj; simpa using this
      have hlive : ∀ t, objsOf outs t ≠ .free → ∃ u, ns[t]? = some u := fun t ht => by
        unfold objsOf at ht
        cases ho : outs[t]? with
        | none => rw [ho] at ht; exact absurd rfl ht
        | some s =>
          have : t < ns.length := by rw [← o1]; exact (List.getElem?_eq_some_iff.1 ho).1
          exact ⟨_, List.getElem?_eq_getElem this⟩
      have hget : ∀ t u, ns[t]? = some u → ns.getD t 0 = u := fun t u h => by rw [List.getD_eq_getElem?_getD, h]; rfl
      have hnf : ∀ t u, ns[t]? = some u → objsOf outs t ≠ .free := fun t u hu => by
        have hlt : t < outs.length := by rw [o1]; exact (List.getElem?_eq_some_iff.1 hu).1
        unfold objsOf
        rw [List.getElem?_eq_getElem hlt]
        rcases o2 t _ u (List.getElem?_eq_getElem hlt) hu with ⟨wd, rows, e, _⟩ | ⟨e, _⟩
        · rw [e]; simp
        · rw [e]; simp
      have hf : ∀ t u, idxIn ns 0 t = some u → objsOf outs u ≠ .free ∧ ns.getD u 0 = t := fun t u hu => by
        obtain ⟨_, h2⟩ := idxIn_ok hu
        rw [Nat.sub_zero] at h2
        exact ⟨hnf u t h2, hget u t h2⟩
      have hw : Weaker nL (fun t => ns.getD t 0) (fun _ => False) (bare outs) (den S) := by
        refine ⟨fun i => .any, fun t => ?_, fun t t' h1 h2 he => ?_, fun s h => h.elim, fun t ht hne => ?_⟩
        · by_cases hfr : objsOf outs t = .free
          · exact .inl hfr
          · right
            obtain ⟨u, hu⟩ := hlive t hfr
            have hlt : t < outs.length := by rw [o1]; exact (List.getElem?_eq_some_iff.1 hu).1
            have hmem : (bare outs).mem t = outs[t] := by show objsOf outs t = _; unfold objsOf; rw [List.getElem?_eq_getElem hlt]; rfl
            have hden : (den S).mem (ns.getD t 0) = mE S u := by rw [hget t u hu]; rfl
            rcases o2 t _ u (List.getElem?_eq_getElem hlt) hu with ⟨wd, rows, e1, e2⟩ | ⟨e1, e2⟩
            · right
              refine ⟨wd, rnL (idxIn ns 0) rows, rows, false, false, by rw [hmem]; exact e1, by rw [hden]; exact e2, id, ?_, rnL_cv hf rows⟩
              obtain ⟨B, _, hB⟩ := hs.objs u wd rows false e2
              exact rnL_wide hB.wide
            · left
              exact ⟨by rw [hmem]; exact e1, by rw [hden]; exact e2⟩
        · obtain ⟨u, hu⟩ := hlive t h1
          obtain ⟨u', hu'⟩ := hlive t' h2
          have he' : u = u' := by
            have h3 := hget t u hu
            have h4 := hget t' u' hu'
            rw [← h3, ← h4]
            exact he
          subst he'
          have e1 := idx_of hnd hu
          have e2 := idx_of hnd hu'
          rw [← e1, e2]
        · have h1 := hhd t ht
          exact ⟨hget t t h1, hnf t t h1⟩
      obtain ⟨μ', hs', hrep⟩ := hw.sim hL hs (N' := 0) (a' := noAct) (.inr ⟨fun _ => rfl, rfl, rfl⟩)
      exact ⟨μ', hs', hrep _ _ _ (rnA_cv hf _) v2⟩
    · cases h
theorem runF_ok (hE : E.Good P) (fuel : Nat) : ∀ n, GoodCalls P (runF E fuel n)
  | 0 => fun g ins args outs res h => by cases h
  | n + 1 => fun g ins args outs res h => by
    unfold runF at h
    split at h
    · rename_i r ho
      cases h
      exact hE.orc _ _ _ _ _ ho
    · split at h
      · cases h
      · rename_i fn hfn
        obtain ⟨hf, hc⟩ := hE.fns _ (lkF_mem hfn)
        refine ⟨?_, hc⟩
        split at h
        · rename_i c hb hlen0
          have hlen := ble_le hlen0
          have run : ∀ e S, codeE E (runF E fuel n) fn.ntmps fuel c ⟨initS 0 args, initM 0 ins, ins.length⟩ = some (e, S) → (e = .normal ∨ e = .ret) → endE E.Γ ins.length fn.results.toList S = some (outs, res) → FnOK P g ins args outs res := by
            intro e S hcode he hend
            intro w W0 L vs hL hs hr
            refine calls_of_wp hf hb ?_
            have h1 := codeE_ok (nL := ins.length) hE (runF_ok hE fuel n) _ _ _ _ _ hcode
            rw [den_init] at h1
            have hsim : Sim P fn.ntmps w W0 L L ⟨fun i => args.getD i .any, objsOf ins⟩ { tmps := vs.toArray ++ Array.replicate (fn.ntmps - vs.toArray.size) undef, defers := [] } w := by
              refine ⟨?_, rfl, hs.os, hs.tape, hs.output, hs.hsize, hs.shp, hs.keep, hs.w0lt, hs.lentμ, hs.free, fun i => ?_, hs.objs, hs.inj, hs.out, hs.tabs⟩
              · simp [hr.1]; omega
              · by_cases hi : i < args.length
                · have h1 : args[i]? = some args[i] := List.getElem?_eq_getElem hi
                  have h2 : vs[i]? = some (vs[i]'(by rw [hr.1]; exact hi)) := List.getElem?_eq_getElem _
                  have := hr.2 i _ _ h1 h2
                  have hv : (vs.toArray ++ Array.replicate (fn.ntmps - vs.toArray.size) undef).getD i undef = vs[i]'(by rw [hr.1]; exact hi) := by
                    rw [Array.getD_eq_getD_getElem?, Array.getElem?_append_left (by simp; rw [hr.1]; exact hi)]
                    simp [h2]
                  simp only [hv, List.getD_eq_getElem?_getD, h1, Option.getD_some]
                  exact this
                · simp only [List.getD_eq_getElem?_getD, List.getElem?_eq_none (Nat.le_of_not_lt hi), Option.getD_none]
                  exact .any
            refine wp_mono (h1 w W0 L L _ w (fun t ht => hL t (by omega)) hsim) ?_
            rintro e' a' w' ⟨μ', σ', ⟨rfl, rfl⟩, hs'⟩
            have key : a'.defers = [] ∧ ∃ v, (results fn a'.tmps).run P w' = .ok v w' ∧ ∃ v_1 μ', Ending.returned v = .returned v_1 ∧ Sim P 0 w W0 L μ' (bare outs) noAct w' ∧ Rep (Wr W0 μ' (objsOf outs)) μ' w' res v_1 := by
              obtain ⟨v, v1, μ'', h3, h4⟩ := endE_ok hE.Γ hend hL hs'
              exact ⟨hs'.defers, v, v1, v, μ'', rfl, h3, h4⟩
            rcases he with rfl | rfl
            · exact key
            · exact key
          split at h
          · rename_i S hcode; exact run _ _ hcode (.inl rfl) h
          · rename_i S hcode; exact run _ _ hcode (.inr rfl) h
          · cases h
        · cases h
theorem FnOK.run (hE : E.Good P) (fuel n : Nat) {g : FuncId} {ins outs : List MS} {args : List AV} {res : AV} (h : runF E fuel n g ins args = some (outs, res)) : FnOK P g ins args outs res := (runF_ok hE fuel n _ _ _ _ _ h).1
end
end Go.Am
end
section
set_option linter.unusedSimpArgs false
set_option linter.unusedVariables false
namespace Go.Am
open Go
def eqNs : List Nat → List Nat → Bool
  | [], [] => true
  | x :: xs, y :: ys => match Nat.beq x y with
    | true => eqNs xs ys
    | false => false
  | _, _ => false
theorem eqNs_ok : ∀ {a b : List Nat}, eqNs a b = true → a = b
  | [], [], _ => rfl
  | x :: xs, y :: ys, h => by
    simp only [eqNs] at h
    split at h
    · rename_i hb; rw [Nat.eq_of_beq_eq_true hb, eqNs_ok h]
    · cases h
  | [], _ :: _, h => by cases h
  | _ :: _, [], h => by cases h
def eqV : Value → Value → Bool
  | .bool a, .bool b => match a, b with
    | true, true => true
    | false, false => true
    | _, _ => false
  | .int k a, .int l b => match decide (k = l) with
    | true => decide (a = b)
    | false => false
  | .string a, .string b => eqNs (a.data.toList.map UInt8.toNat) (b.data.toList.map UInt8.toNat)
  | .pointer none, .pointer none => true
  | .slice none a b, .slice none c d => match Nat.beq a c with
    | true => Nat.beq b d
    | false => false
  | .map none, .map none => true
  | .nilFunc, .nilFunc => true
  | .nilIface, .nilIface => true
  | _, _ => false
theorem eqV_ok : ∀ {a b : Value}, eqV a b = true → a = b := by
  intro a b h
  unfold eqV at h
  split at h
  · rename_i a b; cases a <;> cases b <;> first | rfl | cases h
  · split at h
    · rename_i hk; rw [of_decide_eq_true hk, of_decide_eq_true h]
    · cases h
  · rename_i a b
    have h1 := eqNs_ok h
    have h2 : a.data.toList = b.data.toList := List.map_inj_right (fun x y => UInt8.toNat_inj.1) |>.1 h1
    have h3 : a.data = b.data := Array.ext' h2
    cases a; cases b; simp only at h3; rw [h3]
  · rfl
  · split at h
    · rename_i hk; rw [Nat.eq_of_beq_eq_true hk, Nat.eq_of_beq_eq_true h]
    · cases h
  · rfl
  · rfl
  · rfl
  · cases h
mutual
def eqA : AV → AV → Bool
  | .lit a, y => match y with
    | .lit b => eqV a b
    | _ => false
  | .ptr a b c, y => match y with
    | .ptr d e f => eqNs [a, b, c] [d, e, f]
    | _ => false
  | .own a b c, y => match y with
    | .own d e f => eqNs [a, b, c] [d, e, f]
    | _ => false
  | .mapr a, y => match y with
    | .mapr b => Nat.beq a b
    | _ => false
  | .agg a, y => match y with
    | .agg b => eqAs a b
    | _ => false
  | .tup a, y => match y with
    | .tup b => eqAs a b
    | _ => false
  | _, _ => false
def eqAs : List AV → List AV → Bool
  | [], y => match y with
    | [] => true
    | _ => false
  | x :: xs, y => match y with
    | y :: ys => match eqA x y with
      | true => eqAs xs ys
      | false => false
    | _ => false
end
mutual
theorem eqA_ok : ∀ (a b : AV), eqA a b = true → a = b
  | .lit a, b, h => by
    unfold eqA at h
    split at h
    · rw [eqV_ok h]
    · cases h
  | .ptr a b c, y, h => by
    unfold eqA at h
    split at h
    · have := eqNs_ok h; simp at this; rw [this.1, this.2.1, this.2.2]
    · cases h
  | .own a b c, y, h => by
    unfold eqA at h
    split at h
    · have := eqNs_ok h; simp at this; rw [this.1, this.2.1, this.2.2]
    · cases h
  | .mapr a, y, h => by
    unfold eqA at h
    split at h
    · rw [Nat.eq_of_beq_eq_true h]
    · cases h
  | .agg a, y, h => by
    unfold eqA at h
    split at h
    · rw [eqAs_ok _ _ h]
    · cases h
  | .tup a, y, h => by
    unfold eqA at h
    split at h
    · rw [eqAs_ok _ _ h]
    · cases h
  | .any, _, h => by simp [eqA] at h
  | .emp, _, h => by simp [eqA] at h
  | .guess _ _, _, h => by simp [eqA] at h
  | .sl _ _, _, h => by simp [eqA] at h
  | .fptr _ _, _, h => by simp [eqA] at h
  | .clo _ _ _, _, h => by simp [eqA] at h
  | .fmap _, _, h => by simp [eqA] at h
theorem eqAs_ok : ∀ (a b : List AV), eqAs a b = true → a = b
  | [], y, h => by
    unfold eqAs at h
    split at h
    · rfl
    · cases h
  | x :: xs, y, h => by
    unfold eqAs at h
    split at h
    · split at h
      · rename_i hx; rw [eqA_ok _ _ hx, eqAs_ok _ _ h]
      · cases h
    · cases h
end
def eqM : MS → MS → Bool
  | .free, .free => true
  | .dead, .dead => true
  | .live a r x, .live b s y => match Nat.beq a b with
    | true => match x, y with
      | true, true => eqAs r s
      | false, false => eqAs r s
      | _, _ => false
    | false => false
  | _, _ => false
theorem eqM_ok {a b : MS} (h : eqM a b = true) : a = b := by
  unfold eqM at h
  split at h
  · rfl
  · rfl
  · split at h
    · rename_i hb
      have := Nat.eq_of_beq_eq_true hb
      split at h
      · rw [this, eqAs_ok _ _ h]
      · rw [this, eqAs_ok _ _ h]
      · cases h
    · cases h
  · cases h
def eqMs : List MS → List MS → Bool
  | [], [] => true
  | x :: xs, y :: ys => match eqM x y with
    | true => eqMs xs ys
    | false => false
  | _, _ => false
theorem eqMs_ok : ∀ {a b : List MS}, eqMs a b = true → a = b
  | [], [], _ => rfl
  | x :: xs, y :: ys, h => by
    simp only [eqMs] at h
    split at h
    · rename_i hb; rw [eqM_ok hb, eqMs_ok h]
    · cases h
  | [], _ :: _, h => by cases h
  | _ :: _, [], h => by cases h
structure Ans where
  g : FuncId
  ins : List MS
  args : List AV
  outs : List MS
  res : AV
def tblF (orc : CallT) : List Ans → CallT
  | [] => orc
  | r :: rest => fun g ins args => match Nat.beq r.g g with
    | true => match eqMs r.ins ins with
      | true => match eqAs r.args args with
        | true => some (r.outs, r.res)
        | false => tblF orc rest g ins args
      | false => tblF orc rest g ins args
    | false => tblF orc rest g ins args
def Ans.OK (P : Program) (r : Ans) : Prop := FnOK P r.g r.ins r.args r.outs r.res ∧ Callable P r.g
theorem tblF_ok {P : Program} {orc : CallT} (ho : GoodCalls P orc) : ∀ {l : List Ans}, (∀ r ∈ l, r.OK P) → GoodCalls P (tblF orc l)
  | [], _ => ho
  | r :: rest, h => by
    intro g ins args outs res hq
    have ih := tblF_ok ho (l := rest) (fun x hx => h x (List.mem_cons_of_mem _ hx))
    simp only [tblF] at hq
    split at hq
    · rename_i h1
      split at hq
      · rename_i h2
        split at hq
        · rename_i h3
          cases hq
          have h0 := h r (List.mem_cons_self ..)
          unfold Ans.OK at h0
          rw [Nat.eq_of_beq_eq_true h1, eqMs_ok h2, eqAs_ok _ _ h3] at h0
          exact h0
        · exact ih _ _ _ _ _ hq
      · exact ih _ _ _ _ _ hq
    · exact ih _ _ _ _ _ hq
def EEnv.more (E : EEnv) (l : List Ans) : EEnv := ⟨E.Γ, E.Δ, E.fns, E.kinds, tblF E.orc l⟩
theorem EEnv.more_good {P : Program} {E : EEnv} (hE : E.Good P) {l : List Ans} (h : ∀ r ∈ l, r.OK P) : (E.more l).Good P := ⟨hE.Γ, hE.Δ, hE.fns, hE.kinds, tblF_ok (fun _ _ _ _ _ h => hE.orc _ _ _ _ _ h) h, hE.orders⟩
theorem Ans.of {P : Program} {E : EEnv} (hE : E.Good P) {fuel n : Nat} {r : Ans} (h : runF E fuel n r.g r.ins r.args = some (r.outs, r.res)) : r.OK P := runF_ok hE fuel n _ _ _ _ _ h
theorem Ans.cons {P : Program} {r : Ans} {l : List Ans} (h : r.OK P) (hl : ∀ r ∈ l, r.OK P) : ∀ x ∈ r :: l, x.OK P := List.forall_mem_cons.2 ⟨h, hl⟩
end Go.Am
end
