/- Walks of functions by unfolding over abstract states; runs of functions by an evaluator that is proved. By an AI agent. -/
import Derived.Test.YtkhjcnjicjgfiaaGreatDoorW15
set_option linter.unusedSimpArgs false
set_option linter.unusedVariables false
namespace Go.Am
open Go
mutual
def eqS : AV → AV → Bool
  | .sl a r, y => match y with
    | .sl b s => match Nat.beq a b with
      | true => eqSs r s
      | false => false
    | _ => false
  | .agg r, y => match y with
    | .agg s => eqSs r s
    | _ => false
  | .lit a, y => match y with
    | .lit b => eqV a b
    | _ => false
  | .own a b c, y => match y with
    | .own d e f => eqNs [a, b, c] [d, e, f]
    | _ => false
  | _, _ => false
def eqSs : List AV → List AV → Bool
  | [], y => match y with
    | [] => true
    | _ => false
  | x :: xs, y => match y with
    | y :: ys => match eqS x y with
      | true => eqSs xs ys
      | false => false
    | _ => false
end
mutual
theorem eqS_ok : ∀ (a b : AV), eqS a b = true → a = b
  | .sl a r, b, h => by
    unfold eqS at h
    split at h
    · split at h
      · rename_i hb; rw [Nat.eq_of_beq_eq_true hb, eqSs_ok _ _ h]
      · cases h
    · cases h
  | .agg r, b, h => by
    unfold eqS at h
    split at h
    · rw [eqSs_ok _ _ h]
    · cases h
  | .lit a, b, h => by
    unfold eqS at h
    split at h
    · rw [eqV_ok h]
    · cases h
  | .own a b c, y, h => by
    unfold eqS at h
    split at h
    · have := eqNs_ok h; simp at this; obtain ⟨rfl, rfl, rfl⟩ := this; rfl
    · cases h
  | .any, _, h => by simp [eqS] at h
  | .emp, _, h => by simp [eqS] at h
  | .ptr _ _ _, _, h => by simp [eqS] at h
  | .fptr _ _, _, h => by simp [eqS] at h
  | .mapr _, _, h => by simp [eqS] at h
  | .fmap _, _, h => by simp [eqS] at h
  | .tup _, _, h => by simp [eqS] at h
  | .clo _ _ _, _, h => by simp [eqS] at h
  | .guess _ _, _, h => by simp [eqS] at h
theorem eqSs_ok : ∀ (a b : List AV), eqSs a b = true → a = b
  | [], b, h => by
    unfold eqSs at h
    split at h
    · rfl
    · cases h
  | x :: xs, b, h => by
    unfold eqSs at h
    split at h
    · split at h
      · rename_i hx; rw [eqS_ok _ _ hx, eqSs_ok _ _ h]
      · cases h
    · cases h
end
def eqMS : MS → MS → Bool
  | .live a r x, .live b s y => match Nat.beq a b with
    | true => match x, y with
      | true, true => eqSs r s
      | false, false => eqSs r s
      | _, _ => false
    | false => false
  | .dead, .dead => true
  | _, _ => false
theorem eqMS_ok {a b : MS} (h : eqMS a b = true) : a = b := by
  unfold eqMS at h
  split at h
  · split at h
    · rename_i hb
      split at h
      · rw [Nat.eq_of_beq_eq_true hb, eqSs_ok _ _ h]
      · rw [Nat.eq_of_beq_eq_true hb, eqSs_ok _ _ h]
      · cases h
    · cases h
  · rfl
  · cases h
def eqMSs : List MS → List MS → Bool
  | [], [] => true
  | x :: xs, y :: ys => match eqMS x y with
    | true => eqMSs xs ys
    | false => false
  | _, _ => false
theorem eqMSs_ok : ∀ {a b : List MS}, eqMSs a b = true → a = b
  | [], [], _ => rfl
  | x :: xs, y :: ys, h => by
    simp only [eqMSs] at h
    split at h
    · rename_i hb; rw [eqMS_ok hb, eqMSs_ok h]
    · cases h
  | [], _ :: _, h => by cases h
  | _ :: _, [], h => by cases h
def tblS (orc : CallT) : List Ans → CallT
  | [] => orc
  | r :: rest => fun g ins args => match Nat.beq r.g g with
    | true => match eqSs r.args args with
      | true => match eqMSs r.ins ins with
        | true => some (r.outs, r.res)
        | false => tblS orc rest g ins args
      | false => tblS orc rest g ins args
    | false => tblS orc rest g ins args
theorem tblS_ok {P : Program} {orc : CallT} (ho : GoodCalls P orc) : ∀ {l : List Ans}, (∀ r ∈ l, r.OK P) → GoodCalls P (tblS orc l)
  | [], _ => ho
  | r :: rest, h => by
    intro g ins args outs res hq
    have ih := tblS_ok ho (l := rest) (fun x hx => h x (List.mem_cons_of_mem _ hx))
    simp only [tblS] at hq
    split at hq
    · rename_i h1
      split at hq
      · rename_i h3
        split at hq
        · rename_i h2
          cases hq
          have h0 := h r (List.mem_cons_self ..)
          unfold Ans.OK at h0
          rw [Nat.eq_of_beq_eq_true h1, eqMSs_ok h2, eqSs_ok _ _ h3] at h0
          exact h0
        · exact ih _ _ _ _ _ hq
      · exact ih _ _ _ _ _ hq
    · exact ih _ _ _ _ _ hq
def EEnv.moreS (E : EEnv) (l : List Ans) : EEnv := ⟨E.Γ, E.Δ, E.fns, E.kinds, tblS E.orc l, E.ifs⟩
theorem EEnv.moreS_good {P : Program} {E : EEnv} (hE : E.Good P) {l : List Ans} (h : ∀ r ∈ l, r.OK P) : (E.moreS l).Good P := ⟨hE.Γ, hE.Δ, hE.fns, hE.kinds, tblS_ok (fun _ _ _ _ _ h => hE.orc _ _ _ _ _ h) h, hE.orders, hE.ifs⟩
end Go.Am
