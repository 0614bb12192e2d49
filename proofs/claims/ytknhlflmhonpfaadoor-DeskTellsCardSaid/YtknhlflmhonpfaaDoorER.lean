/- How the arguments and the tied variables read. By an AI agent. -/
import Derived.Test.YtknhlflmhonpfaaDoorEE
import Derived.Test.YtknhlflmhonpfaaDoorAmB
import Derived.Test.YtknhlflmhonpfaaDoorRows
import Derived.ProofKit
import Derived.LaidMore
import Derived.OpenShut
import Derived.Stop.Joined
import Derived.Lib.LaidTab
import Derived.MakeChecks
section
set_option linter.unusedSimpArgs false
set_option linter.unusedVariables false
namespace Go.Proofs.DeskD
open Go Go.Am Go.RowKit
/-! Own text: how the arguments of this seat's laws read, and what the tied variables hold. -/
theorem rStr : Reads Tryd.prog 9 1 eStr (fun s => s.size ≤ maxLen) := Reads.str Tryd.underlying9 (by kernel_rfl)
theorem rInt : Reads Tryd.prog 3 1 oInt (fun _ => True) := (Reads.int Tryd.underlying3 (by kernel_rfl)).conv id id (fun _ => rfl) (fun _ => rfl) (fun _ _ => trivial)
theorem rBool : Reads Tryd.prog 4 1 (fun b : Bool => .lit (.bool b)) (fun _ => True) := Reads.bool Tryd.underlying4 (by kernel_rfl)
theorem rDef : Reads Tryd.prog 46 3 oDef (fun _ => True) :=
  (Reads.struct (l := [(0, 9), (1, 9), (2, 3)]) Tryd.underlying46 (by kernel_rfl) rfl (.cons rStr (.cons rStr (.cons rInt .nil)))).conv
    (fun (a, b, c, _) => ⟨a, b, c⟩) (fun t => (t.name, t.locl, t.cls, ())) (fun _ => rfl) (fun _ => rfl) (fun _ _ => trivial)
theorem rWait : Reads Tryd.prog 51 2 oWait (fun _ => True) :=
  (Reads.struct (l := [(0, 9), (1, 3)]) Tryd.underlying51 (by kernel_rfl) rfl (.cons rStr (.cons rInt .nil))).conv
    (fun (a, b, _) => ⟨a, b⟩) (fun t => (t.name, t.ticket, ())) (fun _ => rfl) (fun _ => rfl) (fun _ _ => trivial)
theorem rDefs1 : Reads Tryd.prog 22 1 eDefs (fun _ => True) := (Reads.slice Tryd.underlying22 (by kernel_rfl) rDef (by omega)).conv id id (fun _ => rfl) (fun _ => rfl) (fun _ _ => trivial)
theorem rWaits1 : Reads Tryd.prog 23 1 eWaits (fun _ => True) := (Reads.slice Tryd.underlying23 (by kernel_rfl) rWait (by omega)).conv id id (fun _ => rfl) (fun _ => rfl) (fun _ _ => trivial)
theorem rDesk : Reads Tryd.prog 25 4 eDesk (fun _ => True) :=
  (Reads.struct (l := [(0, 22), (1, 23), (2, 3), (3, 4)]) Tryd.underlying25 (by kernel_rfl) rfl (.cons rDefs1 (.cons rWaits1 (.cons rInt (.cons rBool .nil))))).conv
    (fun (a, b, c, e, _) => ⟨a, b, c, e⟩) (fun t => (t.defs, t.waits, t.next, t.busy, ())) (fun _ => rfl) (fun _ => rfl) (fun _ _ => trivial)
theorem laid : Go.laidOutB Tryd.prog = true := by kernel_rfl
abbrev laidRows : List (String × DataW Unit) := [("unicode.White_Space", Go.Proofs.YtknhlflmhonpfaaDoor.Rows.laid_unicode_White_Space), ("strings.asciiSpace", Go.Proofs.YtknhlflmhonpfaaDoor.Rows.laid_strings_asciiSpace)]
theorem tab_eq : (Go.Proofs.YtknhlflmhonpfaaDoor.Rows.laid_strings_asciiSpace : DataW Unit) = Lib.tabData .u8 Lib.asciiSpaceTab := by kernel_rfl
theorem door_met (os : Os) (args : Array Value) : laidMetH Tryd.prog laidRows ((World.doorLaid Tryd.prog 33 os).forCall (fun _ _ => 0) ⟨#[], args, []⟩).memory :=
  laidMetH_of_parts3 (fuel := 8) (laidMet_of_run' 8 (by kernel_rfl) (by kernel_rfl)) (by kernel_rfl) (by kernel_rfl)
theorem gSp : Tryd.prog.globalNamed "strings.asciiSpace" = some 0 := by kernel_rfl
theorem tySp : (Tryd.prog.globals[0]?).map (·.type) = some 84 := by kernel_rfl
/-- What the tied variables give a walk. -/
theorem tabs_of_laid {W : World} (h : laidMetH Tryd.prog laidRows W) : Tabs Tryd.prog W fun _ => none := by
  rw [MakeChecks.laidMetH_plain _ _ _ (by kernel_rfl)] at h
  obtain ⟨ps, ⟨g0, t0, cs0, f0, p0, q0, hg0, ht0, hv0, hd0, ⟨g1, t1, cs1, f1, p1, q1, hg1, ht1, hv1, hd1, _, _⟩, _⟩, _⟩ := h
  intro g hg
  obtain rfl := Option.some.inj (hg.symm.trans hg1)
  have e : g = 0 := Option.some.inj (hg.symm.trans gSp)
  have ht : (Tryd.prog.globals[g]?).map (·.type) = some 84 := by rw [e]; exact tySp
  obtain rfl := Option.some.inj (ht.symm.trans ht1)
  rw [tab_eq] at hd1
  have hc := Lib.cells_of_tab Tryd.underlying84 Tryd.underlying5 (by kernel_rfl) (by kernel_rfl) hd1
  have htab : Lib.TabIs Tryd.prog W "strings.asciiSpace" .u8 Lib.asciiSpaceTab := by
    unfold Lib.TabIs
    rw [hv1, ← hc]
  have hcell : ∀ c : Nat, c < 256 → W.cell? ⟨g, c, none⟩ = some (.int .u8 (if Lib.isSp (UInt8.ofNat c) then 1 else 0)) := fun c hc => by
    rw [htab.cell hg c (by rw [Lib.asciiSpaceTab_length]; exact hc), Lib.asciiSpaceTab_at c hc]
  refine ⟨(by rintro ⟨_, _, h, _⟩; cases h), World.block_lt_of_cell? _ _ (hcell 0 (by omega)), hcell⟩
end Go.Proofs.DeskD
end
