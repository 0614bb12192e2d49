/-
  NARROWER THAN 'FOR EVERY INPUT', by the rows' own cells (each row's printed sentence says how): AbleMore: laid · AbleBack: laid · MovePut: laid · MoveBack: laid · MoveRight: laid · MoveAgain: laid · MoveAttrs: laid · MoveNotes: laid · AbleOut: laid · OwnerMoves: laid · OwnerBack: laid · DutyMoves: laid.
  DERIVED. THE GIVEN ROWS OF THIS SEAT. 12 by the template 'for every input the law returns true; each argument reads behind the call as it read before'; 0 by the template 'total and deterministic' (their statements: YtkhjcnjicjgfiaaGreatDoorTotals.lean).
  GIVEN WITH THE SEED: the statements are not yours to turn. If you find one false, say at which input.
  Laid BY PROGRAM, IN A SANDBOX (cutbox-rows.mjs): the forced cells as the released guide's own fill.sh prints them over the translation b99438a3969ec652… (all of the seat's roots in one cut). By AI agents, Wed Nov 11 2026. No macro, syntax, notation, axiom, sorry.
-/
import Derived.Test.YtkhjcnjicjgfiaaGreatDoorChecked
import GoSem.Claim
import GoSem.ClaimJoined
import GoSem.ClaimMapViews
import Derived.JoinedTies
import Derived.KernelRfl
namespace Go.Proofs.YtkhjcnjicjgfiaaGreatDoor
/- THE CELL 'sum', in the pinned program and in every row, IS THE sha256 OF THE DUMP (.gsa) THAT YtkhjcnjicjgfiaaGreatDoorProg.lean LOADS. Nothing in Lean hashes anything: it is a label: what it is worth is what the hold of that sum in a sandbox is worth. -/
noncomputable def Tryz.pinned : Pinned := { name := "ytkhjcnjicjgfiaagreatdoor", sum := "b99438a3969ec652ccc9ad8268582d93ebf2d8356e0d758a92b481c7c3c123cc", checked := Tryz.checked }
namespace Rows
def none {H : Type} : Left H := { results := [], args := [] }

/- WHAT THE LISTED PACKAGE-LEVEL VARIABLES READ AS WHEN THE CALL BEGINS. Each datum BY PROGRAM (the guide's laid-datum.mjs) off the statement by which the dump's own 'gosem.cut.vars' lays the variable. In a bare row this is a premise. The card (YtkhjcnjicjgfiaaGreatDoorCards.lean) ties it to the program's text. -/
def laid_errors_errorType {H : Type} : DataW H := .iface "internal/reflectlite.rtype" (.agg [.ptr (.lit (.string [101, 114, 114, 111, 114]))])
def laid_unicode_White_Space {H : Type} : DataW H := .ptr (.agg [.slice [.agg [.lit (.int .u16 9), .lit (.int .u16 13), .lit (.int .u16 1)], .agg [.lit (.int .u16 32), .lit (.int .u16 133), .lit (.int .u16 101)], .agg [.lit (.int .u16 160), .lit (.int .u16 5760), .lit (.int .u16 5600)], .agg [.lit (.int .u16 8192), .lit (.int .u16 8202), .lit (.int .u16 1)], .agg [.lit (.int .u16 8232), .lit (.int .u16 8233), .lit (.int .u16 1)], .agg [.lit (.int .u16 8239), .lit (.int .u16 8287), .lit (.int .u16 48)], .agg [.lit (.int .u16 12288), .lit (.int .u16 12288), .lit (.int .u16 1)]] [], .nil, .lit (.int .i64 2)])
def laid_strings_asciiSpace {H : Type} : DataW H := .agg [.lit (.int .u8 0), .lit (.int .u8 0), .lit (.int .u8 0), .lit (.int .u8 0), .lit (.int .u8 0), .lit (.int .u8 0), .lit (.int .u8 0), .lit (.int .u8 0), .lit (.int .u8 0), .lit (.int .u8 1), .lit (.int .u8 1), .lit (.int .u8 1), .lit (.int .u8 1), .lit (.int .u8 1), .lit (.int .u8 0), .lit (.int .u8 0), .lit (.int .u8 0), .lit (.int .u8 0), .lit (.int .u8 0), .lit (.int .u8 0), .lit (.int .u8 0), .lit (.int .u8 0), .lit (.int .u8 0), .lit (.int .u8 0), .lit (.int .u8 0), .lit (.int .u8 0), .lit (.int .u8 0), .lit (.int .u8 0), .lit (.int .u8 0), .lit (.int .u8 0), .lit (.int .u8 0), .lit (.int .u8 0), .lit (.int .u8 1), .lit (.int .u8 0), .lit (.int .u8 0), .lit (.int .u8 0), .lit (.int .u8 0), .lit (.int .u8 0), .lit (.int .u8 0), .lit (.int .u8 0), .lit (.int .u8 0), .lit (.int .u8 0), .lit (.int .u8 0), .lit (.int .u8 0), .lit (.int .u8 0), .lit (.int .u8 0), .lit (.int .u8 0), .lit (.int .u8 0), .lit (.int .u8 0), .lit (.int .u8 0), .lit (.int .u8 0), .lit (.int .u8 0), .lit (.int .u8 0), .lit (.int .u8 0), .lit (.int .u8 0), .lit (.int .u8 0), .lit (.int .u8 0), .lit (.int .u8 0), .lit (.int .u8 0), .lit (.int .u8 0), .lit (.int .u8 0), .lit (.int .u8 0), .lit (.int .u8 0), .lit (.int .u8 0), .lit (.int .u8 0), .lit (.int .u8 0), .lit (.int .u8 0), .lit (.int .u8 0), .lit (.int .u8 0), .lit (.int .u8 0), .lit (.int .u8 0), .lit (.int .u8 0), .lit (.int .u8 0), .lit (.int .u8 0), .lit (.int .u8 0), .lit (.int .u8 0), .lit (.int .u8 0), .lit (.int .u8 0), .lit (.int .u8 0), .lit (.int .u8 0), .lit (.int .u8 0), .lit (.int .u8 0), .lit (.int .u8 0), .lit (.int .u8 0), .lit (.int .u8 0), .lit (.int .u8 0), .lit (.int .u8 0), .lit (.int .u8 0), .lit (.int .u8 0), .lit (.int .u8 0), .lit (.int .u8 0), .lit (.int .u8 0), .lit (.int .u8 0), .lit (.int .u8 0), .lit (.int .u8 0), .lit (.int .u8 0), .lit (.int .u8 0), .lit (.int .u8 0), .lit (.int .u8 0), .lit (.int .u8 0), .lit (.int .u8 0), .lit (.int .u8 0), .lit (.int .u8 0), .lit (.int .u8 0), .lit (.int .u8 0), .lit (.int .u8 0), .lit (.int .u8 0), .lit (.int .u8 0), .lit (.int .u8 0), .lit (.int .u8 0), .lit (.int .u8 0), .lit (.int .u8 0), .lit (.int .u8 0), .lit (.int .u8 0), .lit (.int .u8 0), .lit (.int .u8 0), .lit (.int .u8 0), .lit (.int .u8 0), .lit (.int .u8 0), .lit (.int .u8 0), .lit (.int .u8 0), .lit (.int .u8 0), .lit (.int .u8 0), .lit (.int .u8 0), .lit (.int .u8 0), .lit (.int .u8 0), .lit (.int .u8 0), .lit (.int .u8 0), .lit (.int .u8 0), .lit (.int .u8 0), .lit (.int .u8 0), .lit (.int .u8 0), .lit (.int .u8 0), .lit (.int .u8 0), .lit (.int .u8 0), .lit (.int .u8 0), .lit (.int .u8 0), .lit (.int .u8 0), .lit (.int .u8 0), .lit (.int .u8 0), .lit (.int .u8 0), .lit (.int .u8 0), .lit (.int .u8 0), .lit (.int .u8 0), .lit (.int .u8 0), .lit (.int .u8 0), .lit (.int .u8 0), .lit (.int .u8 0), .lit (.int .u8 0), .lit (.int .u8 0), .lit (.int .u8 0), .lit (.int .u8 0), .lit (.int .u8 0), .lit (.int .u8 0), .lit (.int .u8 0), .lit (.int .u8 0), .lit (.int .u8 0), .lit (.int .u8 0), .lit (.int .u8 0), .lit (.int .u8 0), .lit (.int .u8 0), .lit (.int .u8 0), .lit (.int .u8 0), .lit (.int .u8 0), .lit (.int .u8 0), .lit (.int .u8 0), .lit (.int .u8 0), .lit (.int .u8 0), .lit (.int .u8 0), .lit (.int .u8 0), .lit (.int .u8 0), .lit (.int .u8 0), .lit (.int .u8 0), .lit (.int .u8 0), .lit (.int .u8 0), .lit (.int .u8 0), .lit (.int .u8 0), .lit (.int .u8 0), .lit (.int .u8 0), .lit (.int .u8 0), .lit (.int .u8 0), .lit (.int .u8 0), .lit (.int .u8 0), .lit (.int .u8 0), .lit (.int .u8 0), .lit (.int .u8 0), .lit (.int .u8 0), .lit (.int .u8 0), .lit (.int .u8 0), .lit (.int .u8 0), .lit (.int .u8 0), .lit (.int .u8 0), .lit (.int .u8 0), .lit (.int .u8 0), .lit (.int .u8 0), .lit (.int .u8 0), .lit (.int .u8 0), .lit (.int .u8 0), .lit (.int .u8 0), .lit (.int .u8 0), .lit (.int .u8 0), .lit (.int .u8 0), .lit (.int .u8 0), .lit (.int .u8 0), .lit (.int .u8 0), .lit (.int .u8 0), .lit (.int .u8 0), .lit (.int .u8 0), .lit (.int .u8 0), .lit (.int .u8 0), .lit (.int .u8 0), .lit (.int .u8 0), .lit (.int .u8 0), .lit (.int .u8 0), .lit (.int .u8 0), .lit (.int .u8 0), .lit (.int .u8 0), .lit (.int .u8 0), .lit (.int .u8 0), .lit (.int .u8 0), .lit (.int .u8 0), .lit (.int .u8 0), .lit (.int .u8 0), .lit (.int .u8 0), .lit (.int .u8 0), .lit (.int .u8 0), .lit (.int .u8 0), .lit (.int .u8 0), .lit (.int .u8 0), .lit (.int .u8 0), .lit (.int .u8 0), .lit (.int .u8 0), .lit (.int .u8 0), .lit (.int .u8 0), .lit (.int .u8 0), .lit (.int .u8 0), .lit (.int .u8 0), .lit (.int .u8 0), .lit (.int .u8 0), .lit (.int .u8 0), .lit (.int .u8 0), .lit (.int .u8 0), .lit (.int .u8 0), .lit (.int .u8 0), .lit (.int .u8 0), .lit (.int .u8 0), .lit (.int .u8 0), .lit (.int .u8 0), .lit (.int .u8 0), .lit (.int .u8 0), .lit (.int .u8 0), .lit (.int .u8 0), .lit (.int .u8 0), .lit (.int .u8 0), .lit (.int .u8 0), .lit (.int .u8 0)]

/-- 'instarlaw14.AbleMore': WHATEVER THE INPUT: true; the input reads as it did. -/
def ableMoreSpec : ChangeSpec := { name := "ableMore", fn := fun _ => fun
  | [d1, d2] => { results := [.lit (.bool true)], args := [d1, d2] }
  | _ => none }
def ableMoreRow : OpenClaim := { program := "ytkhjcnjicjgfiaagreatdoor", sum := "b99438a3969ec652ccc9ad8268582d93ebf2d8356e0d758a92b481c7c3c123cc", func := "instar/instarlaw14.AbleMore", spec := "ableMore", inPlace := ["internal/bytealg.IndexByteString", "internal/bytealg.IndexString", "internal/abi.NoEscape", "internal/reflectlite.ValueOf", "(internal/reflectlite.Value).Type", "(internal/reflectlite.Value).IsNil", "internal/reflectlite.TypeOf", "(internal/reflectlite.Value).Elem", "(internal/reflectlite.Value).Set"], unfollowed := true, recurses := true, named := ["internal/bytealg.MaxLen", "errors.errorType"], apart := false, laid := [("errors.errorType", laid_errors_errorType)] }
def AbleMoreSaid : Prop := ableMoreRow.holds Tryz.pinned (OpenSpec.ofChange ableMoreSpec)

/-- ITS FALSE NEIGHBOUR: 'it returns false'. Refute it at one input. -/
def ableMoreWrong : ChangeSpec := { name := "ableMore", fn := fun _ => fun
  | [d1, d2] => { results := [.lit (.bool false)], args := [d1, d2] }
  | _ => none }
def AbleMoreWrongFalsely : Prop := ableMoreRow.holds Tryz.pinned (OpenSpec.ofChange ableMoreWrong)

/-- 'instarlaw14.AbleBack': WHATEVER THE INPUT: true; the input reads as it did. -/
def ableBackSpec : ChangeSpec := { name := "ableBack", fn := fun _ => fun
  | [d1, d2] => { results := [.lit (.bool true)], args := [d1, d2] }
  | _ => none }
def ableBackRow : OpenClaim := { program := "ytkhjcnjicjgfiaagreatdoor", sum := "b99438a3969ec652ccc9ad8268582d93ebf2d8356e0d758a92b481c7c3c123cc", func := "instar/instarlaw14.AbleBack", spec := "ableBack", inPlace := ["internal/bytealg.IndexByteString", "internal/bytealg.IndexString", "internal/abi.NoEscape", "internal/reflectlite.ValueOf", "(internal/reflectlite.Value).Type", "(internal/reflectlite.Value).IsNil", "internal/reflectlite.TypeOf", "(internal/reflectlite.Value).Elem", "(internal/reflectlite.Value).Set"], unfollowed := true, recurses := true, named := ["internal/bytealg.MaxLen", "errors.errorType"], apart := false, laid := [("errors.errorType", laid_errors_errorType)] }
def AbleBackSaid : Prop := ableBackRow.holds Tryz.pinned (OpenSpec.ofChange ableBackSpec)

/-- ITS FALSE NEIGHBOUR: 'it returns false'. Refute it at one input. -/
def ableBackWrong : ChangeSpec := { name := "ableBack", fn := fun _ => fun
  | [d1, d2] => { results := [.lit (.bool false)], args := [d1, d2] }
  | _ => none }
def AbleBackWrongFalsely : Prop := ableBackRow.holds Tryz.pinned (OpenSpec.ofChange ableBackWrong)

/-- 'instarlaw06.MovePut': WHATEVER THE INPUT: true; the input reads as it did. -/
def movePutSpec : ChangeSpec := { name := "movePut", fn := fun _ => fun
  | [d1, d2, d3, d4, d5] => { results := [.lit (.bool true)], args := [d1, d2, d3, d4, d5] }
  | _ => none }
def movePutRow : OpenClaim := { program := "ytkhjcnjicjgfiaagreatdoor", sum := "b99438a3969ec652ccc9ad8268582d93ebf2d8356e0d758a92b481c7c3c123cc", func := "instar/instarlaw06.MovePut", spec := "movePut", inPlace := ["internal/bytealg.IndexByteString", "internal/bytealg.IndexString", "slices.overlaps[int]", "internal/reflectlite.ValueOf", "(internal/reflectlite.Value).Type", "(internal/reflectlite.Value).IsNil", "internal/reflectlite.TypeOf", "(internal/reflectlite.Value).Elem", "(internal/reflectlite.Value).Set"], unfollowed := true, recurses := true, named := ["internal/bytealg.MaxLen", "errors.errorType"], apart := false, laid := [("errors.errorType", laid_errors_errorType)] }
def MovePutSaid : Prop := movePutRow.holds Tryz.pinned (OpenSpec.ofChange movePutSpec)

/-- ITS FALSE NEIGHBOUR: 'it returns false'. Refute it at one input. -/
def movePutWrong : ChangeSpec := { name := "movePut", fn := fun _ => fun
  | [d1, d2, d3, d4, d5] => { results := [.lit (.bool false)], args := [d1, d2, d3, d4, d5] }
  | _ => none }
def MovePutWrongFalsely : Prop := movePutRow.holds Tryz.pinned (OpenSpec.ofChange movePutWrong)

/-- 'instarlaw06.MoveBack': WHATEVER THE INPUT: true; the input reads as it did. -/
def moveBackSpec : ChangeSpec := { name := "moveBack", fn := fun _ => fun
  | [d1, d2] => { results := [.lit (.bool true)], args := [d1, d2] }
  | _ => none }
def moveBackRow : OpenClaim := { program := "ytkhjcnjicjgfiaagreatdoor", sum := "b99438a3969ec652ccc9ad8268582d93ebf2d8356e0d758a92b481c7c3c123cc", func := "instar/instarlaw06.MoveBack", spec := "moveBack", inPlace := ["internal/bytealg.IndexByteString", "internal/bytealg.IndexString", "slices.overlaps[int]", "internal/reflectlite.ValueOf", "(internal/reflectlite.Value).Type", "(internal/reflectlite.Value).IsNil", "internal/reflectlite.TypeOf", "(internal/reflectlite.Value).Elem", "(internal/reflectlite.Value).Set"], unfollowed := true, recurses := true, named := ["internal/bytealg.MaxLen", "errors.errorType"], apart := false, laid := [("errors.errorType", laid_errors_errorType)] }
def MoveBackSaid : Prop := moveBackRow.holds Tryz.pinned (OpenSpec.ofChange moveBackSpec)

/-- ITS FALSE NEIGHBOUR: 'it returns false'. Refute it at one input. -/
def moveBackWrong : ChangeSpec := { name := "moveBack", fn := fun _ => fun
  | [d1, d2] => { results := [.lit (.bool false)], args := [d1, d2] }
  | _ => none }
def MoveBackWrongFalsely : Prop := moveBackRow.holds Tryz.pinned (OpenSpec.ofChange moveBackWrong)

/-- 'instarlaw06.MoveRight': WHATEVER THE INPUT: true; the input reads as it did. -/
def moveRightSpec : ChangeSpec := { name := "moveRight", fn := fun _ => fun
  | [d1, d2, d3, d4] => { results := [.lit (.bool true)], args := [d1, d2, d3, d4] }
  | _ => none }
def moveRightRow : OpenClaim := { program := "ytkhjcnjicjgfiaagreatdoor", sum := "b99438a3969ec652ccc9ad8268582d93ebf2d8356e0d758a92b481c7c3c123cc", func := "instar/instarlaw06.MoveRight", spec := "moveRight", inPlace := ["internal/bytealg.IndexByteString", "internal/bytealg.IndexString", "slices.overlaps[int]", "internal/reflectlite.ValueOf", "(internal/reflectlite.Value).Type", "(internal/reflectlite.Value).IsNil", "internal/reflectlite.TypeOf", "(internal/reflectlite.Value).Elem", "(internal/reflectlite.Value).Set"], unfollowed := true, recurses := true, named := ["internal/bytealg.MaxLen", "errors.errorType"], apart := false, laid := [("errors.errorType", laid_errors_errorType)] }
def MoveRightSaid : Prop := moveRightRow.holds Tryz.pinned (OpenSpec.ofChange moveRightSpec)

/-- ITS FALSE NEIGHBOUR: 'it returns false'. Refute it at one input. -/
def moveRightWrong : ChangeSpec := { name := "moveRight", fn := fun _ => fun
  | [d1, d2, d3, d4] => { results := [.lit (.bool false)], args := [d1, d2, d3, d4] }
  | _ => none }
def MoveRightWrongFalsely : Prop := moveRightRow.holds Tryz.pinned (OpenSpec.ofChange moveRightWrong)

/-- 'instarlaw06.MoveAgain': WHATEVER THE INPUT: true; the input reads as it did. -/
def moveAgainSpec : ChangeSpec := { name := "moveAgain", fn := fun _ => fun
  | [d1, d2, d3, d4] => { results := [.lit (.bool true)], args := [d1, d2, d3, d4] }
  | _ => none }
def moveAgainRow : OpenClaim := { program := "ytkhjcnjicjgfiaagreatdoor", sum := "b99438a3969ec652ccc9ad8268582d93ebf2d8356e0d758a92b481c7c3c123cc", func := "instar/instarlaw06.MoveAgain", spec := "moveAgain", inPlace := ["internal/bytealg.IndexByteString", "internal/bytealg.IndexString", "slices.overlaps[int]", "internal/reflectlite.ValueOf", "(internal/reflectlite.Value).Type", "(internal/reflectlite.Value).IsNil", "internal/reflectlite.TypeOf", "(internal/reflectlite.Value).Elem", "(internal/reflectlite.Value).Set"], unfollowed := true, recurses := true, named := ["internal/bytealg.MaxLen", "errors.errorType"], apart := false, laid := [("errors.errorType", laid_errors_errorType)] }
def MoveAgainSaid : Prop := moveAgainRow.holds Tryz.pinned (OpenSpec.ofChange moveAgainSpec)

/-- ITS FALSE NEIGHBOUR: 'it returns false'. Refute it at one input. -/
def moveAgainWrong : ChangeSpec := { name := "moveAgain", fn := fun _ => fun
  | [d1, d2, d3, d4] => { results := [.lit (.bool false)], args := [d1, d2, d3, d4] }
  | _ => none }
def MoveAgainWrongFalsely : Prop := moveAgainRow.holds Tryz.pinned (OpenSpec.ofChange moveAgainWrong)

/-- 'instarlaw06.MoveAttrs': WHATEVER THE INPUT: true; the input reads as it did. -/
def moveAttrsSpec : ChangeSpec := { name := "moveAttrs", fn := fun _ => fun
  | [d1, d2, d3, d4, d5] => { results := [.lit (.bool true)], args := [d1, d2, d3, d4, d5] }
  | _ => none }
def moveAttrsRow : OpenClaim := { program := "ytkhjcnjicjgfiaagreatdoor", sum := "b99438a3969ec652ccc9ad8268582d93ebf2d8356e0d758a92b481c7c3c123cc", func := "instar/instarlaw06.MoveAttrs", spec := "moveAttrs", inPlace := ["internal/bytealg.IndexByteString", "internal/bytealg.IndexString", "slices.overlaps[int]", "internal/reflectlite.ValueOf", "(internal/reflectlite.Value).Type", "(internal/reflectlite.Value).IsNil", "internal/reflectlite.TypeOf", "(internal/reflectlite.Value).Elem", "(internal/reflectlite.Value).Set"], unfollowed := true, recurses := true, named := ["internal/bytealg.MaxLen", "errors.errorType"], apart := false, laid := [("errors.errorType", laid_errors_errorType)] }
def MoveAttrsSaid : Prop := moveAttrsRow.holds Tryz.pinned (OpenSpec.ofChange moveAttrsSpec)

/-- ITS FALSE NEIGHBOUR: 'it returns false'. Refute it at one input. -/
def moveAttrsWrong : ChangeSpec := { name := "moveAttrs", fn := fun _ => fun
  | [d1, d2, d3, d4, d5] => { results := [.lit (.bool false)], args := [d1, d2, d3, d4, d5] }
  | _ => none }
def MoveAttrsWrongFalsely : Prop := moveAttrsRow.holds Tryz.pinned (OpenSpec.ofChange moveAttrsWrong)

/-- 'instarlaw06.MoveNotes': WHATEVER THE INPUT: true; the input reads as it did. -/
def moveNotesSpec : ChangeSpec := { name := "moveNotes", fn := fun _ => fun
  | [d1, d2] => { results := [.lit (.bool true)], args := [d1, d2] }
  | _ => none }
def moveNotesRow : OpenClaim := { program := "ytkhjcnjicjgfiaagreatdoor", sum := "b99438a3969ec652ccc9ad8268582d93ebf2d8356e0d758a92b481c7c3c123cc", func := "instar/instarlaw06.MoveNotes", spec := "moveNotes", inPlace := ["internal/bytealg.IndexByteString", "internal/bytealg.IndexString", "slices.overlaps[int]", "internal/reflectlite.ValueOf", "(internal/reflectlite.Value).Type", "(internal/reflectlite.Value).IsNil", "internal/reflectlite.TypeOf", "(internal/reflectlite.Value).Elem", "(internal/reflectlite.Value).Set"], unfollowed := true, recurses := true, named := ["internal/bytealg.MaxLen", "errors.errorType"], apart := false, laid := [("errors.errorType", laid_errors_errorType)] }
def MoveNotesSaid : Prop := moveNotesRow.holds Tryz.pinned (OpenSpec.ofChange moveNotesSpec)

/-- ITS FALSE NEIGHBOUR: 'it returns false'. Refute it at one input. -/
def moveNotesWrong : ChangeSpec := { name := "moveNotes", fn := fun _ => fun
  | [d1, d2] => { results := [.lit (.bool false)], args := [d1, d2] }
  | _ => none }
def MoveNotesWrongFalsely : Prop := moveNotesRow.holds Tryz.pinned (OpenSpec.ofChange moveNotesWrong)

/-- 'instarlaw14.AbleOut': WHATEVER THE INPUT: true; the input reads as it did. -/
def ableOutSpec : ChangeSpec := { name := "ableOut", fn := fun _ => fun
  | [d1, d2, d3] => { results := [.lit (.bool true)], args := [d1, d2, d3] }
  | _ => none }
def ableOutRow : OpenClaim := { program := "ytkhjcnjicjgfiaagreatdoor", sum := "b99438a3969ec652ccc9ad8268582d93ebf2d8356e0d758a92b481c7c3c123cc", func := "instar/instarlaw14.AbleOut", spec := "ableOut", inPlace := ["internal/bytealg.IndexByteString", "internal/bytealg.IndexString", "internal/abi.NoEscape", "internal/reflectlite.ValueOf", "(internal/reflectlite.Value).Type", "(internal/reflectlite.Value).IsNil", "internal/reflectlite.TypeOf", "(internal/reflectlite.Value).Elem", "(internal/reflectlite.Value).Set", "slices.overlaps[int]"], unfollowed := true, recurses := true, named := ["internal/bytealg.MaxLen", "errors.errorType"], apart := false, laid := [("errors.errorType", laid_errors_errorType)] }
def AbleOutSaid : Prop := ableOutRow.holds Tryz.pinned (OpenSpec.ofChange ableOutSpec)

/-- ITS FALSE NEIGHBOUR: 'it returns false'. Refute it at one input. -/
def ableOutWrong : ChangeSpec := { name := "ableOut", fn := fun _ => fun
  | [d1, d2, d3] => { results := [.lit (.bool false)], args := [d1, d2, d3] }
  | _ => none }
def AbleOutWrongFalsely : Prop := ableOutRow.holds Tryz.pinned (OpenSpec.ofChange ableOutWrong)

/-- 'instarlaw13.OwnerMoves': WHATEVER THE INPUT: true; the input reads as it did. -/
def ownerMovesSpec : ChangeSpec := { name := "ownerMoves", fn := fun _ => fun
  | [d1, d2] => { results := [.lit (.bool true)], args := [d1, d2] }
  | _ => none }
def ownerMovesRow : OpenClaim := { program := "ytkhjcnjicjgfiaagreatdoor", sum := "b99438a3969ec652ccc9ad8268582d93ebf2d8356e0d758a92b481c7c3c123cc", func := "instar/instarlaw13.OwnerMoves", spec := "ownerMoves", inPlace := ["internal/bytealg.IndexByteString", "internal/bytealg.IndexString", "internal/abi.NoEscape", "slices.overlaps[int]", "internal/reflectlite.ValueOf", "(internal/reflectlite.Value).Type", "(internal/reflectlite.Value).IsNil", "internal/reflectlite.TypeOf", "(internal/reflectlite.Value).Elem", "(internal/reflectlite.Value).Set"], unfollowed := true, recurses := true, named := ["internal/bytealg.MaxLen", "errors.errorType"], apart := false, laid := [("errors.errorType", laid_errors_errorType)] }
def OwnerMovesSaid : Prop := ownerMovesRow.holds Tryz.pinned (OpenSpec.ofChange ownerMovesSpec)

/-- ITS FALSE NEIGHBOUR: 'it returns false'. Refute it at one input. -/
def ownerMovesWrong : ChangeSpec := { name := "ownerMoves", fn := fun _ => fun
  | [d1, d2] => { results := [.lit (.bool false)], args := [d1, d2] }
  | _ => none }
def OwnerMovesWrongFalsely : Prop := ownerMovesRow.holds Tryz.pinned (OpenSpec.ofChange ownerMovesWrong)

/-- 'instarlaw13.OwnerBack': WHATEVER THE INPUT: true; the input reads as it did. -/
def ownerBackSpec : ChangeSpec := { name := "ownerBack", fn := fun _ => fun
  | [d1, d2, d3, d4] => { results := [.lit (.bool true)], args := [d1, d2, d3, d4] }
  | _ => none }
def ownerBackRow : OpenClaim := { program := "ytkhjcnjicjgfiaagreatdoor", sum := "b99438a3969ec652ccc9ad8268582d93ebf2d8356e0d758a92b481c7c3c123cc", func := "instar/instarlaw13.OwnerBack", spec := "ownerBack", inPlace := ["internal/bytealg.IndexByteString", "internal/bytealg.IndexString", "internal/abi.NoEscape", "slices.overlaps[int]", "internal/reflectlite.ValueOf", "(internal/reflectlite.Value).Type", "(internal/reflectlite.Value).IsNil", "internal/reflectlite.TypeOf", "(internal/reflectlite.Value).Elem", "(internal/reflectlite.Value).Set"], unfollowed := true, recurses := true, named := ["internal/bytealg.MaxLen", "errors.errorType"], apart := false, laid := [("errors.errorType", laid_errors_errorType)] }
def OwnerBackSaid : Prop := ownerBackRow.holds Tryz.pinned (OpenSpec.ofChange ownerBackSpec)

/-- ITS FALSE NEIGHBOUR: 'it returns false'. Refute it at one input. -/
def ownerBackWrong : ChangeSpec := { name := "ownerBack", fn := fun _ => fun
  | [d1, d2, d3, d4] => { results := [.lit (.bool false)], args := [d1, d2, d3, d4] }
  | _ => none }
def OwnerBackWrongFalsely : Prop := ownerBackRow.holds Tryz.pinned (OpenSpec.ofChange ownerBackWrong)

/-- 'instarlaw15.DutyMoves': WHATEVER THE INPUT: true; the input reads as it did. -/
def dutyMovesSpec : ChangeSpec := { name := "dutyMoves", fn := fun _ => fun
  | [d1, d2, d3, d4, d5] => { results := [.lit (.bool true)], args := [d1, d2, d3, d4, d5] }
  | _ => none }
def dutyMovesRow : OpenClaim := { program := "ytkhjcnjicjgfiaagreatdoor", sum := "b99438a3969ec652ccc9ad8268582d93ebf2d8356e0d758a92b481c7c3c123cc", func := "instar/instarlaw15.DutyMoves", spec := "dutyMoves", inPlace := ["internal/bytealg.IndexByteString", "internal/bytealg.IndexString", "internal/abi.NoEscape", "internal/reflectlite.ValueOf", "(internal/reflectlite.Value).Type", "(internal/reflectlite.Value).IsNil", "internal/reflectlite.TypeOf", "(internal/reflectlite.Value).Elem", "(internal/reflectlite.Value).Set"], unfollowed := true, recurses := true, named := ["internal/bytealg.MaxLen", "strings.asciiSpace", "unicode.White_Space", "errors.errorType"], apart := false, laid := [("errors.errorType", laid_errors_errorType), ("unicode.White_Space", laid_unicode_White_Space), ("strings.asciiSpace", laid_strings_asciiSpace)] }
def DutyMovesSaid : Prop := dutyMovesRow.holds Tryz.pinned (OpenSpec.ofChange dutyMovesSpec)

/-- ITS FALSE NEIGHBOUR: 'it returns false'. Refute it at one input. -/
def dutyMovesWrong : ChangeSpec := { name := "dutyMoves", fn := fun _ => fun
  | [d1, d2, d3, d4, d5] => { results := [.lit (.bool false)], args := [d1, d2, d3, d4, d5] }
  | _ => none }
def DutyMovesWrongFalsely : Prop := dutyMovesRow.holds Tryz.pinned (OpenSpec.ofChange dutyMovesWrong)

/- THE SECOND FORM. 'bulk': how many values and letters a reading holds, each counted each time it is reached (what is shared counts as often as it is met; a slice's spare places count too). A statement '..UptoSaid' is the law's where the arguments, and the package variables that the reading takes, are together of bulk at most 1048576: NARROWER than '..Said'. Prove '..Said' where nothing that the law and all that it calls make is longer than what came in: it says more and counts as full. Else prove '..UptoSaid'. A law counts once. -/
mutual
def uptoBulk {H : Type} : DataW H → Nat
  | .lit (.string bytes) => bytes.length + 1
  | .lit _ => 1
  | .nil => 1
  | .ptr d => uptoBulk d + 1
  | .slice elems spare => uptoBulkAll elems + uptoBulkAll spare + 1
  | .agg parts => uptoBulkAll parts + 1
  | .iface _ d => uptoBulk d + 1
  | .map entries => uptoBulkEntries entries + 1
  | .held _ => 1
def uptoBulkAll {H : Type} : List (DataW H) → Nat
  | [] => 0
  | d :: r => uptoBulk d + uptoBulkAll r
def uptoBulkEntries {H : Type} : List (Lit × DataW H) → Nat
  | [] => 0
  | x :: r => uptoBulkEntry x + uptoBulkEntries r
def uptoBulkEntry {H : Type} : Lit × DataW H → Nat
  | (.string bytes, d) => bytes.length + uptoBulk d + 1
  | (_, d) => uptoBulk d + 1
 end
def uptoSmall : (H : Type) → List (DataW H) → Bool := fun _ ds => decide (uptoBulkAll ds ≤ 1048576)
def OpenSpec.upto (s : _root_.Go.ChangeSpec) : _root_.Go.OpenSpec := { _root_.Go.OpenSpec.ofChange s with cond := some uptoSmall }

/-- 'instarlaw14.AbleMore', WHERE WHAT IT READS IS OF BULK AT MOST 1048576: true; the input reads as it did. -/
def ableMoreUptoRow : OpenClaim := { program := "ytkhjcnjicjgfiaagreatdoor", sum := "b99438a3969ec652ccc9ad8268582d93ebf2d8356e0d758a92b481c7c3c123cc", func := "instar/instarlaw14.AbleMore", spec := "ableMore", inPlace := ["internal/bytealg.IndexByteString", "internal/bytealg.IndexString", "internal/abi.NoEscape", "internal/reflectlite.ValueOf", "(internal/reflectlite.Value).Type", "(internal/reflectlite.Value).IsNil", "internal/reflectlite.TypeOf", "(internal/reflectlite.Value).Elem", "(internal/reflectlite.Value).Set"], unfollowed := true, recurses := true, named := ["internal/bytealg.MaxLen", "errors.errorType"], apart := false, laid := [("errors.errorType", laid_errors_errorType)], narrowed := true }
def AbleMoreUptoSaid : Prop := ableMoreUptoRow.holds Tryz.pinned (OpenSpec.upto ableMoreSpec)

/-- 'instarlaw14.AbleBack', WHERE WHAT IT READS IS OF BULK AT MOST 1048576: true; the input reads as it did. -/
def ableBackUptoRow : OpenClaim := { program := "ytkhjcnjicjgfiaagreatdoor", sum := "b99438a3969ec652ccc9ad8268582d93ebf2d8356e0d758a92b481c7c3c123cc", func := "instar/instarlaw14.AbleBack", spec := "ableBack", inPlace := ["internal/bytealg.IndexByteString", "internal/bytealg.IndexString", "internal/abi.NoEscape", "internal/reflectlite.ValueOf", "(internal/reflectlite.Value).Type", "(internal/reflectlite.Value).IsNil", "internal/reflectlite.TypeOf", "(internal/reflectlite.Value).Elem", "(internal/reflectlite.Value).Set"], unfollowed := true, recurses := true, named := ["internal/bytealg.MaxLen", "errors.errorType"], apart := false, laid := [("errors.errorType", laid_errors_errorType)], narrowed := true }
def AbleBackUptoSaid : Prop := ableBackUptoRow.holds Tryz.pinned (OpenSpec.upto ableBackSpec)

/-- 'instarlaw06.MovePut', WHERE WHAT IT READS IS OF BULK AT MOST 1048576: true; the input reads as it did. -/
def movePutUptoRow : OpenClaim := { program := "ytkhjcnjicjgfiaagreatdoor", sum := "b99438a3969ec652ccc9ad8268582d93ebf2d8356e0d758a92b481c7c3c123cc", func := "instar/instarlaw06.MovePut", spec := "movePut", inPlace := ["internal/bytealg.IndexByteString", "internal/bytealg.IndexString", "slices.overlaps[int]", "internal/reflectlite.ValueOf", "(internal/reflectlite.Value).Type", "(internal/reflectlite.Value).IsNil", "internal/reflectlite.TypeOf", "(internal/reflectlite.Value).Elem", "(internal/reflectlite.Value).Set"], unfollowed := true, recurses := true, named := ["internal/bytealg.MaxLen", "errors.errorType"], apart := false, laid := [("errors.errorType", laid_errors_errorType)], narrowed := true }
def MovePutUptoSaid : Prop := movePutUptoRow.holds Tryz.pinned (OpenSpec.upto movePutSpec)

/-- 'instarlaw06.MoveBack', WHERE WHAT IT READS IS OF BULK AT MOST 1048576: true; the input reads as it did. -/
def moveBackUptoRow : OpenClaim := { program := "ytkhjcnjicjgfiaagreatdoor", sum := "b99438a3969ec652ccc9ad8268582d93ebf2d8356e0d758a92b481c7c3c123cc", func := "instar/instarlaw06.MoveBack", spec := "moveBack", inPlace := ["internal/bytealg.IndexByteString", "internal/bytealg.IndexString", "slices.overlaps[int]", "internal/reflectlite.ValueOf", "(internal/reflectlite.Value).Type", "(internal/reflectlite.Value).IsNil", "internal/reflectlite.TypeOf", "(internal/reflectlite.Value).Elem", "(internal/reflectlite.Value).Set"], unfollowed := true, recurses := true, named := ["internal/bytealg.MaxLen", "errors.errorType"], apart := false, laid := [("errors.errorType", laid_errors_errorType)], narrowed := true }
def MoveBackUptoSaid : Prop := moveBackUptoRow.holds Tryz.pinned (OpenSpec.upto moveBackSpec)

/-- 'instarlaw06.MoveRight', WHERE WHAT IT READS IS OF BULK AT MOST 1048576: true; the input reads as it did. -/
def moveRightUptoRow : OpenClaim := { program := "ytkhjcnjicjgfiaagreatdoor", sum := "b99438a3969ec652ccc9ad8268582d93ebf2d8356e0d758a92b481c7c3c123cc", func := "instar/instarlaw06.MoveRight", spec := "moveRight", inPlace := ["internal/bytealg.IndexByteString", "internal/bytealg.IndexString", "slices.overlaps[int]", "internal/reflectlite.ValueOf", "(internal/reflectlite.Value).Type", "(internal/reflectlite.Value).IsNil", "internal/reflectlite.TypeOf", "(internal/reflectlite.Value).Elem", "(internal/reflectlite.Value).Set"], unfollowed := true, recurses := true, named := ["internal/bytealg.MaxLen", "errors.errorType"], apart := false, laid := [("errors.errorType", laid_errors_errorType)], narrowed := true }
def MoveRightUptoSaid : Prop := moveRightUptoRow.holds Tryz.pinned (OpenSpec.upto moveRightSpec)

/-- 'instarlaw06.MoveAgain', WHERE WHAT IT READS IS OF BULK AT MOST 1048576: true; the input reads as it did. -/
def moveAgainUptoRow : OpenClaim := { program := "ytkhjcnjicjgfiaagreatdoor", sum := "b99438a3969ec652ccc9ad8268582d93ebf2d8356e0d758a92b481c7c3c123cc", func := "instar/instarlaw06.MoveAgain", spec := "moveAgain", inPlace := ["internal/bytealg.IndexByteString", "internal/bytealg.IndexString", "slices.overlaps[int]", "internal/reflectlite.ValueOf", "(internal/reflectlite.Value).Type", "(internal/reflectlite.Value).IsNil", "internal/reflectlite.TypeOf", "(internal/reflectlite.Value).Elem", "(internal/reflectlite.Value).Set"], unfollowed := true, recurses := true, named := ["internal/bytealg.MaxLen", "errors.errorType"], apart := false, laid := [("errors.errorType", laid_errors_errorType)], narrowed := true }
def MoveAgainUptoSaid : Prop := moveAgainUptoRow.holds Tryz.pinned (OpenSpec.upto moveAgainSpec)

/-- 'instarlaw06.MoveAttrs', WHERE WHAT IT READS IS OF BULK AT MOST 1048576: true; the input reads as it did. -/
def moveAttrsUptoRow : OpenClaim := { program := "ytkhjcnjicjgfiaagreatdoor", sum := "b99438a3969ec652ccc9ad8268582d93ebf2d8356e0d758a92b481c7c3c123cc", func := "instar/instarlaw06.MoveAttrs", spec := "moveAttrs", inPlace := ["internal/bytealg.IndexByteString", "internal/bytealg.IndexString", "slices.overlaps[int]", "internal/reflectlite.ValueOf", "(internal/reflectlite.Value).Type", "(internal/reflectlite.Value).IsNil", "internal/reflectlite.TypeOf", "(internal/reflectlite.Value).Elem", "(internal/reflectlite.Value).Set"], unfollowed := true, recurses := true, named := ["internal/bytealg.MaxLen", "errors.errorType"], apart := false, laid := [("errors.errorType", laid_errors_errorType)], narrowed := true }
def MoveAttrsUptoSaid : Prop := moveAttrsUptoRow.holds Tryz.pinned (OpenSpec.upto moveAttrsSpec)

/-- 'instarlaw06.MoveNotes', WHERE WHAT IT READS IS OF BULK AT MOST 1048576: true; the input reads as it did. -/
def moveNotesUptoRow : OpenClaim := { program := "ytkhjcnjicjgfiaagreatdoor", sum := "b99438a3969ec652ccc9ad8268582d93ebf2d8356e0d758a92b481c7c3c123cc", func := "instar/instarlaw06.MoveNotes", spec := "moveNotes", inPlace := ["internal/bytealg.IndexByteString", "internal/bytealg.IndexString", "slices.overlaps[int]", "internal/reflectlite.ValueOf", "(internal/reflectlite.Value).Type", "(internal/reflectlite.Value).IsNil", "internal/reflectlite.TypeOf", "(internal/reflectlite.Value).Elem", "(internal/reflectlite.Value).Set"], unfollowed := true, recurses := true, named := ["internal/bytealg.MaxLen", "errors.errorType"], apart := false, laid := [("errors.errorType", laid_errors_errorType)], narrowed := true }
def MoveNotesUptoSaid : Prop := moveNotesUptoRow.holds Tryz.pinned (OpenSpec.upto moveNotesSpec)

/-- 'instarlaw14.AbleOut', WHERE WHAT IT READS IS OF BULK AT MOST 1048576: true; the input reads as it did. -/
def ableOutUptoRow : OpenClaim := { program := "ytkhjcnjicjgfiaagreatdoor", sum := "b99438a3969ec652ccc9ad8268582d93ebf2d8356e0d758a92b481c7c3c123cc", func := "instar/instarlaw14.AbleOut", spec := "ableOut", inPlace := ["internal/bytealg.IndexByteString", "internal/bytealg.IndexString", "internal/abi.NoEscape", "internal/reflectlite.ValueOf", "(internal/reflectlite.Value).Type", "(internal/reflectlite.Value).IsNil", "internal/reflectlite.TypeOf", "(internal/reflectlite.Value).Elem", "(internal/reflectlite.Value).Set", "slices.overlaps[int]"], unfollowed := true, recurses := true, named := ["internal/bytealg.MaxLen", "errors.errorType"], apart := false, laid := [("errors.errorType", laid_errors_errorType)], narrowed := true }
def AbleOutUptoSaid : Prop := ableOutUptoRow.holds Tryz.pinned (OpenSpec.upto ableOutSpec)

/-- 'instarlaw13.OwnerMoves', WHERE WHAT IT READS IS OF BULK AT MOST 1048576: true; the input reads as it did. -/
def ownerMovesUptoRow : OpenClaim := { program := "ytkhjcnjicjgfiaagreatdoor", sum := "b99438a3969ec652ccc9ad8268582d93ebf2d8356e0d758a92b481c7c3c123cc", func := "instar/instarlaw13.OwnerMoves", spec := "ownerMoves", inPlace := ["internal/bytealg.IndexByteString", "internal/bytealg.IndexString", "internal/abi.NoEscape", "slices.overlaps[int]", "internal/reflectlite.ValueOf", "(internal/reflectlite.Value).Type", "(internal/reflectlite.Value).IsNil", "internal/reflectlite.TypeOf", "(internal/reflectlite.Value).Elem", "(internal/reflectlite.Value).Set"], unfollowed := true, recurses := true, named := ["internal/bytealg.MaxLen", "errors.errorType"], apart := false, laid := [("errors.errorType", laid_errors_errorType)], narrowed := true }
def OwnerMovesUptoSaid : Prop := ownerMovesUptoRow.holds Tryz.pinned (OpenSpec.upto ownerMovesSpec)

/-- 'instarlaw13.OwnerBack', WHERE WHAT IT READS IS OF BULK AT MOST 1048576: true; the input reads as it did. -/
def ownerBackUptoRow : OpenClaim := { program := "ytkhjcnjicjgfiaagreatdoor", sum := "b99438a3969ec652ccc9ad8268582d93ebf2d8356e0d758a92b481c7c3c123cc", func := "instar/instarlaw13.OwnerBack", spec := "ownerBack", inPlace := ["internal/bytealg.IndexByteString", "internal/bytealg.IndexString", "internal/abi.NoEscape", "slices.overlaps[int]", "internal/reflectlite.ValueOf", "(internal/reflectlite.Value).Type", "(internal/reflectlite.Value).IsNil", "internal/reflectlite.TypeOf", "(internal/reflectlite.Value).Elem", "(internal/reflectlite.Value).Set"], unfollowed := true, recurses := true, named := ["internal/bytealg.MaxLen", "errors.errorType"], apart := false, laid := [("errors.errorType", laid_errors_errorType)], narrowed := true }
def OwnerBackUptoSaid : Prop := ownerBackUptoRow.holds Tryz.pinned (OpenSpec.upto ownerBackSpec)

/-- 'instarlaw15.DutyMoves', WHERE WHAT IT READS IS OF BULK AT MOST 1048576: true; the input reads as it did. -/
def dutyMovesUptoRow : OpenClaim := { program := "ytkhjcnjicjgfiaagreatdoor", sum := "b99438a3969ec652ccc9ad8268582d93ebf2d8356e0d758a92b481c7c3c123cc", func := "instar/instarlaw15.DutyMoves", spec := "dutyMoves", inPlace := ["internal/bytealg.IndexByteString", "internal/bytealg.IndexString", "internal/abi.NoEscape", "internal/reflectlite.ValueOf", "(internal/reflectlite.Value).Type", "(internal/reflectlite.Value).IsNil", "internal/reflectlite.TypeOf", "(internal/reflectlite.Value).Elem", "(internal/reflectlite.Value).Set"], unfollowed := true, recurses := true, named := ["internal/bytealg.MaxLen", "strings.asciiSpace", "unicode.White_Space", "errors.errorType"], apart := false, laid := [("errors.errorType", laid_errors_errorType), ("unicode.White_Space", laid_unicode_White_Space), ("strings.asciiSpace", laid_strings_asciiSpace)], narrowed := true }
def DutyMovesUptoSaid : Prop := dutyMovesUptoRow.holds Tryz.pinned (OpenSpec.upto dutyMovesSpec)

end Rows
end Go.Proofs.YtkhjcnjicjgfiaaGreatDoor
