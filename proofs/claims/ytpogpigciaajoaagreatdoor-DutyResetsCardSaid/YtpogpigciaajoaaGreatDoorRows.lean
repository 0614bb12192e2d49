/-
  NARROWER THAN 'FOR EVERY INPUT', by the rows' own cells (each row's printed sentence says how): HeirAdds: laid · DutyRight: laid · DutyRestores: laid · DutyOnce: laid · DutyResets: laid · OwnerRight: laid · OwnerNamed: laid · OwnerParts: laid · OwnerNear: laid.
  DERIVED. THE GIVEN ROWS OF THIS SEAT. 9 by the template 'for every input the law returns true; each argument reads behind the call as it read before'; 0 by the template 'total and deterministic' (their statements: YtpogpigciaajoaaGreatDoorTotals.lean).
  GIVEN WITH THE SEED: the statements are not yours to turn. If you find one false, say at which input.
  Laid BY PROGRAM, IN A SANDBOX (cutbox-rows.mjs): the forced cells as the released guide's own fill.sh prints them over the translation e980697ae4c88ccc… (all of the seat's roots in one cut). By AI agents, Wed Nov 11 2026. No macro, syntax, notation, axiom, sorry.
-/
import Derived.Test.YtpogpigciaajoaaGreatDoorChecked
import GoSem.Claim
import GoSem.ClaimJoined
import GoSem.ClaimMapViews
import Derived.JoinedTies
import Derived.KernelRfl
namespace Go.Proofs.YtpogpigciaajoaaGreatDoor
/- THE CELL 'sum', in the pinned program and in every row, IS THE sha256 OF THE DUMP (.gsa) THAT YtpogpigciaajoaaGreatDoorProg.lean LOADS. Nothing in Lean hashes anything: it is a label: what it is worth is what the hold of that sum in a sandbox is worth. -/
noncomputable def Tryz.pinned : Pinned := { name := "ytpogpigciaajoaagreatdoor", sum := "e980697ae4c88cccbdd5fd2a10ccf1caf5d4ec2dfaeb4dc8214e755423250489", checked := Tryz.checked }
namespace Rows
def none {H : Type} : Left H := { results := [], args := [] }

/- WHAT THE LISTED PACKAGE-LEVEL VARIABLES READ AS WHEN THE CALL BEGINS. Each datum BY PROGRAM (the guide's laid-datum.mjs) off the statement by which the dump's own 'gosem.cut.vars' lays the variable. In a bare row this is a premise. The card (YtpogpigciaajoaaGreatDoorCards.lean) ties it to the program's text. -/
def laid_unicode_White_Space {H : Type} : DataW H := .ptr (.agg [.slice [.agg [.lit (.int .u16 9), .lit (.int .u16 13), .lit (.int .u16 1)], .agg [.lit (.int .u16 32), .lit (.int .u16 133), .lit (.int .u16 101)], .agg [.lit (.int .u16 160), .lit (.int .u16 5760), .lit (.int .u16 5600)], .agg [.lit (.int .u16 8192), .lit (.int .u16 8202), .lit (.int .u16 1)], .agg [.lit (.int .u16 8232), .lit (.int .u16 8233), .lit (.int .u16 1)], .agg [.lit (.int .u16 8239), .lit (.int .u16 8287), .lit (.int .u16 48)], .agg [.lit (.int .u16 12288), .lit (.int .u16 12288), .lit (.int .u16 1)]] [], .nil, .lit (.int .i64 2)])
def laid_strings_asciiSpace {H : Type} : DataW H := .agg [.lit (.int .u8 0), .lit (.int .u8 0), .lit (.int .u8 0), .lit (.int .u8 0), .lit (.int .u8 0), .lit (.int .u8 0), .lit (.int .u8 0), .lit (.int .u8 0), .lit (.int .u8 0), .lit (.int .u8 1), .lit (.int .u8 1), .lit (.int .u8 1), .lit (.int .u8 1), .lit (.int .u8 1), .lit (.int .u8 0), .lit (.int .u8 0), .lit (.int .u8 0), .lit (.int .u8 0), .lit (.int .u8 0), .lit (.int .u8 0), .lit (.int .u8 0), .lit (.int .u8 0), .lit (.int .u8 0), .lit (.int .u8 0), .lit (.int .u8 0), .lit (.int .u8 0), .lit (.int .u8 0), .lit (.int .u8 0), .lit (.int .u8 0), .lit (.int .u8 0), .lit (.int .u8 0), .lit (.int .u8 0), .lit (.int .u8 1), .lit (.int .u8 0), .lit (.int .u8 0), .lit (.int .u8 0), .lit (.int .u8 0), .lit (.int .u8 0), .lit (.int .u8 0), .lit (.int .u8 0), .lit (.int .u8 0), .lit (.int .u8 0), .lit (.int .u8 0), .lit (.int .u8 0), .lit (.int .u8 0), .lit (.int .u8 0), .lit (.int .u8 0), .lit (.int .u8 0), .lit (.int .u8 0), .lit (.int .u8 0), .lit (.int .u8 0), .lit (.int .u8 0), .lit (.int .u8 0), .lit (.int .u8 0), .lit (.int .u8 0), .lit (.int .u8 0), .lit (.int .u8 0), .lit (.int .u8 0), .lit (.int .u8 0), .lit (.int .u8 0), .lit (.int .u8 0), .lit (.int .u8 0), .lit (.int .u8 0), .lit (.int .u8 0), .lit (.int .u8 0), .lit (.int .u8 0), .lit (.int .u8 0), .lit (.int .u8 0), .lit (.int .u8 0), .lit (.int .u8 0), .lit (.int .u8 0), .lit (.int .u8 0), .lit (.int .u8 0), .lit (.int .u8 0), .lit (.int .u8 0), .lit (.int .u8 0), .lit (.int .u8 0), .lit (.int .u8 0), .lit (.int .u8 0), .lit (.int .u8 0), .lit (.int .u8 0), .lit (.int .u8 0), .lit (.int .u8 0), .lit (.int .u8 0), .lit (.int .u8 0), .lit (.int .u8 0), .lit (.int .u8 0), .lit (.int .u8 0), .lit (.int .u8 0), .lit (.int .u8 0), .lit (.int .u8 0), .lit (.int .u8 0), .lit (.int .u8 0), .lit (.int .u8 0), .lit (.int .u8 0), .lit (.int .u8 0), .lit (.int .u8 0), .lit (.int .u8 0), .lit (.int .u8 0), .lit (.int .u8 0), .lit (.int .u8 0), .lit (.int .u8 0), .lit (.int .u8 0), .lit (.int .u8 0), .lit (.int .u8 0), .lit (.int .u8 0), .lit (.int .u8 0), .lit (.int .u8 0), .lit (.int .u8 0), .lit (.int .u8 0), .lit (.int .u8 0), .lit (.int .u8 0), .lit (.int .u8 0), .lit (.int .u8 0), .lit (.int .u8 0), .lit (.int .u8 0), .lit (.int .u8 0), .lit (.int .u8 0), .lit (.int .u8 0), .lit (.int .u8 0), .lit (.int .u8 0), .lit (.int .u8 0), .lit (.int .u8 0), .lit (.int .u8 0), .lit (.int .u8 0), .lit (.int .u8 0), .lit (.int .u8 0), .lit (.int .u8 0), .lit (.int .u8 0), .lit (.int .u8 0), .lit (.int .u8 0), .lit (.int .u8 0), .lit (.int .u8 0), .lit (.int .u8 0), .lit (.int .u8 0), .lit (.int .u8 0), .lit (.int .u8 0), .lit (.int .u8 0), .lit (.int .u8 0), .lit (.int .u8 0), .lit (.int .u8 0), .lit (.int .u8 0), .lit (.int .u8 0), .lit (.int .u8 0), .lit (.int .u8 0), .lit (.int .u8 0), .lit (.int .u8 0), .lit (.int .u8 0), .lit (.int .u8 0), .lit (.int .u8 0), .lit (.int .u8 0), .lit (.int .u8 0), .lit (.int .u8 0), .lit (.int .u8 0), .lit (.int .u8 0), .lit (.int .u8 0), .lit (.int .u8 0), .lit (.int .u8 0), .lit (.int .u8 0), .lit (.int .u8 0), .lit (.int .u8 0), .lit (.int .u8 0), .lit (.int .u8 0), .lit (.int .u8 0), .lit (.int .u8 0), .lit (.int .u8 0), .lit (.int .u8 0), .lit (.int .u8 0), .lit (.int .u8 0), .lit (.int .u8 0), .lit (.int .u8 0), .lit (.int .u8 0), .lit (.int .u8 0), .lit (.int .u8 0), .lit (.int .u8 0), .lit (.int .u8 0), .lit (.int .u8 0), .lit (.int .u8 0), .lit (.int .u8 0), .lit (.int .u8 0), .lit (.int .u8 0), .lit (.int .u8 0), .lit (.int .u8 0), .lit (.int .u8 0), .lit (.int .u8 0), .lit (.int .u8 0), .lit (.int .u8 0), .lit (.int .u8 0), .lit (.int .u8 0), .lit (.int .u8 0), .lit (.int .u8 0), .lit (.int .u8 0), .lit (.int .u8 0), .lit (.int .u8 0), .lit (.int .u8 0), .lit (.int .u8 0), .lit (.int .u8 0), .lit (.int .u8 0), .lit (.int .u8 0), .lit (.int .u8 0), .lit (.int .u8 0), .lit (.int .u8 0), .lit (.int .u8 0), .lit (.int .u8 0), .lit (.int .u8 0), .lit (.int .u8 0), .lit (.int .u8 0), .lit (.int .u8 0), .lit (.int .u8 0), .lit (.int .u8 0), .lit (.int .u8 0), .lit (.int .u8 0), .lit (.int .u8 0), .lit (.int .u8 0), .lit (.int .u8 0), .lit (.int .u8 0), .lit (.int .u8 0), .lit (.int .u8 0), .lit (.int .u8 0), .lit (.int .u8 0), .lit (.int .u8 0), .lit (.int .u8 0), .lit (.int .u8 0), .lit (.int .u8 0), .lit (.int .u8 0), .lit (.int .u8 0), .lit (.int .u8 0), .lit (.int .u8 0), .lit (.int .u8 0), .lit (.int .u8 0), .lit (.int .u8 0), .lit (.int .u8 0), .lit (.int .u8 0), .lit (.int .u8 0), .lit (.int .u8 0), .lit (.int .u8 0), .lit (.int .u8 0), .lit (.int .u8 0), .lit (.int .u8 0), .lit (.int .u8 0), .lit (.int .u8 0), .lit (.int .u8 0), .lit (.int .u8 0), .lit (.int .u8 0), .lit (.int .u8 0), .lit (.int .u8 0), .lit (.int .u8 0), .lit (.int .u8 0), .lit (.int .u8 0), .lit (.int .u8 0), .lit (.int .u8 0), .lit (.int .u8 0), .lit (.int .u8 0), .lit (.int .u8 0), .lit (.int .u8 0), .lit (.int .u8 0)]
def laid_errors_errorType {H : Type} : DataW H := .iface "internal/reflectlite.rtype" (.agg [.ptr (.lit (.string [101, 114, 114, 111, 114]))])

/-- 'instarlaw10.HeirAdds': WHATEVER THE INPUT: true; the input reads as it did. -/
def heirAddsSpec : ChangeSpec := { name := "heirAdds", fn := fun _ => fun
  | [d1, d2, d3, d4, d5] => { results := [.lit (.bool true)], args := [d1, d2, d3, d4, d5] }
  | _ => none }
def heirAddsRow : OpenClaim := { program := "ytpogpigciaajoaagreatdoor", sum := "e980697ae4c88cccbdd5fd2a10ccf1caf5d4ec2dfaeb4dc8214e755423250489", func := "instar/instarlaw10.HeirAdds", spec := "heirAdds", inPlace := ["internal/bytealg.IndexByteString", "internal/bytealg.IndexString", "internal/abi.NoEscape"], unfollowed := true, recurses := true, named := ["internal/bytealg.MaxLen", "strings.asciiSpace", "unicode.White_Space"], apart := false, laid := [("unicode.White_Space", laid_unicode_White_Space), ("strings.asciiSpace", laid_strings_asciiSpace)] }
def HeirAddsSaid : Prop := heirAddsRow.holds Tryz.pinned (OpenSpec.ofChange heirAddsSpec)

/-- ITS FALSE NEIGHBOUR: 'it returns false'. Refute it at one input. -/
def heirAddsWrong : ChangeSpec := { name := "heirAdds", fn := fun _ => fun
  | [d1, d2, d3, d4, d5] => { results := [.lit (.bool false)], args := [d1, d2, d3, d4, d5] }
  | _ => none }
def HeirAddsWrongFalsely : Prop := heirAddsRow.holds Tryz.pinned (OpenSpec.ofChange heirAddsWrong)

/-- 'instarlaw15.DutyRight': WHATEVER THE INPUT: true; the input reads as it did. -/
def dutyRightSpec : ChangeSpec := { name := "dutyRight", fn := fun _ => fun
  | [d1, d2, d3, d4, d5, d6] => { results := [.lit (.bool true)], args := [d1, d2, d3, d4, d5, d6] }
  | _ => none }
def dutyRightRow : OpenClaim := { program := "ytpogpigciaajoaagreatdoor", sum := "e980697ae4c88cccbdd5fd2a10ccf1caf5d4ec2dfaeb4dc8214e755423250489", func := "instar/instarlaw15.DutyRight", spec := "dutyRight", inPlace := ["internal/bytealg.IndexByteString", "internal/bytealg.IndexString", "internal/abi.NoEscape"], unfollowed := true, recurses := true, named := ["internal/bytealg.MaxLen", "strings.asciiSpace", "unicode.White_Space"], apart := false, laid := [("unicode.White_Space", laid_unicode_White_Space), ("strings.asciiSpace", laid_strings_asciiSpace)] }
def DutyRightSaid : Prop := dutyRightRow.holds Tryz.pinned (OpenSpec.ofChange dutyRightSpec)

/-- ITS FALSE NEIGHBOUR: 'it returns false'. Refute it at one input. -/
def dutyRightWrong : ChangeSpec := { name := "dutyRight", fn := fun _ => fun
  | [d1, d2, d3, d4, d5, d6] => { results := [.lit (.bool false)], args := [d1, d2, d3, d4, d5, d6] }
  | _ => none }
def DutyRightWrongFalsely : Prop := dutyRightRow.holds Tryz.pinned (OpenSpec.ofChange dutyRightWrong)

/-- 'instarlaw15.DutyRestores': WHATEVER THE INPUT: true; the input reads as it did. -/
def dutyRestoresSpec : ChangeSpec := { name := "dutyRestores", fn := fun _ => fun
  | [d1, d2, d3, d4, d5, d6] => { results := [.lit (.bool true)], args := [d1, d2, d3, d4, d5, d6] }
  | _ => none }
def dutyRestoresRow : OpenClaim := { program := "ytpogpigciaajoaagreatdoor", sum := "e980697ae4c88cccbdd5fd2a10ccf1caf5d4ec2dfaeb4dc8214e755423250489", func := "instar/instarlaw15.DutyRestores", spec := "dutyRestores", inPlace := ["internal/bytealg.IndexByteString", "internal/bytealg.IndexString", "internal/abi.NoEscape"], unfollowed := true, recurses := true, named := ["internal/bytealg.MaxLen", "strings.asciiSpace", "unicode.White_Space"], apart := false, laid := [("unicode.White_Space", laid_unicode_White_Space), ("strings.asciiSpace", laid_strings_asciiSpace)] }
def DutyRestoresSaid : Prop := dutyRestoresRow.holds Tryz.pinned (OpenSpec.ofChange dutyRestoresSpec)

/-- ITS FALSE NEIGHBOUR: 'it returns false'. Refute it at one input. -/
def dutyRestoresWrong : ChangeSpec := { name := "dutyRestores", fn := fun _ => fun
  | [d1, d2, d3, d4, d5, d6] => { results := [.lit (.bool false)], args := [d1, d2, d3, d4, d5, d6] }
  | _ => none }
def DutyRestoresWrongFalsely : Prop := dutyRestoresRow.holds Tryz.pinned (OpenSpec.ofChange dutyRestoresWrong)

/-- 'instarlaw15.DutyOnce': WHATEVER THE INPUT: true; the input reads as it did. -/
def dutyOnceSpec : ChangeSpec := { name := "dutyOnce", fn := fun _ => fun
  | [d1, d2, d3, d4] => { results := [.lit (.bool true)], args := [d1, d2, d3, d4] }
  | _ => none }
def dutyOnceRow : OpenClaim := { program := "ytpogpigciaajoaagreatdoor", sum := "e980697ae4c88cccbdd5fd2a10ccf1caf5d4ec2dfaeb4dc8214e755423250489", func := "instar/instarlaw15.DutyOnce", spec := "dutyOnce", inPlace := ["internal/bytealg.IndexByteString", "internal/bytealg.IndexString", "internal/abi.NoEscape"], unfollowed := true, recurses := true, named := ["internal/bytealg.MaxLen", "strings.asciiSpace", "unicode.White_Space"], apart := false, laid := [("unicode.White_Space", laid_unicode_White_Space), ("strings.asciiSpace", laid_strings_asciiSpace)] }
def DutyOnceSaid : Prop := dutyOnceRow.holds Tryz.pinned (OpenSpec.ofChange dutyOnceSpec)

/-- ITS FALSE NEIGHBOUR: 'it returns false'. Refute it at one input. -/
def dutyOnceWrong : ChangeSpec := { name := "dutyOnce", fn := fun _ => fun
  | [d1, d2, d3, d4] => { results := [.lit (.bool false)], args := [d1, d2, d3, d4] }
  | _ => none }
def DutyOnceWrongFalsely : Prop := dutyOnceRow.holds Tryz.pinned (OpenSpec.ofChange dutyOnceWrong)

/-- 'instarlaw15.DutyResets': WHATEVER THE INPUT: true; the input reads as it did. -/
def dutyResetsSpec : ChangeSpec := { name := "dutyResets", fn := fun _ => fun
  | [d1, d2, d3, d4] => { results := [.lit (.bool true)], args := [d1, d2, d3, d4] }
  | _ => none }
def dutyResetsRow : OpenClaim := { program := "ytpogpigciaajoaagreatdoor", sum := "e980697ae4c88cccbdd5fd2a10ccf1caf5d4ec2dfaeb4dc8214e755423250489", func := "instar/instarlaw15.DutyResets", spec := "dutyResets", inPlace := ["internal/bytealg.IndexByteString", "internal/bytealg.IndexString", "internal/abi.NoEscape"], unfollowed := true, recurses := true, named := ["internal/bytealg.MaxLen", "strings.asciiSpace", "unicode.White_Space"], apart := false, laid := [("unicode.White_Space", laid_unicode_White_Space), ("strings.asciiSpace", laid_strings_asciiSpace)] }
def DutyResetsSaid : Prop := dutyResetsRow.holds Tryz.pinned (OpenSpec.ofChange dutyResetsSpec)

/-- ITS FALSE NEIGHBOUR: 'it returns false'. Refute it at one input. -/
def dutyResetsWrong : ChangeSpec := { name := "dutyResets", fn := fun _ => fun
  | [d1, d2, d3, d4] => { results := [.lit (.bool false)], args := [d1, d2, d3, d4] }
  | _ => none }
def DutyResetsWrongFalsely : Prop := dutyResetsRow.holds Tryz.pinned (OpenSpec.ofChange dutyResetsWrong)

/-- 'instarlaw13.OwnerRight': WHATEVER THE INPUT: true; the input reads as it did. -/
def ownerRightSpec : ChangeSpec := { name := "ownerRight", fn := fun _ => fun
  | [d1, d2] => { results := [.lit (.bool true)], args := [d1, d2] }
  | _ => none }
def ownerRightRow : OpenClaim := { program := "ytpogpigciaajoaagreatdoor", sum := "e980697ae4c88cccbdd5fd2a10ccf1caf5d4ec2dfaeb4dc8214e755423250489", func := "instar/instarlaw13.OwnerRight", spec := "ownerRight", inPlace := ["internal/bytealg.IndexByteString", "internal/bytealg.IndexString", "internal/abi.NoEscape", "slices.overlaps[int]", "internal/reflectlite.ValueOf", "(internal/reflectlite.Value).Type", "(internal/reflectlite.Value).IsNil", "internal/reflectlite.TypeOf", "(internal/reflectlite.Value).Elem", "(internal/reflectlite.Value).Set"], unfollowed := true, recurses := true, named := ["internal/bytealg.MaxLen", "errors.errorType"], apart := false, laid := [("errors.errorType", laid_errors_errorType)] }
def OwnerRightSaid : Prop := ownerRightRow.holds Tryz.pinned (OpenSpec.ofChange ownerRightSpec)

/-- ITS FALSE NEIGHBOUR: 'it returns false'. Refute it at one input. -/
def ownerRightWrong : ChangeSpec := { name := "ownerRight", fn := fun _ => fun
  | [d1, d2] => { results := [.lit (.bool false)], args := [d1, d2] }
  | _ => none }
def OwnerRightWrongFalsely : Prop := ownerRightRow.holds Tryz.pinned (OpenSpec.ofChange ownerRightWrong)

/-- 'instarlaw13.OwnerNamed': WHATEVER THE INPUT: true; the input reads as it did. -/
def ownerNamedSpec : ChangeSpec := { name := "ownerNamed", fn := fun _ => fun
  | [d1, d2] => { results := [.lit (.bool true)], args := [d1, d2] }
  | _ => none }
def ownerNamedRow : OpenClaim := { program := "ytpogpigciaajoaagreatdoor", sum := "e980697ae4c88cccbdd5fd2a10ccf1caf5d4ec2dfaeb4dc8214e755423250489", func := "instar/instarlaw13.OwnerNamed", spec := "ownerNamed", inPlace := ["internal/bytealg.IndexByteString", "internal/bytealg.IndexString", "internal/abi.NoEscape", "slices.overlaps[int]", "internal/reflectlite.ValueOf", "(internal/reflectlite.Value).Type", "(internal/reflectlite.Value).IsNil", "internal/reflectlite.TypeOf", "(internal/reflectlite.Value).Elem", "(internal/reflectlite.Value).Set"], unfollowed := true, recurses := true, named := ["internal/bytealg.MaxLen", "errors.errorType"], apart := false, laid := [("errors.errorType", laid_errors_errorType)] }
def OwnerNamedSaid : Prop := ownerNamedRow.holds Tryz.pinned (OpenSpec.ofChange ownerNamedSpec)

/-- ITS FALSE NEIGHBOUR: 'it returns false'. Refute it at one input. -/
def ownerNamedWrong : ChangeSpec := { name := "ownerNamed", fn := fun _ => fun
  | [d1, d2] => { results := [.lit (.bool false)], args := [d1, d2] }
  | _ => none }
def OwnerNamedWrongFalsely : Prop := ownerNamedRow.holds Tryz.pinned (OpenSpec.ofChange ownerNamedWrong)

/-- 'instarlaw13.OwnerParts': WHATEVER THE INPUT: true; the input reads as it did. -/
def ownerPartsSpec : ChangeSpec := { name := "ownerParts", fn := fun _ => fun
  | [d] => { results := [.lit (.bool true)], args := [d] }
  | _ => none }
def ownerPartsRow : OpenClaim := { program := "ytpogpigciaajoaagreatdoor", sum := "e980697ae4c88cccbdd5fd2a10ccf1caf5d4ec2dfaeb4dc8214e755423250489", func := "instar/instarlaw13.OwnerParts", spec := "ownerParts", inPlace := ["internal/bytealg.IndexByteString", "internal/bytealg.IndexString", "internal/abi.NoEscape", "slices.overlaps[int]", "internal/reflectlite.ValueOf", "(internal/reflectlite.Value).Type", "(internal/reflectlite.Value).IsNil", "internal/reflectlite.TypeOf", "(internal/reflectlite.Value).Elem", "(internal/reflectlite.Value).Set"], unfollowed := true, recurses := true, named := ["internal/bytealg.MaxLen", "errors.errorType"], apart := false, laid := [("errors.errorType", laid_errors_errorType)] }
def OwnerPartsSaid : Prop := ownerPartsRow.holds Tryz.pinned (OpenSpec.ofChange ownerPartsSpec)

/-- ITS FALSE NEIGHBOUR: 'it returns false'. Refute it at one input. -/
def ownerPartsWrong : ChangeSpec := { name := "ownerParts", fn := fun _ => fun
  | [d] => { results := [.lit (.bool false)], args := [d] }
  | _ => none }
def OwnerPartsWrongFalsely : Prop := ownerPartsRow.holds Tryz.pinned (OpenSpec.ofChange ownerPartsWrong)

/-- 'instarlaw13.OwnerNear': WHATEVER THE INPUT: true; the input reads as it did. -/
def ownerNearSpec : ChangeSpec := { name := "ownerNear", fn := fun _ => fun
  | [d1, d2] => { results := [.lit (.bool true)], args := [d1, d2] }
  | _ => none }
def ownerNearRow : OpenClaim := { program := "ytpogpigciaajoaagreatdoor", sum := "e980697ae4c88cccbdd5fd2a10ccf1caf5d4ec2dfaeb4dc8214e755423250489", func := "instar/instarlaw13.OwnerNear", spec := "ownerNear", inPlace := ["internal/bytealg.IndexByteString", "internal/bytealg.IndexString", "internal/abi.NoEscape", "slices.overlaps[int]", "internal/reflectlite.ValueOf", "(internal/reflectlite.Value).Type", "(internal/reflectlite.Value).IsNil", "internal/reflectlite.TypeOf", "(internal/reflectlite.Value).Elem", "(internal/reflectlite.Value).Set"], unfollowed := true, recurses := true, named := ["internal/bytealg.MaxLen", "errors.errorType"], apart := false, laid := [("errors.errorType", laid_errors_errorType)] }
def OwnerNearSaid : Prop := ownerNearRow.holds Tryz.pinned (OpenSpec.ofChange ownerNearSpec)

/-- ITS FALSE NEIGHBOUR: 'it returns false'. Refute it at one input. -/
def ownerNearWrong : ChangeSpec := { name := "ownerNear", fn := fun _ => fun
  | [d1, d2] => { results := [.lit (.bool false)], args := [d1, d2] }
  | _ => none }
def OwnerNearWrongFalsely : Prop := ownerNearRow.holds Tryz.pinned (OpenSpec.ofChange ownerNearWrong)

/- THE SECOND FORM. 'bulk': how many values and letters a reading holds, each counted each time it is reached (what is shared counts as often as it is met; a slice's spare places count too). A statement '..UptoSaid' is the law's where the arguments, and the package variables that the reading takes, are together of bulk at most 1048576: NARROWER than '..Said'. Prove '..Said' where nothing that the law and all that it calls make is longer than what came in: it says more and counts as full. Else prove '..UptoSaid'. A law counts once. -/
mutual
def uptoBulk {H : Type} : DataW H → Nat
  | .lit (.string bytes) => bytes.length + 1
  | .lit _ => 1
  | .nil => 1
  | .ptr d => uptoBulk d + 1
  | .slice elems spare => uptoBulkAll elems + uptoBulkAll spare + 1
  | .agg parts => uptoBulkAll parts + 1
  | .iface _ d => uptoBulk d + 1
  | .map entries => uptoBulkEntries entries + 1
  | .held _ => 1
def uptoBulkAll {H : Type} : List (DataW H) → Nat
  | [] => 0
  | d :: r => uptoBulk d + uptoBulkAll r
def uptoBulkEntries {H : Type} : List (Lit × DataW H) → Nat
  | [] => 0
  | x :: r => uptoBulkEntry x + uptoBulkEntries r
def uptoBulkEntry {H : Type} : Lit × DataW H → Nat
  | (.string bytes, d) => bytes.length + uptoBulk d + 1
  | (_, d) => uptoBulk d + 1
 end
def uptoSmall : (H : Type) → List (DataW H) → Bool := fun _ ds => decide (uptoBulkAll ds ≤ 1048576)
def OpenSpec.upto (s : _root_.Go.ChangeSpec) : _root_.Go.OpenSpec := { _root_.Go.OpenSpec.ofChange s with cond := some uptoSmall }

/-- 'instarlaw10.HeirAdds', WHERE WHAT IT READS IS OF BULK AT MOST 1048576: true; the input reads as it did. -/
def heirAddsUptoRow : OpenClaim := { program := "ytpogpigciaajoaagreatdoor", sum := "e980697ae4c88cccbdd5fd2a10ccf1caf5d4ec2dfaeb4dc8214e755423250489", func := "instar/instarlaw10.HeirAdds", spec := "heirAdds", inPlace := ["internal/bytealg.IndexByteString", "internal/bytealg.IndexString", "internal/abi.NoEscape"], unfollowed := true, recurses := true, named := ["internal/bytealg.MaxLen", "strings.asciiSpace", "unicode.White_Space"], apart := false, laid := [("unicode.White_Space", laid_unicode_White_Space), ("strings.asciiSpace", laid_strings_asciiSpace)], narrowed := true }
def HeirAddsUptoSaid : Prop := heirAddsUptoRow.holds Tryz.pinned (OpenSpec.upto heirAddsSpec)

/-- 'instarlaw15.DutyRight', WHERE WHAT IT READS IS OF BULK AT MOST 1048576: true; the input reads as it did. -/
def dutyRightUptoRow : OpenClaim := { program := "ytpogpigciaajoaagreatdoor", sum := "e980697ae4c88cccbdd5fd2a10ccf1caf5d4ec2dfaeb4dc8214e755423250489", func := "instar/instarlaw15.DutyRight", spec := "dutyRight", inPlace := ["internal/bytealg.IndexByteString", "internal/bytealg.IndexString", "internal/abi.NoEscape"], unfollowed := true, recurses := true, named := ["internal/bytealg.MaxLen", "strings.asciiSpace", "unicode.White_Space"], apart := false, laid := [("unicode.White_Space", laid_unicode_White_Space), ("strings.asciiSpace", laid_strings_asciiSpace)], narrowed := true }
def DutyRightUptoSaid : Prop := dutyRightUptoRow.holds Tryz.pinned (OpenSpec.upto dutyRightSpec)

/-- 'instarlaw15.DutyRestores', WHERE WHAT IT READS IS OF BULK AT MOST 1048576: true; the input reads as it did. -/
def dutyRestoresUptoRow : OpenClaim := { program := "ytpogpigciaajoaagreatdoor", sum := "e980697ae4c88cccbdd5fd2a10ccf1caf5d4ec2dfaeb4dc8214e755423250489", func := "instar/instarlaw15.DutyRestores", spec := "dutyRestores", inPlace := ["internal/bytealg.IndexByteString", "internal/bytealg.IndexString", "internal/abi.NoEscape"], unfollowed := true, recurses := true, named := ["internal/bytealg.MaxLen", "strings.asciiSpace", "unicode.White_Space"], apart := false, laid := [("unicode.White_Space", laid_unicode_White_Space), ("strings.asciiSpace", laid_strings_asciiSpace)], narrowed := true }
def DutyRestoresUptoSaid : Prop := dutyRestoresUptoRow.holds Tryz.pinned (OpenSpec.upto dutyRestoresSpec)

/-- 'instarlaw15.DutyOnce', WHERE WHAT IT READS IS OF BULK AT MOST 1048576: true; the input reads as it did. -/
def dutyOnceUptoRow : OpenClaim := { program := "ytpogpigciaajoaagreatdoor", sum := "e980697ae4c88cccbdd5fd2a10ccf1caf5d4ec2dfaeb4dc8214e755423250489", func := "instar/instarlaw15.DutyOnce", spec := "dutyOnce", inPlace := ["internal/bytealg.IndexByteString", "internal/bytealg.IndexString", "internal/abi.NoEscape"], unfollowed := true, recurses := true, named := ["internal/bytealg.MaxLen", "strings.asciiSpace", "unicode.White_Space"], apart := false, laid := [("unicode.White_Space", laid_unicode_White_Space), ("strings.asciiSpace", laid_strings_asciiSpace)], narrowed := true }
def DutyOnceUptoSaid : Prop := dutyOnceUptoRow.holds Tryz.pinned (OpenSpec.upto dutyOnceSpec)

/-- 'instarlaw15.DutyResets', WHERE WHAT IT READS IS OF BULK AT MOST 1048576: true; the input reads as it did. -/
def dutyResetsUptoRow : OpenClaim := { program := "ytpogpigciaajoaagreatdoor", sum := "e980697ae4c88cccbdd5fd2a10ccf1caf5d4ec2dfaeb4dc8214e755423250489", func := "instar/instarlaw15.DutyResets", spec := "dutyResets", inPlace := ["internal/bytealg.IndexByteString", "internal/bytealg.IndexString", "internal/abi.NoEscape"], unfollowed := true, recurses := true, named := ["internal/bytealg.MaxLen", "strings.asciiSpace", "unicode.White_Space"], apart := false, laid := [("unicode.White_Space", laid_unicode_White_Space), ("strings.asciiSpace", laid_strings_asciiSpace)], narrowed := true }
def DutyResetsUptoSaid : Prop := dutyResetsUptoRow.holds Tryz.pinned (OpenSpec.upto dutyResetsSpec)

/-- 'instarlaw13.OwnerRight', WHERE WHAT IT READS IS OF BULK AT MOST 1048576: true; the input reads as it did. -/
def ownerRightUptoRow : OpenClaim := { program := "ytpogpigciaajoaagreatdoor", sum := "e980697ae4c88cccbdd5fd2a10ccf1caf5d4ec2dfaeb4dc8214e755423250489", func := "instar/instarlaw13.OwnerRight", spec := "ownerRight", inPlace := ["internal/bytealg.IndexByteString", "internal/bytealg.IndexString", "internal/abi.NoEscape", "slices.overlaps[int]", "internal/reflectlite.ValueOf", "(internal/reflectlite.Value).Type", "(internal/reflectlite.Value).IsNil", "internal/reflectlite.TypeOf", "(internal/reflectlite.Value).Elem", "(internal/reflectlite.Value).Set"], unfollowed := true, recurses := true, named := ["internal/bytealg.MaxLen", "errors.errorType"], apart := false, laid := [("errors.errorType", laid_errors_errorType)], narrowed := true }
def OwnerRightUptoSaid : Prop := ownerRightUptoRow.holds Tryz.pinned (OpenSpec.upto ownerRightSpec)

/-- 'instarlaw13.OwnerNamed', WHERE WHAT IT READS IS OF BULK AT MOST 1048576: true; the input reads as it did. -/
def ownerNamedUptoRow : OpenClaim := { program := "ytpogpigciaajoaagreatdoor", sum := "e980697ae4c88cccbdd5fd2a10ccf1caf5d4ec2dfaeb4dc8214e755423250489", func := "instar/instarlaw13.OwnerNamed", spec := "ownerNamed", inPlace := ["internal/bytealg.IndexByteString", "internal/bytealg.IndexString", "internal/abi.NoEscape", "slices.overlaps[int]", "internal/reflectlite.ValueOf", "(internal/reflectlite.Value).Type", "(internal/reflectlite.Value).IsNil", "internal/reflectlite.TypeOf", "(internal/reflectlite.Value).Elem", "(internal/reflectlite.Value).Set"], unfollowed := true, recurses := true, named := ["internal/bytealg.MaxLen", "errors.errorType"], apart := false, laid := [("errors.errorType", laid_errors_errorType)], narrowed := true }
def OwnerNamedUptoSaid : Prop := ownerNamedUptoRow.holds Tryz.pinned (OpenSpec.upto ownerNamedSpec)

/-- 'instarlaw13.OwnerParts', WHERE WHAT IT READS IS OF BULK AT MOST 1048576: true; the input reads as it did. -/
def ownerPartsUptoRow : OpenClaim := { program := "ytpogpigciaajoaagreatdoor", sum := "e980697ae4c88cccbdd5fd2a10ccf1caf5d4ec2dfaeb4dc8214e755423250489", func := "instar/instarlaw13.OwnerParts", spec := "ownerParts", inPlace := ["internal/bytealg.IndexByteString", "internal/bytealg.IndexString", "internal/abi.NoEscape", "slices.overlaps[int]", "internal/reflectlite.ValueOf", "(internal/reflectlite.Value).Type", "(internal/reflectlite.Value).IsNil", "internal/reflectlite.TypeOf", "(internal/reflectlite.Value).Elem", "(internal/reflectlite.Value).Set"], unfollowed := true, recurses := true, named := ["internal/bytealg.MaxLen", "errors.errorType"], apart := false, laid := [("errors.errorType", laid_errors_errorType)], narrowed := true }
def OwnerPartsUptoSaid : Prop := ownerPartsUptoRow.holds Tryz.pinned (OpenSpec.upto ownerPartsSpec)

/-- 'instarlaw13.OwnerNear', WHERE WHAT IT READS IS OF BULK AT MOST 1048576: true; the input reads as it did. -/
def ownerNearUptoRow : OpenClaim := { program := "ytpogpigciaajoaagreatdoor", sum := "e980697ae4c88cccbdd5fd2a10ccf1caf5d4ec2dfaeb4dc8214e755423250489", func := "instar/instarlaw13.OwnerNear", spec := "ownerNear", inPlace := ["internal/bytealg.IndexByteString", "internal/bytealg.IndexString", "internal/abi.NoEscape", "slices.overlaps[int]", "internal/reflectlite.ValueOf", "(internal/reflectlite.Value).Type", "(internal/reflectlite.Value).IsNil", "internal/reflectlite.TypeOf", "(internal/reflectlite.Value).Elem", "(internal/reflectlite.Value).Set"], unfollowed := true, recurses := true, named := ["internal/bytealg.MaxLen", "errors.errorType"], apart := false, laid := [("errors.errorType", laid_errors_errorType)], narrowed := true }
def OwnerNearUptoSaid : Prop := ownerNearUptoRow.holds Tryz.pinned (OpenSpec.upto ownerNearSpec)

end Rows
end Go.Proofs.YtpogpigciaajoaaGreatDoor
