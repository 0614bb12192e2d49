/-
  NARROWER THAN 'FOR EVERY INPUT', by the rows' own cells (each row's printed sentence says how): WorldRight: laid · WorldTells: laid · WorldEnlists: laid · WorldAgain: laid · WorldParts: laid · GrowStarts: laid · GrowTakes: laid · GrowNests: laid · GrowBreaks: laid · GrowFails: laid · GrowFresh: laid · GrowRight: laid.
  DERIVED. THE GIVEN ROWS OF THIS SEAT. 12 by the template 'for every input the law returns true; each argument reads behind the call as it read before'; 0 by the template 'total and deterministic' (their statements: YtciccajdpmahiaaGreatDoorTotals.lean).
  GIVEN WITH THE SEED: the statements are not yours to turn. If you find one false, say at which input.
  Laid BY PROGRAM, IN A SANDBOX (cutbox-rows.mjs): the forced cells as the released guide's own fill.sh prints them over the translation c3dd2f6c469eba02… (all of the seat's roots in one cut). By AI agents, Wed Nov 11 2026. No macro, syntax, notation, axiom, sorry.
-/
import Derived.Test.YtciccajdpmahiaaGreatDoorChecked
import GoSem.Claim
import GoSem.ClaimJoined
import GoSem.ClaimMapViews
import Derived.JoinedTies
import Derived.KernelRfl
namespace Go.Proofs.YtciccajdpmahiaaGreatDoor
/- THE CELL 'sum', in the pinned program and in every row, IS THE sha256 OF THE DUMP (.gsa) THAT YtciccajdpmahiaaGreatDoorProg.lean LOADS. Nothing in Lean hashes anything: it is a label: what it is worth is what the hold of that sum in a sandbox is worth. -/
noncomputable def Tryz.pinned : Pinned := { name := "ytciccajdpmahiaagreatdoor", sum := "c3dd2f6c469eba027379ad33a9e0283c87a141c1097ae8c40fd8736a41cd4ac5", checked := Tryz.checked }
namespace Rows
def none {H : Type} : Left H := { results := [], args := [] }

/- WHAT THE LISTED PACKAGE-LEVEL VARIABLES READ AS WHEN THE CALL BEGINS. Each datum BY PROGRAM (the guide's laid-datum.mjs) off the statement by which the dump's own 'gosem.cut.vars' lays the variable. In a bare row this is a premise. The card (YtciccajdpmahiaaGreatDoorCards.lean) ties it to the program's text. -/
def laid_unicode_White_Space {H : Type} : DataW H := .ptr (.agg [.slice [.agg [.lit (.int .u16 9), .lit (.int .u16 13), .lit (.int .u16 1)], .agg [.lit (.int .u16 32), .lit (.int .u16 133), .lit (.int .u16 101)], .agg [.lit (.int .u16 160), .lit (.int .u16 5760), .lit (.int .u16 5600)], .agg [.lit (.int .u16 8192), .lit (.int .u16 8202), .lit (.int .u16 1)], .agg [.lit (.int .u16 8232), .lit (.int .u16 8233), .lit (.int .u16 1)], .agg [.lit (.int .u16 8239), .lit (.int .u16 8287), .lit (.int .u16 48)], .agg [.lit (.int .u16 12288), .lit (.int .u16 12288), .lit (.int .u16 1)]] [], .nil, .lit (.int .i64 2)])
def laid_strings_asciiSpace {H : Type} : DataW H := .agg [.lit (.int .u8 0), .lit (.int .u8 0), .lit (.int .u8 0), .lit (.int .u8 0), .lit (.int .u8 0), .lit (.int .u8 0), .lit (.int .u8 0), .lit (.int .u8 0), .lit (.int .u8 0), .lit (.int .u8 1), .lit (.int .u8 1), .lit (.int .u8 1), .lit (.int .u8 1), .lit (.int .u8 1), .lit (.int .u8 0), .lit (.int .u8 0), .lit (.int .u8 0), .lit (.int .u8 0), .lit (.int .u8 0), .lit (.int .u8 0), .lit (.int .u8 0), .lit (.int .u8 0), .lit (.int .u8 0), .lit (.int .u8 0), .lit (.int .u8 0), .lit (.int .u8 0), .lit (.int .u8 0), .lit (.int .u8 0), .lit (.int .u8 0), .lit (.int .u8 0), .lit (.int .u8 0), .lit (.int .u8 0), .lit (.int .u8 1), .lit (.int .u8 0), .lit (.int .u8 0), .lit (.int .u8 0), .lit (.int .u8 0), .lit (.int .u8 0), .lit (.int .u8 0), .lit (.int .u8 0), .lit (.int .u8 0), .lit (.int .u8 0), .lit (.int .u8 0), .lit (.int .u8 0), .lit (.int .u8 0), .lit (.int .u8 0), .lit (.int .u8 0), .lit (.int .u8 0), .lit (.int .u8 0), .lit (.int .u8 0), .lit (.int .u8 0), .lit (.int .u8 0), .lit (.int .u8 0), .lit (.int .u8 0), .lit (.int .u8 0), .lit (.int .u8 0), .lit (.int .u8 0), .lit (.int .u8 0), .lit (.int .u8 0), .lit (.int .u8 0), .lit (.int .u8 0), .lit (.int .u8 0), .lit (.int .u8 0), .lit (.int .u8 0), .lit (.int .u8 0), .lit (.int .u8 0), .lit (.int .u8 0), .lit (.int .u8 0), .lit (.int .u8 0), .lit (.int .u8 0), .lit (.int .u8 0), .lit (.int .u8 0), .lit (.int .u8 0), .lit (.int .u8 0), .lit (.int .u8 0), .lit (.int .u8 0), .lit (.int .u8 0), .lit (.int .u8 0), .lit (.int .u8 0), .lit (.int .u8 0), .lit (.int .u8 0), .lit (.int .u8 0), .lit (.int .u8 0), .lit (.int .u8 0), .lit (.int .u8 0), .lit (.int .u8 0), .lit (.int .u8 0), .lit (.int .u8 0), .lit (.int .u8 0), .lit (.int .u8 0), .lit (.int .u8 0), .lit (.int .u8 0), .lit (.int .u8 0), .lit (.int .u8 0), .lit (.int .u8 0), .lit (.int .u8 0), .lit (.int .u8 0), .lit (.int .u8 0), .lit (.int .u8 0), .lit (.int .u8 0), .lit (.int .u8 0), .lit (.int .u8 0), .lit (.int .u8 0), .lit (.int .u8 0), .lit (.int .u8 0), .lit (.int .u8 0), .lit (.int .u8 0), .lit (.int .u8 0), .lit (.int .u8 0), .lit (.int .u8 0), .lit (.int .u8 0), .lit (.int .u8 0), .lit (.int .u8 0), .lit (.int .u8 0), .lit (.int .u8 0), .lit (.int .u8 0), .lit (.int .u8 0), .lit (.int .u8 0), .lit (.int .u8 0), .lit (.int .u8 0), .lit (.int .u8 0), .lit (.int .u8 0), .lit (.int .u8 0), .lit (.int .u8 0), .lit (.int .u8 0), .lit (.int .u8 0), .lit (.int .u8 0), .lit (.int .u8 0), .lit (.int .u8 0), .lit (.int .u8 0), .lit (.int .u8 0), .lit (.int .u8 0), .lit (.int .u8 0), .lit (.int .u8 0), .lit (.int .u8 0), .lit (.int .u8 0), .lit (.int .u8 0), .lit (.int .u8 0), .lit (.int .u8 0), .lit (.int .u8 0), .lit (.int .u8 0), .lit (.int .u8 0), .lit (.int .u8 0), .lit (.int .u8 0), .lit (.int .u8 0), .lit (.int .u8 0), .lit (.int .u8 0), .lit (.int .u8 0), .lit (.int .u8 0), .lit (.int .u8 0), .lit (.int .u8 0), .lit (.int .u8 0), .lit (.int .u8 0), .lit (.int .u8 0), .lit (.int .u8 0), .lit (.int .u8 0), .lit (.int .u8 0), .lit (.int .u8 0), .lit (.int .u8 0), .lit (.int .u8 0), .lit (.int .u8 0), .lit (.int .u8 0), .lit (.int .u8 0), .lit (.int .u8 0), .lit (.int .u8 0), .lit (.int .u8 0), .lit (.int .u8 0), .lit (.int .u8 0), .lit (.int .u8 0), .lit (.int .u8 0), .lit (.int .u8 0), .lit (.int .u8 0), .lit (.int .u8 0), .lit (.int .u8 0), .lit (.int .u8 0), .lit (.int .u8 0), .lit (.int .u8 0), .lit (.int .u8 0), .lit (.int .u8 0), .lit (.int .u8 0), .lit (.int .u8 0), .lit (.int .u8 0), .lit (.int .u8 0), .lit (.int .u8 0), .lit (.int .u8 0), .lit (.int .u8 0), .lit (.int .u8 0), .lit (.int .u8 0), .lit (.int .u8 0), .lit (.int .u8 0), .lit (.int .u8 0), .lit (.int .u8 0), .lit (.int .u8 0), .lit (.int .u8 0), .lit (.int .u8 0), .lit (.int .u8 0), .lit (.int .u8 0), .lit (.int .u8 0), .lit (.int .u8 0), .lit (.int .u8 0), .lit (.int .u8 0), .lit (.int .u8 0), .lit (.int .u8 0), .lit (.int .u8 0), .lit (.int .u8 0), .lit (.int .u8 0), .lit (.int .u8 0), .lit (.int .u8 0), .lit (.int .u8 0), .lit (.int .u8 0), .lit (.int .u8 0), .lit (.int .u8 0), .lit (.int .u8 0), .lit (.int .u8 0), .lit (.int .u8 0), .lit (.int .u8 0), .lit (.int .u8 0), .lit (.int .u8 0), .lit (.int .u8 0), .lit (.int .u8 0), .lit (.int .u8 0), .lit (.int .u8 0), .lit (.int .u8 0), .lit (.int .u8 0), .lit (.int .u8 0), .lit (.int .u8 0), .lit (.int .u8 0), .lit (.int .u8 0), .lit (.int .u8 0), .lit (.int .u8 0), .lit (.int .u8 0), .lit (.int .u8 0), .lit (.int .u8 0), .lit (.int .u8 0), .lit (.int .u8 0), .lit (.int .u8 0), .lit (.int .u8 0), .lit (.int .u8 0), .lit (.int .u8 0), .lit (.int .u8 0), .lit (.int .u8 0), .lit (.int .u8 0), .lit (.int .u8 0), .lit (.int .u8 0), .lit (.int .u8 0), .lit (.int .u8 0), .lit (.int .u8 0), .lit (.int .u8 0), .lit (.int .u8 0), .lit (.int .u8 0), .lit (.int .u8 0), .lit (.int .u8 0), .lit (.int .u8 0), .lit (.int .u8 0), .lit (.int .u8 0), .lit (.int .u8 0)]

/-- 'instarlaw17.WorldRight': WHATEVER THE INPUT: true; the input reads as it did. -/
def worldRightSpec : ChangeSpec := { name := "worldRight", fn := fun _ => fun
  | [d1, d2, d3, d4, d5] => { results := [.lit (.bool true)], args := [d1, d2, d3, d4, d5] }
  | _ => none }
def worldRightRow : OpenClaim := { program := "ytciccajdpmahiaagreatdoor", sum := "c3dd2f6c469eba027379ad33a9e0283c87a141c1097ae8c40fd8736a41cd4ac5", func := "instar/instarlaw17.WorldRight", spec := "worldRight", inPlace := ["internal/bytealg.IndexByteString", "internal/bytealg.IndexString"], unfollowed := true, recurses := true, named := ["internal/bytealg.MaxLen", "strings.asciiSpace", "unicode.White_Space"], apart := false, laid := [("unicode.White_Space", laid_unicode_White_Space), ("strings.asciiSpace", laid_strings_asciiSpace)] }
def WorldRightSaid : Prop := worldRightRow.holds Tryz.pinned (OpenSpec.ofChange worldRightSpec)

/-- ITS FALSE NEIGHBOUR: 'it returns false'. Refute it at one input. -/
def worldRightWrong : ChangeSpec := { name := "worldRight", fn := fun _ => fun
  | [d1, d2, d3, d4, d5] => { results := [.lit (.bool false)], args := [d1, d2, d3, d4, d5] }
  | _ => none }
def WorldRightWrongFalsely : Prop := worldRightRow.holds Tryz.pinned (OpenSpec.ofChange worldRightWrong)

/-- 'instarlaw17.WorldTells': WHATEVER THE INPUT: true; the input reads as it did. -/
def worldTellsSpec : ChangeSpec := { name := "worldTells", fn := fun _ => fun
  | [d1, d2, d3] => { results := [.lit (.bool true)], args := [d1, d2, d3] }
  | _ => none }
def worldTellsRow : OpenClaim := { program := "ytciccajdpmahiaagreatdoor", sum := "c3dd2f6c469eba027379ad33a9e0283c87a141c1097ae8c40fd8736a41cd4ac5", func := "instar/instarlaw17.WorldTells", spec := "worldTells", inPlace := ["internal/bytealg.IndexByteString", "internal/bytealg.IndexString"], unfollowed := true, recurses := true, named := ["internal/bytealg.MaxLen", "strings.asciiSpace", "unicode.White_Space"], apart := false, laid := [("unicode.White_Space", laid_unicode_White_Space), ("strings.asciiSpace", laid_strings_asciiSpace)] }
def WorldTellsSaid : Prop := worldTellsRow.holds Tryz.pinned (OpenSpec.ofChange worldTellsSpec)

/-- ITS FALSE NEIGHBOUR: 'it returns false'. Refute it at one input. -/
def worldTellsWrong : ChangeSpec := { name := "worldTells", fn := fun _ => fun
  | [d1, d2, d3] => { results := [.lit (.bool false)], args := [d1, d2, d3] }
  | _ => none }
def WorldTellsWrongFalsely : Prop := worldTellsRow.holds Tryz.pinned (OpenSpec.ofChange worldTellsWrong)

/-- 'instarlaw17.WorldEnlists': WHATEVER THE INPUT: true; the input reads as it did. -/
def worldEnlistsSpec : ChangeSpec := { name := "worldEnlists", fn := fun _ => fun
  | [d1, d2] => { results := [.lit (.bool true)], args := [d1, d2] }
  | _ => none }
def worldEnlistsRow : OpenClaim := { program := "ytciccajdpmahiaagreatdoor", sum := "c3dd2f6c469eba027379ad33a9e0283c87a141c1097ae8c40fd8736a41cd4ac5", func := "instar/instarlaw17.WorldEnlists", spec := "worldEnlists", inPlace := ["internal/bytealg.IndexByteString", "internal/bytealg.IndexString"], unfollowed := true, recurses := true, named := ["internal/bytealg.MaxLen", "strings.asciiSpace", "unicode.White_Space"], apart := false, laid := [("unicode.White_Space", laid_unicode_White_Space), ("strings.asciiSpace", laid_strings_asciiSpace)] }
def WorldEnlistsSaid : Prop := worldEnlistsRow.holds Tryz.pinned (OpenSpec.ofChange worldEnlistsSpec)

/-- ITS FALSE NEIGHBOUR: 'it returns false'. Refute it at one input. -/
def worldEnlistsWrong : ChangeSpec := { name := "worldEnlists", fn := fun _ => fun
  | [d1, d2] => { results := [.lit (.bool false)], args := [d1, d2] }
  | _ => none }
def WorldEnlistsWrongFalsely : Prop := worldEnlistsRow.holds Tryz.pinned (OpenSpec.ofChange worldEnlistsWrong)

/-- 'instarlaw17.WorldAgain': WHATEVER THE INPUT: true; the input reads as it did. -/
def worldAgainSpec : ChangeSpec := { name := "worldAgain", fn := fun _ => fun
  | [d1, d2, d3] => { results := [.lit (.bool true)], args := [d1, d2, d3] }
  | _ => none }
def worldAgainRow : OpenClaim := { program := "ytciccajdpmahiaagreatdoor", sum := "c3dd2f6c469eba027379ad33a9e0283c87a141c1097ae8c40fd8736a41cd4ac5", func := "instar/instarlaw17.WorldAgain", spec := "worldAgain", inPlace := ["internal/bytealg.IndexByteString", "internal/bytealg.IndexString"], unfollowed := true, recurses := true, named := ["internal/bytealg.MaxLen", "strings.asciiSpace", "unicode.White_Space"], apart := false, laid := [("unicode.White_Space", laid_unicode_White_Space), ("strings.asciiSpace", laid_strings_asciiSpace)] }
def WorldAgainSaid : Prop := worldAgainRow.holds Tryz.pinned (OpenSpec.ofChange worldAgainSpec)

/-- ITS FALSE NEIGHBOUR: 'it returns false'. Refute it at one input. -/
def worldAgainWrong : ChangeSpec := { name := "worldAgain", fn := fun _ => fun
  | [d1, d2, d3] => { results := [.lit (.bool false)], args := [d1, d2, d3] }
  | _ => none }
def WorldAgainWrongFalsely : Prop := worldAgainRow.holds Tryz.pinned (OpenSpec.ofChange worldAgainWrong)

/-- 'instarlaw17.WorldParts': WHATEVER THE INPUT: true; the input reads as it did. -/
def worldPartsSpec : ChangeSpec := { name := "worldParts", fn := fun _ => fun
  | [d1, d2, d3] => { results := [.lit (.bool true)], args := [d1, d2, d3] }
  | _ => none }
def worldPartsRow : OpenClaim := { program := "ytciccajdpmahiaagreatdoor", sum := "c3dd2f6c469eba027379ad33a9e0283c87a141c1097ae8c40fd8736a41cd4ac5", func := "instar/instarlaw17.WorldParts", spec := "worldParts", inPlace := ["internal/bytealg.IndexByteString", "internal/bytealg.IndexString"], unfollowed := true, recurses := true, named := ["internal/bytealg.MaxLen", "strings.asciiSpace", "unicode.White_Space"], apart := false, laid := [("unicode.White_Space", laid_unicode_White_Space), ("strings.asciiSpace", laid_strings_asciiSpace)] }
def WorldPartsSaid : Prop := worldPartsRow.holds Tryz.pinned (OpenSpec.ofChange worldPartsSpec)

/-- ITS FALSE NEIGHBOUR: 'it returns false'. Refute it at one input. -/
def worldPartsWrong : ChangeSpec := { name := "worldParts", fn := fun _ => fun
  | [d1, d2, d3] => { results := [.lit (.bool false)], args := [d1, d2, d3] }
  | _ => none }
def WorldPartsWrongFalsely : Prop := worldPartsRow.holds Tryz.pinned (OpenSpec.ofChange worldPartsWrong)

/-- 'instarlaw19.GrowStarts': WHATEVER THE INPUT: true; the input reads as it did. -/
def growStartsSpec : ChangeSpec := { name := "growStarts", fn := fun _ => fun
  | [d1, d2, d3] => { results := [.lit (.bool true)], args := [d1, d2, d3] }
  | _ => none }
def growStartsRow : OpenClaim := { program := "ytciccajdpmahiaagreatdoor", sum := "c3dd2f6c469eba027379ad33a9e0283c87a141c1097ae8c40fd8736a41cd4ac5", func := "instar/instarlaw19.GrowStarts", spec := "growStarts", inPlace := ["internal/bytealg.IndexByteString", "internal/bytealg.IndexString"], unfollowed := true, recurses := true, named := ["internal/bytealg.MaxLen", "strings.asciiSpace", "unicode.White_Space"], apart := false, laid := [("unicode.White_Space", laid_unicode_White_Space), ("strings.asciiSpace", laid_strings_asciiSpace)] }
def GrowStartsSaid : Prop := growStartsRow.holds Tryz.pinned (OpenSpec.ofChange growStartsSpec)

/-- ITS FALSE NEIGHBOUR: 'it returns false'. Refute it at one input. -/
def growStartsWrong : ChangeSpec := { name := "growStarts", fn := fun _ => fun
  | [d1, d2, d3] => { results := [.lit (.bool false)], args := [d1, d2, d3] }
  | _ => none }
def GrowStartsWrongFalsely : Prop := growStartsRow.holds Tryz.pinned (OpenSpec.ofChange growStartsWrong)

/-- 'instarlaw19.GrowTakes': WHATEVER THE INPUT: true; the input reads as it did. -/
def growTakesSpec : ChangeSpec := { name := "growTakes", fn := fun _ => fun
  | [d1, d2, d3] => { results := [.lit (.bool true)], args := [d1, d2, d3] }
  | _ => none }
def growTakesRow : OpenClaim := { program := "ytciccajdpmahiaagreatdoor", sum := "c3dd2f6c469eba027379ad33a9e0283c87a141c1097ae8c40fd8736a41cd4ac5", func := "instar/instarlaw19.GrowTakes", spec := "growTakes", inPlace := ["internal/bytealg.IndexByteString", "internal/bytealg.IndexString"], unfollowed := true, recurses := true, named := ["internal/bytealg.MaxLen", "strings.asciiSpace", "unicode.White_Space"], apart := false, laid := [("unicode.White_Space", laid_unicode_White_Space), ("strings.asciiSpace", laid_strings_asciiSpace)] }
def GrowTakesSaid : Prop := growTakesRow.holds Tryz.pinned (OpenSpec.ofChange growTakesSpec)

/-- ITS FALSE NEIGHBOUR: 'it returns false'. Refute it at one input. -/
def growTakesWrong : ChangeSpec := { name := "growTakes", fn := fun _ => fun
  | [d1, d2, d3] => { results := [.lit (.bool false)], args := [d1, d2, d3] }
  | _ => none }
def GrowTakesWrongFalsely : Prop := growTakesRow.holds Tryz.pinned (OpenSpec.ofChange growTakesWrong)

/-- 'instarlaw19.GrowNests': WHATEVER THE INPUT: true; the input reads as it did. -/
def growNestsSpec : ChangeSpec := { name := "growNests", fn := fun _ => fun
  | [d1, d2, d3] => { results := [.lit (.bool true)], args := [d1, d2, d3] }
  | _ => none }
def growNestsRow : OpenClaim := { program := "ytciccajdpmahiaagreatdoor", sum := "c3dd2f6c469eba027379ad33a9e0283c87a141c1097ae8c40fd8736a41cd4ac5", func := "instar/instarlaw19.GrowNests", spec := "growNests", inPlace := ["internal/bytealg.IndexByteString", "internal/bytealg.IndexString"], unfollowed := true, recurses := true, named := ["internal/bytealg.MaxLen", "strings.asciiSpace", "unicode.White_Space"], apart := false, laid := [("unicode.White_Space", laid_unicode_White_Space), ("strings.asciiSpace", laid_strings_asciiSpace)] }
def GrowNestsSaid : Prop := growNestsRow.holds Tryz.pinned (OpenSpec.ofChange growNestsSpec)

/-- ITS FALSE NEIGHBOUR: 'it returns false'. Refute it at one input. -/
def growNestsWrong : ChangeSpec := { name := "growNests", fn := fun _ => fun
  | [d1, d2, d3] => { results := [.lit (.bool false)], args := [d1, d2, d3] }
  | _ => none }
def GrowNestsWrongFalsely : Prop := growNestsRow.holds Tryz.pinned (OpenSpec.ofChange growNestsWrong)

/-- 'instarlaw19.GrowBreaks': WHATEVER THE INPUT: true; the input reads as it did. -/
def growBreaksSpec : ChangeSpec := { name := "growBreaks", fn := fun _ => fun
  | [d1, d2, d3, d4] => { results := [.lit (.bool true)], args := [d1, d2, d3, d4] }
  | _ => none }
def growBreaksRow : OpenClaim := { program := "ytciccajdpmahiaagreatdoor", sum := "c3dd2f6c469eba027379ad33a9e0283c87a141c1097ae8c40fd8736a41cd4ac5", func := "instar/instarlaw19.GrowBreaks", spec := "growBreaks", inPlace := ["internal/bytealg.IndexByteString", "internal/bytealg.IndexString"], unfollowed := true, recurses := true, named := ["internal/bytealg.MaxLen", "strings.asciiSpace", "unicode.White_Space"], apart := false, laid := [("unicode.White_Space", laid_unicode_White_Space), ("strings.asciiSpace", laid_strings_asciiSpace)] }
def GrowBreaksSaid : Prop := growBreaksRow.holds Tryz.pinned (OpenSpec.ofChange growBreaksSpec)

/-- ITS FALSE NEIGHBOUR: 'it returns false'. Refute it at one input. -/
def growBreaksWrong : ChangeSpec := { name := "growBreaks", fn := fun _ => fun
  | [d1, d2, d3, d4] => { results := [.lit (.bool false)], args := [d1, d2, d3, d4] }
  | _ => none }
def GrowBreaksWrongFalsely : Prop := growBreaksRow.holds Tryz.pinned (OpenSpec.ofChange growBreaksWrong)

/-- 'instarlaw19.GrowFails': WHATEVER THE INPUT: true; the input reads as it did. -/
def growFailsSpec : ChangeSpec := { name := "growFails", fn := fun _ => fun
  | [d1, d2, d3, d4, d5] => { results := [.lit (.bool true)], args := [d1, d2, d3, d4, d5] }
  | _ => none }
def growFailsRow : OpenClaim := { program := "ytciccajdpmahiaagreatdoor", sum := "c3dd2f6c469eba027379ad33a9e0283c87a141c1097ae8c40fd8736a41cd4ac5", func := "instar/instarlaw19.GrowFails", spec := "growFails", inPlace := ["internal/bytealg.IndexByteString", "internal/bytealg.IndexString"], unfollowed := true, recurses := true, named := ["internal/bytealg.MaxLen", "strings.asciiSpace", "unicode.White_Space"], apart := false, laid := [("unicode.White_Space", laid_unicode_White_Space), ("strings.asciiSpace", laid_strings_asciiSpace)] }
def GrowFailsSaid : Prop := growFailsRow.holds Tryz.pinned (OpenSpec.ofChange growFailsSpec)

/-- ITS FALSE NEIGHBOUR: 'it returns false'. Refute it at one input. -/
def growFailsWrong : ChangeSpec := { name := "growFails", fn := fun _ => fun
  | [d1, d2, d3, d4, d5] => { results := [.lit (.bool false)], args := [d1, d2, d3, d4, d5] }
  | _ => none }
def GrowFailsWrongFalsely : Prop := growFailsRow.holds Tryz.pinned (OpenSpec.ofChange growFailsWrong)

/-- 'instarlaw19.GrowFresh': WHATEVER THE INPUT: true; the input reads as it did. -/
def growFreshSpec : ChangeSpec := { name := "growFresh", fn := fun _ => fun
  | [d1, d2, d3] => { results := [.lit (.bool true)], args := [d1, d2, d3] }
  | _ => none }
def growFreshRow : OpenClaim := { program := "ytciccajdpmahiaagreatdoor", sum := "c3dd2f6c469eba027379ad33a9e0283c87a141c1097ae8c40fd8736a41cd4ac5", func := "instar/instarlaw19.GrowFresh", spec := "growFresh", inPlace := ["internal/bytealg.IndexByteString", "internal/bytealg.IndexString"], unfollowed := true, recurses := true, named := ["internal/bytealg.MaxLen", "strings.asciiSpace", "unicode.White_Space"], apart := false, laid := [("unicode.White_Space", laid_unicode_White_Space), ("strings.asciiSpace", laid_strings_asciiSpace)] }
def GrowFreshSaid : Prop := growFreshRow.holds Tryz.pinned (OpenSpec.ofChange growFreshSpec)

/-- ITS FALSE NEIGHBOUR: 'it returns false'. Refute it at one input. -/
def growFreshWrong : ChangeSpec := { name := "growFresh", fn := fun _ => fun
  | [d1, d2, d3] => { results := [.lit (.bool false)], args := [d1, d2, d3] }
  | _ => none }
def GrowFreshWrongFalsely : Prop := growFreshRow.holds Tryz.pinned (OpenSpec.ofChange growFreshWrong)

/-- 'instarlaw19.GrowRight': WHATEVER THE INPUT: true; the input reads as it did. -/
def growRightSpec : ChangeSpec := { name := "growRight", fn := fun _ => fun
  | [d1, d2, d3, d4, d5, d6, d7, d8, d9, d10] => { results := [.lit (.bool true)], args := [d1, d2, d3, d4, d5, d6, d7, d8, d9, d10] }
  | _ => none }
def growRightRow : OpenClaim := { program := "ytciccajdpmahiaagreatdoor", sum := "c3dd2f6c469eba027379ad33a9e0283c87a141c1097ae8c40fd8736a41cd4ac5", func := "instar/instarlaw19.GrowRight", spec := "growRight", inPlace := ["internal/bytealg.IndexByteString", "internal/bytealg.IndexString"], unfollowed := true, recurses := true, named := ["internal/bytealg.MaxLen", "strings.asciiSpace", "unicode.White_Space"], apart := false, laid := [("unicode.White_Space", laid_unicode_White_Space), ("strings.asciiSpace", laid_strings_asciiSpace)] }
def GrowRightSaid : Prop := growRightRow.holds Tryz.pinned (OpenSpec.ofChange growRightSpec)

/-- ITS FALSE NEIGHBOUR: 'it returns false'. Refute it at one input. -/
def growRightWrong : ChangeSpec := { name := "growRight", fn := fun _ => fun
  | [d1, d2, d3, d4, d5, d6, d7, d8, d9, d10] => { results := [.lit (.bool false)], args := [d1, d2, d3, d4, d5, d6, d7, d8, d9, d10] }
  | _ => none }
def GrowRightWrongFalsely : Prop := growRightRow.holds Tryz.pinned (OpenSpec.ofChange growRightWrong)

/- THE SECOND FORM. 'bulk': how many values and letters a reading holds, each counted each time it is reached (what is shared counts as often as it is met; a slice's spare places count too). A statement '..UptoSaid' is the law's where the arguments, and the package variables that the reading takes, are together of bulk at most 1048576: NARROWER than '..Said'. Prove '..Said' where nothing that the law and all that it calls make is longer than what came in: it says more and counts as full. Else prove '..UptoSaid'. A law counts once. -/
mutual
def uptoBulk {H : Type} : DataW H → Nat
  | .lit (.string bytes) => bytes.length + 1
  | .lit _ => 1
  | .nil => 1
  | .ptr d => uptoBulk d + 1
  | .slice elems spare => uptoBulkAll elems + uptoBulkAll spare + 1
  | .agg parts => uptoBulkAll parts + 1
  | .iface _ d => uptoBulk d + 1
  | .map entries => uptoBulkEntries entries + 1
  | .held _ => 1
def uptoBulkAll {H : Type} : List (DataW H) → Nat
  | [] => 0
  | d :: r => uptoBulk d + uptoBulkAll r
def uptoBulkEntries {H : Type} : List (Lit × DataW H) → Nat
  | [] => 0
  | x :: r => uptoBulkEntry x + uptoBulkEntries r
def uptoBulkEntry {H : Type} : Lit × DataW H → Nat
  | (.string bytes, d) => bytes.length + uptoBulk d + 1
  | (_, d) => uptoBulk d + 1
 end
def uptoSmall : (H : Type) → List (DataW H) → Bool := fun _ ds => decide (uptoBulkAll ds ≤ 1048576)
def OpenSpec.upto (s : _root_.Go.ChangeSpec) : _root_.Go.OpenSpec := { _root_.Go.OpenSpec.ofChange s with cond := some uptoSmall }

/-- 'instarlaw17.WorldRight', WHERE WHAT IT READS IS OF BULK AT MOST 1048576: true; the input reads as it did. -/
def worldRightUptoRow : OpenClaim := { program := "ytciccajdpmahiaagreatdoor", sum := "c3dd2f6c469eba027379ad33a9e0283c87a141c1097ae8c40fd8736a41cd4ac5", func := "instar/instarlaw17.WorldRight", spec := "worldRight", inPlace := ["internal/bytealg.IndexByteString", "internal/bytealg.IndexString"], unfollowed := true, recurses := true, named := ["internal/bytealg.MaxLen", "strings.asciiSpace", "unicode.White_Space"], apart := false, laid := [("unicode.White_Space", laid_unicode_White_Space), ("strings.asciiSpace", laid_strings_asciiSpace)], narrowed := true }
def WorldRightUptoSaid : Prop := worldRightUptoRow.holds Tryz.pinned (OpenSpec.upto worldRightSpec)

/-- 'instarlaw17.WorldTells', WHERE WHAT IT READS IS OF BULK AT MOST 1048576: true; the input reads as it did. -/
def worldTellsUptoRow : OpenClaim := { program := "ytciccajdpmahiaagreatdoor", sum := "c3dd2f6c469eba027379ad33a9e0283c87a141c1097ae8c40fd8736a41cd4ac5", func := "instar/instarlaw17.WorldTells", spec := "worldTells", inPlace := ["internal/bytealg.IndexByteString", "internal/bytealg.IndexString"], unfollowed := true, recurses := true, named := ["internal/bytealg.MaxLen", "strings.asciiSpace", "unicode.White_Space"], apart := false, laid := [("unicode.White_Space", laid_unicode_White_Space), ("strings.asciiSpace", laid_strings_asciiSpace)], narrowed := true }
def WorldTellsUptoSaid : Prop := worldTellsUptoRow.holds Tryz.pinned (OpenSpec.upto worldTellsSpec)

/-- 'instarlaw17.WorldEnlists', WHERE WHAT IT READS IS OF BULK AT MOST 1048576: true; the input reads as it did. -/
def worldEnlistsUptoRow : OpenClaim := { program := "ytciccajdpmahiaagreatdoor", sum := "c3dd2f6c469eba027379ad33a9e0283c87a141c1097ae8c40fd8736a41cd4ac5", func := "instar/instarlaw17.WorldEnlists", spec := "worldEnlists", inPlace := ["internal/bytealg.IndexByteString", "internal/bytealg.IndexString"], unfollowed := true, recurses := true, named := ["internal/bytealg.MaxLen", "strings.asciiSpace", "unicode.White_Space"], apart := false, laid := [("unicode.White_Space", laid_unicode_White_Space), ("strings.asciiSpace", laid_strings_asciiSpace)], narrowed := true }
def WorldEnlistsUptoSaid : Prop := worldEnlistsUptoRow.holds Tryz.pinned (OpenSpec.upto worldEnlistsSpec)

/-- 'instarlaw17.WorldAgain', WHERE WHAT IT READS IS OF BULK AT MOST 1048576: true; the input reads as it did. -/
def worldAgainUptoRow : OpenClaim := { program := "ytciccajdpmahiaagreatdoor", sum := "c3dd2f6c469eba027379ad33a9e0283c87a141c1097ae8c40fd8736a41cd4ac5", func := "instar/instarlaw17.WorldAgain", spec := "worldAgain", inPlace := ["internal/bytealg.IndexByteString", "internal/bytealg.IndexString"], unfollowed := true, recurses := true, named := ["internal/bytealg.MaxLen", "strings.asciiSpace", "unicode.White_Space"], apart := false, laid := [("unicode.White_Space", laid_unicode_White_Space), ("strings.asciiSpace", laid_strings_asciiSpace)], narrowed := true }
def WorldAgainUptoSaid : Prop := worldAgainUptoRow.holds Tryz.pinned (OpenSpec.upto worldAgainSpec)

/-- 'instarlaw17.WorldParts', WHERE WHAT IT READS IS OF BULK AT MOST 1048576: true; the input reads as it did. -/
def worldPartsUptoRow : OpenClaim := { program := "ytciccajdpmahiaagreatdoor", sum := "c3dd2f6c469eba027379ad33a9e0283c87a141c1097ae8c40fd8736a41cd4ac5", func := "instar/instarlaw17.WorldParts", spec := "worldParts", inPlace := ["internal/bytealg.IndexByteString", "internal/bytealg.IndexString"], unfollowed := true, recurses := true, named := ["internal/bytealg.MaxLen", "strings.asciiSpace", "unicode.White_Space"], apart := false, laid := [("unicode.White_Space", laid_unicode_White_Space), ("strings.asciiSpace", laid_strings_asciiSpace)], narrowed := true }
def WorldPartsUptoSaid : Prop := worldPartsUptoRow.holds Tryz.pinned (OpenSpec.upto worldPartsSpec)

/-- 'instarlaw19.GrowStarts', WHERE WHAT IT READS IS OF BULK AT MOST 1048576: true; the input reads as it did. -/
def growStartsUptoRow : OpenClaim := { program := "ytciccajdpmahiaagreatdoor", sum := "c3dd2f6c469eba027379ad33a9e0283c87a141c1097ae8c40fd8736a41cd4ac5", func := "instar/instarlaw19.GrowStarts", spec := "growStarts", inPlace := ["internal/bytealg.IndexByteString", "internal/bytealg.IndexString"], unfollowed := true, recurses := true, named := ["internal/bytealg.MaxLen", "strings.asciiSpace", "unicode.White_Space"], apart := false, laid := [("unicode.White_Space", laid_unicode_White_Space), ("strings.asciiSpace", laid_strings_asciiSpace)], narrowed := true }
def GrowStartsUptoSaid : Prop := growStartsUptoRow.holds Tryz.pinned (OpenSpec.upto growStartsSpec)

/-- 'instarlaw19.GrowTakes', WHERE WHAT IT READS IS OF BULK AT MOST 1048576: true; the input reads as it did. -/
def growTakesUptoRow : OpenClaim := { program := "ytciccajdpmahiaagreatdoor", sum := "c3dd2f6c469eba027379ad33a9e0283c87a141c1097ae8c40fd8736a41cd4ac5", func := "instar/instarlaw19.GrowTakes", spec := "growTakes", inPlace := ["internal/bytealg.IndexByteString", "internal/bytealg.IndexString"], unfollowed := true, recurses := true, named := ["internal/bytealg.MaxLen", "strings.asciiSpace", "unicode.White_Space"], apart := false, laid := [("unicode.White_Space", laid_unicode_White_Space), ("strings.asciiSpace", laid_strings_asciiSpace)], narrowed := true }
def GrowTakesUptoSaid : Prop := growTakesUptoRow.holds Tryz.pinned (OpenSpec.upto growTakesSpec)

/-- 'instarlaw19.GrowNests', WHERE WHAT IT READS IS OF BULK AT MOST 1048576: true; the input reads as it did. -/
def growNestsUptoRow : OpenClaim := { program := "ytciccajdpmahiaagreatdoor", sum := "c3dd2f6c469eba027379ad33a9e0283c87a141c1097ae8c40fd8736a41cd4ac5", func := "instar/instarlaw19.GrowNests", spec := "growNests", inPlace := ["internal/bytealg.IndexByteString", "internal/bytealg.IndexString"], unfollowed := true, recurses := true, named := ["internal/bytealg.MaxLen", "strings.asciiSpace", "unicode.White_Space"], apart := false, laid := [("unicode.White_Space", laid_unicode_White_Space), ("strings.asciiSpace", laid_strings_asciiSpace)], narrowed := true }
def GrowNestsUptoSaid : Prop := growNestsUptoRow.holds Tryz.pinned (OpenSpec.upto growNestsSpec)

/-- 'instarlaw19.GrowBreaks', WHERE WHAT IT READS IS OF BULK AT MOST 1048576: true; the input reads as it did. -/
def growBreaksUptoRow : OpenClaim := { program := "ytciccajdpmahiaagreatdoor", sum := "c3dd2f6c469eba027379ad33a9e0283c87a141c1097ae8c40fd8736a41cd4ac5", func := "instar/instarlaw19.GrowBreaks", spec := "growBreaks", inPlace := ["internal/bytealg.IndexByteString", "internal/bytealg.IndexString"], unfollowed := true, recurses := true, named := ["internal/bytealg.MaxLen", "strings.asciiSpace", "unicode.White_Space"], apart := false, laid := [("unicode.White_Space", laid_unicode_White_Space), ("strings.asciiSpace", laid_strings_asciiSpace)], narrowed := true }
def GrowBreaksUptoSaid : Prop := growBreaksUptoRow.holds Tryz.pinned (OpenSpec.upto growBreaksSpec)

/-- 'instarlaw19.GrowFails', WHERE WHAT IT READS IS OF BULK AT MOST 1048576: true; the input reads as it did. -/
def growFailsUptoRow : OpenClaim := { program := "ytciccajdpmahiaagreatdoor", sum := "c3dd2f6c469eba027379ad33a9e0283c87a141c1097ae8c40fd8736a41cd4ac5", func := "instar/instarlaw19.GrowFails", spec := "growFails", inPlace := ["internal/bytealg.IndexByteString", "internal/bytealg.IndexString"], unfollowed := true, recurses := true, named := ["internal/bytealg.MaxLen", "strings.asciiSpace", "unicode.White_Space"], apart := false, laid := [("unicode.White_Space", laid_unicode_White_Space), ("strings.asciiSpace", laid_strings_asciiSpace)], narrowed := true }
def GrowFailsUptoSaid : Prop := growFailsUptoRow.holds Tryz.pinned (OpenSpec.upto growFailsSpec)

/-- 'instarlaw19.GrowFresh', WHERE WHAT IT READS IS OF BULK AT MOST 1048576: true; the input reads as it did. -/
def growFreshUptoRow : OpenClaim := { program := "ytciccajdpmahiaagreatdoor", sum := "c3dd2f6c469eba027379ad33a9e0283c87a141c1097ae8c40fd8736a41cd4ac5", func := "instar/instarlaw19.GrowFresh", spec := "growFresh", inPlace := ["internal/bytealg.IndexByteString", "internal/bytealg.IndexString"], unfollowed := true, recurses := true, named := ["internal/bytealg.MaxLen", "strings.asciiSpace", "unicode.White_Space"], apart := false, laid := [("unicode.White_Space", laid_unicode_White_Space), ("strings.asciiSpace", laid_strings_asciiSpace)], narrowed := true }
def GrowFreshUptoSaid : Prop := growFreshUptoRow.holds Tryz.pinned (OpenSpec.upto growFreshSpec)

/-- 'instarlaw19.GrowRight', WHERE WHAT IT READS IS OF BULK AT MOST 1048576: true; the input reads as it did. -/
def growRightUptoRow : OpenClaim := { program := "ytciccajdpmahiaagreatdoor", sum := "c3dd2f6c469eba027379ad33a9e0283c87a141c1097ae8c40fd8736a41cd4ac5", func := "instar/instarlaw19.GrowRight", spec := "growRight", inPlace := ["internal/bytealg.IndexByteString", "internal/bytealg.IndexString"], unfollowed := true, recurses := true, named := ["internal/bytealg.MaxLen", "strings.asciiSpace", "unicode.White_Space"], apart := false, laid := [("unicode.White_Space", laid_unicode_White_Space), ("strings.asciiSpace", laid_strings_asciiSpace)], narrowed := true }
def GrowRightUptoSaid : Prop := growRightUptoRow.holds Tryz.pinned (OpenSpec.upto growRightSpec)

end Rows
end Go.Proofs.YtciccajdpmahiaaGreatDoor
