/-
  NARROWER THAN 'FOR EVERY INPUT', by the rows' own cells (each row's printed sentence says how): RecordFields: laid · LiftSteps: laid · LiftEach: laid · RecordOwn: laid · LiftBack: laid · LiftLoss: laid · RecordPlays: laid · RecordLater: laid · LiftLent: laid · LiftChain: laid · LiftOwn: laid · LiftAgain: laid · LiftEmpty: laid · LiftUps: laid · LiftDowns: laid · LiftLists: laid · LiftPlays: laid · RecordChecks: laid · RecordWrites: laid · RecordReads: laid · RecordOneWay: laid · RecordBack: laid · RecordGrow: laid · RecordAgain: laid.
  DERIVED. THE GIVEN ROWS OF THIS SEAT. 24 by the template 'for every input the law returns true; each argument reads behind the call as it read before'; 0 by the template 'total and deterministic' (their statements: YtjhiohjpkdjkoaaDoorTotals.lean).
  GIVEN WITH THE SEED: the statements are not yours to turn. If you find one false, say at which input.
  Laid BY PROGRAM, IN A SANDBOX (cutbox-rows.mjs): the forced cells as the released guide's own fill.sh prints them over the translation 246321d976874fad… (all of the seat's roots in one cut). By AI agents, Wed Nov 11 2026. No macro, syntax, notation, axiom, sorry.
-/
import Derived.Test.YtjhiohjpkdjkoaaDoorChecked
import GoSem.PinnedTables
import GoSem.Claim
import GoSem.ClaimJoined
import GoSem.ClaimMapViews
import Derived.JoinedTies
import Derived.KernelRfl
namespace Go.Proofs.YtjhiohjpkdjkoaaDoor
/- THE CELL 'sum', in the pinned program and in every row, IS THE sha256 OF THE DUMP (.gsa) THAT YtjhiohjpkdjkoaaDoorProg.lean LOADS. Nothing in Lean hashes anything: it is a label: what it is worth is what the hold of that sum in a sandbox is worth. -/
noncomputable def Tryd.pinned : Pinned := { name := "ytjhiohjpkdjkoaadoor", sum := "246321d976874fadb9efaf0dbb3e2045c6eaf8b67091c7df6c7847f8c0e4645e", checked := Tryd.checked }
namespace Rows
def none {H : Type} : Left H := { results := [], args := [] }

/- WHAT THE LISTED PACKAGE-LEVEL VARIABLES READ AS WHEN THE CALL BEGINS. Each datum BY PROGRAM (the guide's laid-datum.mjs) off the statement by which the dump's own 'gosem.cut.vars' lays the variable. In a bare row this is a premise. The card (YtjhiohjpkdjkoaaDoorCards.lean) ties it to the program's text. -/
def laid_annals_annalsref3_rows {H : Type} : DataW H := .agg [.agg [.lit (.string [97, 98, 99, 107]), .lit (.string [97, 98, 101, 104, 106, 107]), .lit (.string [97, 98, 101, 104, 105, 106, 107])], .agg [.lit (.string [97, 98, 99]), .lit (.string [97, 98, 99, 100, 101]), .lit (.string [97, 98, 99, 100, 101])], .agg [.lit (.string [97, 98, 99, 107]), .lit (.string [97, 98, 99, 101, 107]), .lit (.string [97, 98, 99, 101, 107])], .agg [.lit (.string [97, 98, 99, 107]), .lit (.string [97, 98, 99, 101, 102, 107]), .lit (.string [97, 98, 99, 101, 102, 103, 107])], .agg [.lit (.string [97, 98, 99]), .lit (.string [97, 98, 99, 100, 101]), .lit (.string [97, 98, 99, 100, 101])], .agg [.lit (.string [97, 98, 99, 107]), .lit (.string [97, 98, 99, 101, 107]), .lit (.string [97, 98, 99, 101, 107])], .agg [.lit (.string [97, 98]), .lit (.string [97, 98, 101]), .lit (.string [97, 98, 101, 103])]]
def laid_annals_record_may {H : Type} : DataW H := .agg [.agg [.lit (.int .u16 2062), .lit (.int .u16 14), .lit (.int .u16 2062), .lit (.int .u16 2062), .lit (.int .u16 14), .lit (.int .u16 2062), .lit (.int .u16 6)], .agg [.lit (.int .u16 3366), .lit (.int .u16 62), .lit (.int .u16 2094), .lit (.int .u16 2158), .lit (.int .u16 62), .lit (.int .u16 2094), .lit (.int .u16 38)], .agg [.lit (.int .u16 3878), .lit (.int .u16 62), .lit (.int .u16 2094), .lit (.int .u16 2286), .lit (.int .u16 62), .lit (.int .u16 2094), .lit (.int .u16 166)]]
def laid_annals_lift_ways {H : Type} : DataW H := .agg [.agg [.lit (.int .i64 1), .lit (.int .i64 2), .lit (.string [49, 116, 111, 50])], .agg [.lit (.int .i64 2), .lit (.int .i64 3), .lit (.string [50, 116, 111, 51])], .agg [.lit (.int .i64 3), .lit (.int .i64 2), .lit (.string [51, 116, 111, 50])], .agg [.lit (.int .i64 2), .lit (.int .i64 1), .lit (.string [50, 116, 111, 49])]]
def laid_unicode_utf8_acceptRanges {H : Type} : DataW H := .agg [.agg [.lit (.int .u8 128), .lit (.int .u8 191)], .agg [.lit (.int .u8 160), .lit (.int .u8 191)], .agg [.lit (.int .u8 128), .lit (.int .u8 159)], .agg [.lit (.int .u8 144), .lit (.int .u8 191)], .agg [.lit (.int .u8 128), .lit (.int .u8 143)], .agg [.lit (.int .u8 0), .lit (.int .u8 0)], .agg [.lit (.int .u8 0), .lit (.int .u8 0)], .agg [.lit (.int .u8 0), .lit (.int .u8 0)], .agg [.lit (.int .u8 0), .lit (.int .u8 0)], .agg [.lit (.int .u8 0), .lit (.int .u8 0)], .agg [.lit (.int .u8 0), .lit (.int .u8 0)], .agg [.lit (.int .u8 0), .lit (.int .u8 0)], .agg [.lit (.int .u8 0), .lit (.int .u8 0)], .agg [.lit (.int .u8 0), .lit (.int .u8 0)], .agg [.lit (.int .u8 0), .lit (.int .u8 0)], .agg [.lit (.int .u8 0), .lit (.int .u8 0)]]
def laid_annals_text_letters {H : Type} : DataW H := .agg [.agg [.lit (.int .i32 65), .lit (.int .i32 90)], .agg [.lit (.int .i32 97), .lit (.int .i32 122)], .agg [.lit (.int .i32 192), .lit (.int .i32 214)], .agg [.lit (.int .i32 216), .lit (.int .i32 246)], .agg [.lit (.int .i32 248), .lit (.int .i32 383)], .agg [.lit (.int .i32 913), .lit (.int .i32 929)], .agg [.lit (.int .i32 931), .lit (.int .i32 937)], .agg [.lit (.int .i32 940), .lit (.int .i32 974)], .agg [.lit (.int .i32 1024), .lit (.int .i32 1119)], .agg [.lit (.int .i32 1329), .lit (.int .i32 1366)], .agg [.lit (.int .i32 1488), .lit (.int .i32 1514)], .agg [.lit (.int .i32 1569), .lit (.int .i32 1594)], .agg [.lit (.int .i32 1601), .lit (.int .i32 1610)], .agg [.lit (.int .i32 2308), .lit (.int .i32 2361)], .agg [.lit (.int .i32 3585), .lit (.int .i32 3632)], .agg [.lit (.int .i32 4304), .lit (.int .i32 4346)], .agg [.lit (.int .i32 12353), .lit (.int .i32 12438)], .agg [.lit (.int .i32 12449), .lit (.int .i32 12538)], .agg [.lit (.int .i32 19968), .lit (.int .i32 40959)], .agg [.lit (.int .i32 44032), .lit (.int .i32 55203)], .agg [.lit (.int .i32 66560), .lit (.int .i32 66639)], .agg [.lit (.int .i32 131072), .lit (.int .i32 173791)]]
/-- One of Go's own tables, pinned by name: the form's constant. -/
def laid_unicode_utf8_first : DataW Unit := Go.Pinned.utf8First
def laid_annals_annalsref2_letters {H : Type} : DataW H := .agg [.agg [.lit (.int .i64 65), .lit (.int .i64 90)], .agg [.lit (.int .i64 97), .lit (.int .i64 122)], .agg [.lit (.int .i64 192), .lit (.int .i64 214)], .agg [.lit (.int .i64 216), .lit (.int .i64 246)], .agg [.lit (.int .i64 248), .lit (.int .i64 383)], .agg [.lit (.int .i64 913), .lit (.int .i64 929)], .agg [.lit (.int .i64 931), .lit (.int .i64 937)], .agg [.lit (.int .i64 940), .lit (.int .i64 974)], .agg [.lit (.int .i64 1024), .lit (.int .i64 1119)], .agg [.lit (.int .i64 1329), .lit (.int .i64 1366)], .agg [.lit (.int .i64 1488), .lit (.int .i64 1514)], .agg [.lit (.int .i64 1569), .lit (.int .i64 1594)], .agg [.lit (.int .i64 1601), .lit (.int .i64 1610)], .agg [.lit (.int .i64 2308), .lit (.int .i64 2361)], .agg [.lit (.int .i64 3585), .lit (.int .i64 3632)], .agg [.lit (.int .i64 4304), .lit (.int .i64 4346)], .agg [.lit (.int .i64 12353), .lit (.int .i64 12438)], .agg [.lit (.int .i64 12449), .lit (.int .i64 12538)], .agg [.lit (.int .i64 19968), .lit (.int .i64 40959)], .agg [.lit (.int .i64 44032), .lit (.int .i64 55203)], .agg [.lit (.int .i64 66560), .lit (.int .i64 66639)], .agg [.lit (.int .i64 131072), .lit (.int .i64 173791)]]

/-- 'annalslaw3.RecordFields': WHATEVER THE INPUT: true; the input reads as it did. -/
def recordFieldsSpec : ChangeSpec := { name := "recordFields", fn := fun _ => fun
  | [d1, d2] => { results := [.lit (.bool true)], args := [d1, d2] }
  | _ => none }
def recordFieldsRow : OpenClaim := { program := "ytjhiohjpkdjkoaadoor", sum := "246321d976874fadb9efaf0dbb3e2045c6eaf8b67091c7df6c7847f8c0e4645e", func := "annals/annalslaw3.RecordFields", spec := "recordFields", named := ["annals/record.may", "annals/annalsref3.rows"], apart := false, laid := [("annals/annalsref3.rows", laid_annals_annalsref3_rows), ("annals/record.may", laid_annals_record_may)] }
def RecordFieldsSaid : Prop := recordFieldsRow.holds Tryd.pinned (OpenSpec.ofChange recordFieldsSpec)

/-- ITS FALSE NEIGHBOUR: 'it returns false'. Refute it at one input. -/
def recordFieldsWrong : ChangeSpec := { name := "recordFields", fn := fun _ => fun
  | [d1, d2] => { results := [.lit (.bool false)], args := [d1, d2] }
  | _ => none }
def RecordFieldsWrongFalsely : Prop := recordFieldsRow.holds Tryd.pinned (OpenSpec.ofChange recordFieldsWrong)

/-- 'annalslaw4.LiftSteps': WHATEVER THE INPUT: true; the input reads as it did. -/
def liftStepsSpec : ChangeSpec := { name := "liftSteps", fn := fun _ => fun
  | [d1, d2] => { results := [.lit (.bool true)], args := [d1, d2] }
  | _ => none }
def liftStepsRow : OpenClaim := { program := "ytjhiohjpkdjkoaadoor", sum := "246321d976874fadb9efaf0dbb3e2045c6eaf8b67091c7df6c7847f8c0e4645e", func := "annals/annalslaw4.LiftSteps", spec := "liftSteps", named := ["annals/lift.ways"], apart := false, laid := [("annals/lift.ways", laid_annals_lift_ways)] }
def LiftStepsSaid : Prop := liftStepsRow.holds Tryd.pinned (OpenSpec.ofChange liftStepsSpec)

/-- ITS FALSE NEIGHBOUR: 'it returns false'. Refute it at one input. -/
def liftStepsWrong : ChangeSpec := { name := "liftSteps", fn := fun _ => fun
  | [d1, d2] => { results := [.lit (.bool false)], args := [d1, d2] }
  | _ => none }
def LiftStepsWrongFalsely : Prop := liftStepsRow.holds Tryd.pinned (OpenSpec.ofChange liftStepsWrong)

/-- 'annalslaw4.LiftEach': WHATEVER THE INPUT: true; the input reads as it did. -/
def liftEachSpec : ChangeSpec := { name := "liftEach", fn := fun _ => fun
  | [d1, d2] => { results := [.lit (.bool true)], args := [d1, d2] }
  | _ => none }
def liftEachRow : OpenClaim := { program := "ytjhiohjpkdjkoaadoor", sum := "246321d976874fadb9efaf0dbb3e2045c6eaf8b67091c7df6c7847f8c0e4645e", func := "annals/annalslaw4.LiftEach", spec := "liftEach", unfollowed := true, recurses := true, named := ["annals/record.may", "unicode/utf8.first", "unicode/utf8.acceptRanges", "annals/text.letters", "annals/lift.ways"], apart := false, laid := [("unicode/utf8.acceptRanges", laid_unicode_utf8_acceptRanges), ("annals/text.letters", laid_annals_text_letters), ("annals/record.may", laid_annals_record_may), ("annals/lift.ways", laid_annals_lift_ways), ("unicode/utf8.first", laid_unicode_utf8_first)] }
def LiftEachSaid : Prop := liftEachRow.holds Tryd.pinned (OpenSpec.ofChange liftEachSpec)

/-- ITS FALSE NEIGHBOUR: 'it returns false'. Refute it at one input. -/
def liftEachWrong : ChangeSpec := { name := "liftEach", fn := fun _ => fun
  | [d1, d2] => { results := [.lit (.bool false)], args := [d1, d2] }
  | _ => none }
def LiftEachWrongFalsely : Prop := liftEachRow.holds Tryd.pinned (OpenSpec.ofChange liftEachWrong)

/-- 'annalslaw3.RecordOwn': WHATEVER THE INPUT: true; the input reads as it did. -/
def recordOwnSpec : ChangeSpec := { name := "recordOwn", fn := fun _ => fun
  | [d] => { results := [.lit (.bool true)], args := [d] }
  | _ => none }
def recordOwnRow : OpenClaim := { program := "ytjhiohjpkdjkoaadoor", sum := "246321d976874fadb9efaf0dbb3e2045c6eaf8b67091c7df6c7847f8c0e4645e", func := "annals/annalslaw3.RecordOwn", spec := "recordOwn", named := ["annals/record.may", "unicode/utf8.first", "unicode/utf8.acceptRanges", "annals/text.letters"], apart := false, laid := [("unicode/utf8.acceptRanges", laid_unicode_utf8_acceptRanges), ("annals/text.letters", laid_annals_text_letters), ("annals/record.may", laid_annals_record_may), ("unicode/utf8.first", laid_unicode_utf8_first)] }
def RecordOwnSaid : Prop := recordOwnRow.holds Tryd.pinned (OpenSpec.ofChange recordOwnSpec)

/-- ITS FALSE NEIGHBOUR: 'it returns false'. Refute it at one input. -/
def recordOwnWrong : ChangeSpec := { name := "recordOwn", fn := fun _ => fun
  | [d] => { results := [.lit (.bool false)], args := [d] }
  | _ => none }
def RecordOwnWrongFalsely : Prop := recordOwnRow.holds Tryd.pinned (OpenSpec.ofChange recordOwnWrong)

/-- 'annalslaw4.LiftBack': WHATEVER THE INPUT: true; the input reads as it did. -/
def liftBackSpec : ChangeSpec := { name := "liftBack", fn := fun _ => fun
  | [d1, d2, d3] => { results := [.lit (.bool true)], args := [d1, d2, d3] }
  | _ => none }
def liftBackRow : OpenClaim := { program := "ytjhiohjpkdjkoaadoor", sum := "246321d976874fadb9efaf0dbb3e2045c6eaf8b67091c7df6c7847f8c0e4645e", func := "annals/annalslaw4.LiftBack", spec := "liftBack", unfollowed := true, recurses := true, named := ["annals/record.may", "unicode/utf8.first", "unicode/utf8.acceptRanges", "annals/text.letters", "annals/lift.ways", "annals/annalsref3.rows", "annals/annalsref2.letters"], apart := false, laid := [("unicode/utf8.acceptRanges", laid_unicode_utf8_acceptRanges), ("annals/annalsref2.letters", laid_annals_annalsref2_letters), ("annals/annalsref3.rows", laid_annals_annalsref3_rows), ("annals/text.letters", laid_annals_text_letters), ("annals/record.may", laid_annals_record_may), ("annals/lift.ways", laid_annals_lift_ways), ("unicode/utf8.first", laid_unicode_utf8_first)] }
def LiftBackSaid : Prop := liftBackRow.holds Tryd.pinned (OpenSpec.ofChange liftBackSpec)

/-- ITS FALSE NEIGHBOUR: 'it returns false'. Refute it at one input. -/
def liftBackWrong : ChangeSpec := { name := "liftBack", fn := fun _ => fun
  | [d1, d2, d3] => { results := [.lit (.bool false)], args := [d1, d2, d3] }
  | _ => none }
def LiftBackWrongFalsely : Prop := liftBackRow.holds Tryd.pinned (OpenSpec.ofChange liftBackWrong)

/-- 'annalslaw4.LiftLoss': WHATEVER THE INPUT: true; the input reads as it did. -/
def liftLossSpec : ChangeSpec := { name := "liftLoss", fn := fun _ => fun
  | [d1, d2, d3] => { results := [.lit (.bool true)], args := [d1, d2, d3] }
  | _ => none }
def liftLossRow : OpenClaim := { program := "ytjhiohjpkdjkoaadoor", sum := "246321d976874fadb9efaf0dbb3e2045c6eaf8b67091c7df6c7847f8c0e4645e", func := "annals/annalslaw4.LiftLoss", spec := "liftLoss", unfollowed := true, recurses := true, named := ["annals/record.may", "unicode/utf8.first", "unicode/utf8.acceptRanges", "annals/text.letters", "annals/lift.ways", "annals/annalsref3.rows", "annals/annalsref2.letters"], apart := false, laid := [("unicode/utf8.acceptRanges", laid_unicode_utf8_acceptRanges), ("annals/annalsref2.letters", laid_annals_annalsref2_letters), ("annals/annalsref3.rows", laid_annals_annalsref3_rows), ("annals/text.letters", laid_annals_text_letters), ("annals/record.may", laid_annals_record_may), ("annals/lift.ways", laid_annals_lift_ways), ("unicode/utf8.first", laid_unicode_utf8_first)] }
def LiftLossSaid : Prop := liftLossRow.holds Tryd.pinned (OpenSpec.ofChange liftLossSpec)

/-- ITS FALSE NEIGHBOUR: 'it returns false'. Refute it at one input. -/
def liftLossWrong : ChangeSpec := { name := "liftLoss", fn := fun _ => fun
  | [d1, d2, d3] => { results := [.lit (.bool false)], args := [d1, d2, d3] }
  | _ => none }
def LiftLossWrongFalsely : Prop := liftLossRow.holds Tryd.pinned (OpenSpec.ofChange liftLossWrong)

/-- 'annalslaw3.RecordPlays': WHATEVER THE INPUT: true; the input reads as it did. -/
def recordPlaysSpec : ChangeSpec := { name := "recordPlays", fn := fun _ => fun
  | [d] => { results := [.lit (.bool true)], args := [d] }
  | _ => none }
def recordPlaysRow : OpenClaim := { program := "ytjhiohjpkdjkoaadoor", sum := "246321d976874fadb9efaf0dbb3e2045c6eaf8b67091c7df6c7847f8c0e4645e", func := "annals/annalslaw3.RecordPlays", spec := "recordPlays", named := ["annals/record.may", "unicode/utf8.first", "unicode/utf8.acceptRanges", "annals/text.letters", "annals/annalsref3.rows", "annals/annalsref2.letters"], apart := false, laid := [("unicode/utf8.acceptRanges", laid_unicode_utf8_acceptRanges), ("annals/annalsref2.letters", laid_annals_annalsref2_letters), ("annals/annalsref3.rows", laid_annals_annalsref3_rows), ("annals/text.letters", laid_annals_text_letters), ("annals/record.may", laid_annals_record_may), ("unicode/utf8.first", laid_unicode_utf8_first)] }
def RecordPlaysSaid : Prop := recordPlaysRow.holds Tryd.pinned (OpenSpec.ofChange recordPlaysSpec)

/-- ITS FALSE NEIGHBOUR: 'it returns false'. Refute it at one input. -/
def recordPlaysWrong : ChangeSpec := { name := "recordPlays", fn := fun _ => fun
  | [d] => { results := [.lit (.bool false)], args := [d] }
  | _ => none }
def RecordPlaysWrongFalsely : Prop := recordPlaysRow.holds Tryd.pinned (OpenSpec.ofChange recordPlaysWrong)

/-- 'annalslaw3.RecordLater': WHATEVER THE INPUT: true; the input reads as it did. -/
def recordLaterSpec : ChangeSpec := { name := "recordLater", fn := fun _ => fun
  | [d] => { results := [.lit (.bool true)], args := [d] }
  | _ => none }
def recordLaterRow : OpenClaim := { program := "ytjhiohjpkdjkoaadoor", sum := "246321d976874fadb9efaf0dbb3e2045c6eaf8b67091c7df6c7847f8c0e4645e", func := "annals/annalslaw3.RecordLater", spec := "recordLater", named := ["annals/record.may", "unicode/utf8.first", "unicode/utf8.acceptRanges", "annals/text.letters"], apart := false, laid := [("unicode/utf8.acceptRanges", laid_unicode_utf8_acceptRanges), ("annals/text.letters", laid_annals_text_letters), ("annals/record.may", laid_annals_record_may), ("unicode/utf8.first", laid_unicode_utf8_first)] }
def RecordLaterSaid : Prop := recordLaterRow.holds Tryd.pinned (OpenSpec.ofChange recordLaterSpec)

/-- ITS FALSE NEIGHBOUR: 'it returns false'. Refute it at one input. -/
def recordLaterWrong : ChangeSpec := { name := "recordLater", fn := fun _ => fun
  | [d] => { results := [.lit (.bool false)], args := [d] }
  | _ => none }
def RecordLaterWrongFalsely : Prop := recordLaterRow.holds Tryd.pinned (OpenSpec.ofChange recordLaterWrong)

/-- 'annalslaw4.LiftLent': WHATEVER THE INPUT: true; the input reads as it did. -/
def liftLentSpec : ChangeSpec := { name := "liftLent", fn := fun _ => fun
  | [d1, d2] => { results := [.lit (.bool true)], args := [d1, d2] }
  | _ => none }
def liftLentRow : OpenClaim := { program := "ytjhiohjpkdjkoaadoor", sum := "246321d976874fadb9efaf0dbb3e2045c6eaf8b67091c7df6c7847f8c0e4645e", func := "annals/annalslaw4.LiftLent", spec := "liftLent", unfollowed := true, recurses := true, named := ["annals/lift.ways", "annals/annalsref3.rows", "annals/annalsref2.letters", "annals/record.may", "unicode/utf8.first", "unicode/utf8.acceptRanges", "annals/text.letters"], apart := false, laid := [("unicode/utf8.acceptRanges", laid_unicode_utf8_acceptRanges), ("annals/annalsref2.letters", laid_annals_annalsref2_letters), ("annals/annalsref3.rows", laid_annals_annalsref3_rows), ("annals/text.letters", laid_annals_text_letters), ("annals/record.may", laid_annals_record_may), ("annals/lift.ways", laid_annals_lift_ways), ("unicode/utf8.first", laid_unicode_utf8_first)] }
def LiftLentSaid : Prop := liftLentRow.holds Tryd.pinned (OpenSpec.ofChange liftLentSpec)

/-- ITS FALSE NEIGHBOUR: 'it returns false'. Refute it at one input. -/
def liftLentWrong : ChangeSpec := { name := "liftLent", fn := fun _ => fun
  | [d1, d2] => { results := [.lit (.bool false)], args := [d1, d2] }
  | _ => none }
def LiftLentWrongFalsely : Prop := liftLentRow.holds Tryd.pinned (OpenSpec.ofChange liftLentWrong)

/-- 'annalslaw4.LiftChain': WHATEVER THE INPUT: true; the input reads as it did. -/
def liftChainSpec : ChangeSpec := { name := "liftChain", fn := fun _ => fun
  | [d] => { results := [.lit (.bool true)], args := [d] }
  | _ => none }
def liftChainRow : OpenClaim := { program := "ytjhiohjpkdjkoaadoor", sum := "246321d976874fadb9efaf0dbb3e2045c6eaf8b67091c7df6c7847f8c0e4645e", func := "annals/annalslaw4.LiftChain", spec := "liftChain", unfollowed := true, recurses := true, named := ["annals/record.may", "unicode/utf8.first", "unicode/utf8.acceptRanges", "annals/text.letters", "annals/lift.ways", "annals/annalsref3.rows", "annals/annalsref2.letters"], apart := false, laid := [("unicode/utf8.acceptRanges", laid_unicode_utf8_acceptRanges), ("annals/annalsref2.letters", laid_annals_annalsref2_letters), ("annals/annalsref3.rows", laid_annals_annalsref3_rows), ("annals/text.letters", laid_annals_text_letters), ("annals/record.may", laid_annals_record_may), ("annals/lift.ways", laid_annals_lift_ways), ("unicode/utf8.first", laid_unicode_utf8_first)] }
def LiftChainSaid : Prop := liftChainRow.holds Tryd.pinned (OpenSpec.ofChange liftChainSpec)

/-- ITS FALSE NEIGHBOUR: 'it returns false'. Refute it at one input. -/
def liftChainWrong : ChangeSpec := { name := "liftChain", fn := fun _ => fun
  | [d] => { results := [.lit (.bool false)], args := [d] }
  | _ => none }
def LiftChainWrongFalsely : Prop := liftChainRow.holds Tryd.pinned (OpenSpec.ofChange liftChainWrong)

/-- 'annalslaw4.LiftOwn': WHATEVER THE INPUT: true; the input reads as it did. -/
def liftOwnSpec : ChangeSpec := { name := "liftOwn", fn := fun _ => fun
  | [d1, d2] => { results := [.lit (.bool true)], args := [d1, d2] }
  | _ => none }
def liftOwnRow : OpenClaim := { program := "ytjhiohjpkdjkoaadoor", sum := "246321d976874fadb9efaf0dbb3e2045c6eaf8b67091c7df6c7847f8c0e4645e", func := "annals/annalslaw4.LiftOwn", spec := "liftOwn", unfollowed := true, recurses := true, named := ["annals/record.may", "unicode/utf8.first", "unicode/utf8.acceptRanges", "annals/text.letters", "annals/lift.ways"], apart := false, laid := [("unicode/utf8.acceptRanges", laid_unicode_utf8_acceptRanges), ("annals/text.letters", laid_annals_text_letters), ("annals/record.may", laid_annals_record_may), ("annals/lift.ways", laid_annals_lift_ways), ("unicode/utf8.first", laid_unicode_utf8_first)] }
def LiftOwnSaid : Prop := liftOwnRow.holds Tryd.pinned (OpenSpec.ofChange liftOwnSpec)

/-- ITS FALSE NEIGHBOUR: 'it returns false'. Refute it at one input. -/
def liftOwnWrong : ChangeSpec := { name := "liftOwn", fn := fun _ => fun
  | [d1, d2] => { results := [.lit (.bool false)], args := [d1, d2] }
  | _ => none }
def LiftOwnWrongFalsely : Prop := liftOwnRow.holds Tryd.pinned (OpenSpec.ofChange liftOwnWrong)

/-- 'annalslaw4.LiftAgain': WHATEVER THE INPUT: true; the input reads as it did. -/
def liftAgainSpec : ChangeSpec := { name := "liftAgain", fn := fun _ => fun
  | [d1, d2, d3] => { results := [.lit (.bool true)], args := [d1, d2, d3] }
  | _ => none }
def liftAgainRow : OpenClaim := { program := "ytjhiohjpkdjkoaadoor", sum := "246321d976874fadb9efaf0dbb3e2045c6eaf8b67091c7df6c7847f8c0e4645e", func := "annals/annalslaw4.LiftAgain", spec := "liftAgain", unfollowed := true, recurses := true, named := ["annals/record.may", "unicode/utf8.first", "unicode/utf8.acceptRanges", "annals/text.letters", "annals/lift.ways", "annals/annalsref3.rows", "annals/annalsref2.letters"], apart := false, laid := [("unicode/utf8.acceptRanges", laid_unicode_utf8_acceptRanges), ("annals/annalsref2.letters", laid_annals_annalsref2_letters), ("annals/annalsref3.rows", laid_annals_annalsref3_rows), ("annals/text.letters", laid_annals_text_letters), ("annals/record.may", laid_annals_record_may), ("annals/lift.ways", laid_annals_lift_ways), ("unicode/utf8.first", laid_unicode_utf8_first)] }
def LiftAgainSaid : Prop := liftAgainRow.holds Tryd.pinned (OpenSpec.ofChange liftAgainSpec)

/-- ITS FALSE NEIGHBOUR: 'it returns false'. Refute it at one input. -/
def liftAgainWrong : ChangeSpec := { name := "liftAgain", fn := fun _ => fun
  | [d1, d2, d3] => { results := [.lit (.bool false)], args := [d1, d2, d3] }
  | _ => none }
def LiftAgainWrongFalsely : Prop := liftAgainRow.holds Tryd.pinned (OpenSpec.ofChange liftAgainWrong)

/-- 'annalslaw4.LiftEmpty': WHATEVER THE INPUT: true; the input reads as it did. -/
def liftEmptySpec : ChangeSpec := { name := "liftEmpty", fn := fun _ => fun
  | [d1, d2] => { results := [.lit (.bool true)], args := [d1, d2] }
  | _ => none }
def liftEmptyRow : OpenClaim := { program := "ytjhiohjpkdjkoaadoor", sum := "246321d976874fadb9efaf0dbb3e2045c6eaf8b67091c7df6c7847f8c0e4645e", func := "annals/annalslaw4.LiftEmpty", spec := "liftEmpty", unfollowed := true, recurses := true, named := ["annals/record.may", "unicode/utf8.first", "unicode/utf8.acceptRanges", "annals/text.letters", "annals/lift.ways"], apart := false, laid := [("unicode/utf8.acceptRanges", laid_unicode_utf8_acceptRanges), ("annals/text.letters", laid_annals_text_letters), ("annals/record.may", laid_annals_record_may), ("annals/lift.ways", laid_annals_lift_ways), ("unicode/utf8.first", laid_unicode_utf8_first)] }
def LiftEmptySaid : Prop := liftEmptyRow.holds Tryd.pinned (OpenSpec.ofChange liftEmptySpec)

/-- ITS FALSE NEIGHBOUR: 'it returns false'. Refute it at one input. -/
def liftEmptyWrong : ChangeSpec := { name := "liftEmpty", fn := fun _ => fun
  | [d1, d2] => { results := [.lit (.bool false)], args := [d1, d2] }
  | _ => none }
def LiftEmptyWrongFalsely : Prop := liftEmptyRow.holds Tryd.pinned (OpenSpec.ofChange liftEmptyWrong)

/-- 'annalslaw4.LiftUps': WHATEVER THE INPUT: true; the input reads as it did. -/
def liftUpsSpec : ChangeSpec := { name := "liftUps", fn := fun _ => fun
  | [d] => { results := [.lit (.bool true)], args := [d] }
  | _ => none }
def liftUpsRow : OpenClaim := { program := "ytjhiohjpkdjkoaadoor", sum := "246321d976874fadb9efaf0dbb3e2045c6eaf8b67091c7df6c7847f8c0e4645e", func := "annals/annalslaw4.LiftUps", spec := "liftUps", unfollowed := true, recurses := true, named := ["annals/record.may", "unicode/utf8.first", "unicode/utf8.acceptRanges", "annals/text.letters", "annals/lift.ways", "annals/annalsref3.rows", "annals/annalsref2.letters"], apart := false, laid := [("unicode/utf8.acceptRanges", laid_unicode_utf8_acceptRanges), ("annals/annalsref2.letters", laid_annals_annalsref2_letters), ("annals/annalsref3.rows", laid_annals_annalsref3_rows), ("annals/text.letters", laid_annals_text_letters), ("annals/record.may", laid_annals_record_may), ("annals/lift.ways", laid_annals_lift_ways), ("unicode/utf8.first", laid_unicode_utf8_first)] }
def LiftUpsSaid : Prop := liftUpsRow.holds Tryd.pinned (OpenSpec.ofChange liftUpsSpec)

/-- ITS FALSE NEIGHBOUR: 'it returns false'. Refute it at one input. -/
def liftUpsWrong : ChangeSpec := { name := "liftUps", fn := fun _ => fun
  | [d] => { results := [.lit (.bool false)], args := [d] }
  | _ => none }
def LiftUpsWrongFalsely : Prop := liftUpsRow.holds Tryd.pinned (OpenSpec.ofChange liftUpsWrong)

/-- 'annalslaw4.LiftDowns': WHATEVER THE INPUT: true; the input reads as it did. -/
def liftDownsSpec : ChangeSpec := { name := "liftDowns", fn := fun _ => fun
  | [d] => { results := [.lit (.bool true)], args := [d] }
  | _ => none }
def liftDownsRow : OpenClaim := { program := "ytjhiohjpkdjkoaadoor", sum := "246321d976874fadb9efaf0dbb3e2045c6eaf8b67091c7df6c7847f8c0e4645e", func := "annals/annalslaw4.LiftDowns", spec := "liftDowns", unfollowed := true, recurses := true, named := ["annals/record.may", "unicode/utf8.first", "unicode/utf8.acceptRanges", "annals/text.letters", "annals/lift.ways", "annals/annalsref3.rows", "annals/annalsref2.letters"], apart := false, laid := [("unicode/utf8.acceptRanges", laid_unicode_utf8_acceptRanges), ("annals/annalsref2.letters", laid_annals_annalsref2_letters), ("annals/annalsref3.rows", laid_annals_annalsref3_rows), ("annals/text.letters", laid_annals_text_letters), ("annals/record.may", laid_annals_record_may), ("annals/lift.ways", laid_annals_lift_ways), ("unicode/utf8.first", laid_unicode_utf8_first)] }
def LiftDownsSaid : Prop := liftDownsRow.holds Tryd.pinned (OpenSpec.ofChange liftDownsSpec)

/-- ITS FALSE NEIGHBOUR: 'it returns false'. Refute it at one input. -/
def liftDownsWrong : ChangeSpec := { name := "liftDowns", fn := fun _ => fun
  | [d] => { results := [.lit (.bool false)], args := [d] }
  | _ => none }
def LiftDownsWrongFalsely : Prop := liftDownsRow.holds Tryd.pinned (OpenSpec.ofChange liftDownsWrong)

/-- 'annalslaw4.LiftLists': WHATEVER THE INPUT: true; the input reads as it did. -/
def liftListsSpec : ChangeSpec := { name := "liftLists", fn := fun _ => fun
  | [d] => { results := [.lit (.bool true)], args := [d] }
  | _ => none }
def liftListsRow : OpenClaim := { program := "ytjhiohjpkdjkoaadoor", sum := "246321d976874fadb9efaf0dbb3e2045c6eaf8b67091c7df6c7847f8c0e4645e", func := "annals/annalslaw4.LiftLists", spec := "liftLists", unfollowed := true, recurses := true, named := ["annals/record.may", "unicode/utf8.first", "unicode/utf8.acceptRanges", "annals/text.letters", "annals/lift.ways", "annals/annalsref3.rows", "annals/annalsref2.letters"], apart := false, laid := [("unicode/utf8.acceptRanges", laid_unicode_utf8_acceptRanges), ("annals/annalsref2.letters", laid_annals_annalsref2_letters), ("annals/annalsref3.rows", laid_annals_annalsref3_rows), ("annals/text.letters", laid_annals_text_letters), ("annals/record.may", laid_annals_record_may), ("annals/lift.ways", laid_annals_lift_ways), ("unicode/utf8.first", laid_unicode_utf8_first)] }
def LiftListsSaid : Prop := liftListsRow.holds Tryd.pinned (OpenSpec.ofChange liftListsSpec)

/-- ITS FALSE NEIGHBOUR: 'it returns false'. Refute it at one input. -/
def liftListsWrong : ChangeSpec := { name := "liftLists", fn := fun _ => fun
  | [d] => { results := [.lit (.bool false)], args := [d] }
  | _ => none }
def LiftListsWrongFalsely : Prop := liftListsRow.holds Tryd.pinned (OpenSpec.ofChange liftListsWrong)

/-- 'annalslaw4.LiftPlays': WHATEVER THE INPUT: true; the input reads as it did. -/
def liftPlaysSpec : ChangeSpec := { name := "liftPlays", fn := fun _ => fun
  | [d] => { results := [.lit (.bool true)], args := [d] }
  | _ => none }
def liftPlaysRow : OpenClaim := { program := "ytjhiohjpkdjkoaadoor", sum := "246321d976874fadb9efaf0dbb3e2045c6eaf8b67091c7df6c7847f8c0e4645e", func := "annals/annalslaw4.LiftPlays", spec := "liftPlays", unfollowed := true, recurses := true, named := ["annals/record.may", "unicode/utf8.first", "unicode/utf8.acceptRanges", "annals/text.letters", "annals/lift.ways", "annals/annalsref3.rows", "annals/annalsref2.letters"], apart := false, laid := [("unicode/utf8.acceptRanges", laid_unicode_utf8_acceptRanges), ("annals/annalsref2.letters", laid_annals_annalsref2_letters), ("annals/annalsref3.rows", laid_annals_annalsref3_rows), ("annals/text.letters", laid_annals_text_letters), ("annals/record.may", laid_annals_record_may), ("annals/lift.ways", laid_annals_lift_ways), ("unicode/utf8.first", laid_unicode_utf8_first)] }
def LiftPlaysSaid : Prop := liftPlaysRow.holds Tryd.pinned (OpenSpec.ofChange liftPlaysSpec)

/-- ITS FALSE NEIGHBOUR: 'it returns false'. Refute it at one input. -/
def liftPlaysWrong : ChangeSpec := { name := "liftPlays", fn := fun _ => fun
  | [d] => { results := [.lit (.bool false)], args := [d] }
  | _ => none }
def LiftPlaysWrongFalsely : Prop := liftPlaysRow.holds Tryd.pinned (OpenSpec.ofChange liftPlaysWrong)

/-- 'annalslaw3.RecordChecks': WHATEVER THE INPUT: true; the input reads as it did. -/
def recordChecksSpec : ChangeSpec := { name := "recordChecks", fn := fun _ => fun
  | [d] => { results := [.lit (.bool true)], args := [d] }
  | _ => none }
def recordChecksRow : OpenClaim := { program := "ytjhiohjpkdjkoaadoor", sum := "246321d976874fadb9efaf0dbb3e2045c6eaf8b67091c7df6c7847f8c0e4645e", func := "annals/annalslaw3.RecordChecks", spec := "recordChecks", named := ["annals/record.may", "unicode/utf8.first", "unicode/utf8.acceptRanges", "annals/text.letters", "annals/annalsref3.rows", "annals/annalsref2.letters"], apart := false, laid := [("unicode/utf8.acceptRanges", laid_unicode_utf8_acceptRanges), ("annals/annalsref2.letters", laid_annals_annalsref2_letters), ("annals/annalsref3.rows", laid_annals_annalsref3_rows), ("annals/text.letters", laid_annals_text_letters), ("annals/record.may", laid_annals_record_may), ("unicode/utf8.first", laid_unicode_utf8_first)] }
def RecordChecksSaid : Prop := recordChecksRow.holds Tryd.pinned (OpenSpec.ofChange recordChecksSpec)

/-- ITS FALSE NEIGHBOUR: 'it returns false'. Refute it at one input. -/
def recordChecksWrong : ChangeSpec := { name := "recordChecks", fn := fun _ => fun
  | [d] => { results := [.lit (.bool false)], args := [d] }
  | _ => none }
def RecordChecksWrongFalsely : Prop := recordChecksRow.holds Tryd.pinned (OpenSpec.ofChange recordChecksWrong)

/-- 'annalslaw3.RecordWrites': WHATEVER THE INPUT: true; the input reads as it did. -/
def recordWritesSpec : ChangeSpec := { name := "recordWrites", fn := fun _ => fun
  | [d] => { results := [.lit (.bool true)], args := [d] }
  | _ => none }
def recordWritesRow : OpenClaim := { program := "ytjhiohjpkdjkoaadoor", sum := "246321d976874fadb9efaf0dbb3e2045c6eaf8b67091c7df6c7847f8c0e4645e", func := "annals/annalslaw3.RecordWrites", spec := "recordWrites", named := ["annals/record.may", "unicode/utf8.first", "unicode/utf8.acceptRanges", "annals/text.letters", "annals/annalsref3.rows", "annals/annalsref2.letters"], apart := false, laid := [("unicode/utf8.acceptRanges", laid_unicode_utf8_acceptRanges), ("annals/annalsref2.letters", laid_annals_annalsref2_letters), ("annals/annalsref3.rows", laid_annals_annalsref3_rows), ("annals/text.letters", laid_annals_text_letters), ("annals/record.may", laid_annals_record_may), ("unicode/utf8.first", laid_unicode_utf8_first)] }
def RecordWritesSaid : Prop := recordWritesRow.holds Tryd.pinned (OpenSpec.ofChange recordWritesSpec)

/-- ITS FALSE NEIGHBOUR: 'it returns false'. Refute it at one input. -/
def recordWritesWrong : ChangeSpec := { name := "recordWrites", fn := fun _ => fun
  | [d] => { results := [.lit (.bool false)], args := [d] }
  | _ => none }
def RecordWritesWrongFalsely : Prop := recordWritesRow.holds Tryd.pinned (OpenSpec.ofChange recordWritesWrong)

/-- 'annalslaw3.RecordReads': WHATEVER THE INPUT: true; the input reads as it did. -/
def recordReadsSpec : ChangeSpec := { name := "recordReads", fn := fun _ => fun
  | [d1, d2] => { results := [.lit (.bool true)], args := [d1, d2] }
  | _ => none }
def recordReadsRow : OpenClaim := { program := "ytjhiohjpkdjkoaadoor", sum := "246321d976874fadb9efaf0dbb3e2045c6eaf8b67091c7df6c7847f8c0e4645e", func := "annals/annalslaw3.RecordReads", spec := "recordReads", named := ["annals/record.may", "unicode/utf8.first", "unicode/utf8.acceptRanges", "annals/text.letters", "annals/annalsref3.rows", "annals/annalsref2.letters"], apart := false, laid := [("unicode/utf8.acceptRanges", laid_unicode_utf8_acceptRanges), ("annals/annalsref2.letters", laid_annals_annalsref2_letters), ("annals/annalsref3.rows", laid_annals_annalsref3_rows), ("annals/text.letters", laid_annals_text_letters), ("annals/record.may", laid_annals_record_may), ("unicode/utf8.first", laid_unicode_utf8_first)] }
def RecordReadsSaid : Prop := recordReadsRow.holds Tryd.pinned (OpenSpec.ofChange recordReadsSpec)

/-- ITS FALSE NEIGHBOUR: 'it returns false'. Refute it at one input. -/
def recordReadsWrong : ChangeSpec := { name := "recordReads", fn := fun _ => fun
  | [d1, d2] => { results := [.lit (.bool false)], args := [d1, d2] }
  | _ => none }
def RecordReadsWrongFalsely : Prop := recordReadsRow.holds Tryd.pinned (OpenSpec.ofChange recordReadsWrong)

/-- 'annalslaw3.RecordOneWay': WHATEVER THE INPUT: true; the input reads as it did. -/
def recordOneWaySpec : ChangeSpec := { name := "recordOneWay", fn := fun _ => fun
  | [d1, d2] => { results := [.lit (.bool true)], args := [d1, d2] }
  | _ => none }
def recordOneWayRow : OpenClaim := { program := "ytjhiohjpkdjkoaadoor", sum := "246321d976874fadb9efaf0dbb3e2045c6eaf8b67091c7df6c7847f8c0e4645e", func := "annals/annalslaw3.RecordOneWay", spec := "recordOneWay", named := ["annals/record.may", "unicode/utf8.first", "unicode/utf8.acceptRanges", "annals/text.letters"], apart := false, laid := [("unicode/utf8.acceptRanges", laid_unicode_utf8_acceptRanges), ("annals/text.letters", laid_annals_text_letters), ("annals/record.may", laid_annals_record_may), ("unicode/utf8.first", laid_unicode_utf8_first)] }
def RecordOneWaySaid : Prop := recordOneWayRow.holds Tryd.pinned (OpenSpec.ofChange recordOneWaySpec)

/-- ITS FALSE NEIGHBOUR: 'it returns false'. Refute it at one input. -/
def recordOneWayWrong : ChangeSpec := { name := "recordOneWay", fn := fun _ => fun
  | [d1, d2] => { results := [.lit (.bool false)], args := [d1, d2] }
  | _ => none }
def RecordOneWayWrongFalsely : Prop := recordOneWayRow.holds Tryd.pinned (OpenSpec.ofChange recordOneWayWrong)

/-- 'annalslaw3.RecordBack': WHATEVER THE INPUT: true; the input reads as it did. -/
def recordBackSpec : ChangeSpec := { name := "recordBack", fn := fun _ => fun
  | [d] => { results := [.lit (.bool true)], args := [d] }
  | _ => none }
def recordBackRow : OpenClaim := { program := "ytjhiohjpkdjkoaadoor", sum := "246321d976874fadb9efaf0dbb3e2045c6eaf8b67091c7df6c7847f8c0e4645e", func := "annals/annalslaw3.RecordBack", spec := "recordBack", named := ["annals/record.may", "unicode/utf8.first", "unicode/utf8.acceptRanges", "annals/text.letters"], apart := false, laid := [("unicode/utf8.acceptRanges", laid_unicode_utf8_acceptRanges), ("annals/text.letters", laid_annals_text_letters), ("annals/record.may", laid_annals_record_may), ("unicode/utf8.first", laid_unicode_utf8_first)] }
def RecordBackSaid : Prop := recordBackRow.holds Tryd.pinned (OpenSpec.ofChange recordBackSpec)

/-- ITS FALSE NEIGHBOUR: 'it returns false'. Refute it at one input. -/
def recordBackWrong : ChangeSpec := { name := "recordBack", fn := fun _ => fun
  | [d] => { results := [.lit (.bool false)], args := [d] }
  | _ => none }
def RecordBackWrongFalsely : Prop := recordBackRow.holds Tryd.pinned (OpenSpec.ofChange recordBackWrong)

/-- 'annalslaw3.RecordGrow': WHATEVER THE INPUT: true; the input reads as it did. -/
def recordGrowSpec : ChangeSpec := { name := "recordGrow", fn := fun _ => fun
  | [d1, d2] => { results := [.lit (.bool true)], args := [d1, d2] }
  | _ => none }
def recordGrowRow : OpenClaim := { program := "ytjhiohjpkdjkoaadoor", sum := "246321d976874fadb9efaf0dbb3e2045c6eaf8b67091c7df6c7847f8c0e4645e", func := "annals/annalslaw3.RecordGrow", spec := "recordGrow", named := ["annals/record.may", "unicode/utf8.first", "unicode/utf8.acceptRanges", "annals/text.letters"], apart := false, laid := [("unicode/utf8.acceptRanges", laid_unicode_utf8_acceptRanges), ("annals/text.letters", laid_annals_text_letters), ("annals/record.may", laid_annals_record_may), ("unicode/utf8.first", laid_unicode_utf8_first)] }
def RecordGrowSaid : Prop := recordGrowRow.holds Tryd.pinned (OpenSpec.ofChange recordGrowSpec)

/-- ITS FALSE NEIGHBOUR: 'it returns false'. Refute it at one input. -/
def recordGrowWrong : ChangeSpec := { name := "recordGrow", fn := fun _ => fun
  | [d1, d2] => { results := [.lit (.bool false)], args := [d1, d2] }
  | _ => none }
def RecordGrowWrongFalsely : Prop := recordGrowRow.holds Tryd.pinned (OpenSpec.ofChange recordGrowWrong)

/-- 'annalslaw3.RecordAgain': WHATEVER THE INPUT: true; the input reads as it did. -/
def recordAgainSpec : ChangeSpec := { name := "recordAgain", fn := fun _ => fun
  | [d1, d2, d3, d4] => { results := [.lit (.bool true)], args := [d1, d2, d3, d4] }
  | _ => none }
def recordAgainRow : OpenClaim := { program := "ytjhiohjpkdjkoaadoor", sum := "246321d976874fadb9efaf0dbb3e2045c6eaf8b67091c7df6c7847f8c0e4645e", func := "annals/annalslaw3.RecordAgain", spec := "recordAgain", named := ["annals/record.may", "unicode/utf8.first", "unicode/utf8.acceptRanges", "annals/text.letters", "annals/annalsref3.rows", "annals/annalsref2.letters"], apart := false, laid := [("unicode/utf8.acceptRanges", laid_unicode_utf8_acceptRanges), ("annals/annalsref2.letters", laid_annals_annalsref2_letters), ("annals/annalsref3.rows", laid_annals_annalsref3_rows), ("annals/text.letters", laid_annals_text_letters), ("annals/record.may", laid_annals_record_may), ("unicode/utf8.first", laid_unicode_utf8_first)] }
def RecordAgainSaid : Prop := recordAgainRow.holds Tryd.pinned (OpenSpec.ofChange recordAgainSpec)

/-- ITS FALSE NEIGHBOUR: 'it returns false'. Refute it at one input. -/
def recordAgainWrong : ChangeSpec := { name := "recordAgain", fn := fun _ => fun
  | [d1, d2, d3, d4] => { results := [.lit (.bool false)], args := [d1, d2, d3, d4] }
  | _ => none }
def RecordAgainWrongFalsely : Prop := recordAgainRow.holds Tryd.pinned (OpenSpec.ofChange recordAgainWrong)

/- THE SECOND FORM. 'bulk': how many values and letters a reading holds, each counted each time it is reached (what is shared counts as often as it is met; a slice's spare places count too). A statement '..UptoSaid' is the law's where the arguments, and the package variables that the reading takes, are together of bulk at most 1048576: NARROWER than '..Said'. Prove '..Said' where nothing that the law and all that it calls make is longer than what came in: it says more and counts as full. Else prove '..UptoSaid'. A law counts once. -/
mutual
def uptoBulk {H : Type} : DataW H → Nat
  | .lit (.string bytes) => bytes.length + 1
  | .lit _ => 1
  | .nil => 1
  | .ptr d => uptoBulk d + 1
  | .slice elems spare => uptoBulkAll elems + uptoBulkAll spare + 1
  | .agg parts => uptoBulkAll parts + 1
  | .iface _ d => uptoBulk d + 1
  | .map entries => uptoBulkEntries entries + 1
  | .held _ => 1
def uptoBulkAll {H : Type} : List (DataW H) → Nat
  | [] => 0
  | d :: r => uptoBulk d + uptoBulkAll r
def uptoBulkEntries {H : Type} : List (Lit × DataW H) → Nat
  | [] => 0
  | x :: r => uptoBulkEntry x + uptoBulkEntries r
def uptoBulkEntry {H : Type} : Lit × DataW H → Nat
  | (.string bytes, d) => bytes.length + uptoBulk d + 1
  | (_, d) => uptoBulk d + 1
 end
def uptoSmall : (H : Type) → List (DataW H) → Bool := fun _ ds => decide (uptoBulkAll ds ≤ 1048576)
def OpenSpec.upto (s : _root_.Go.ChangeSpec) : _root_.Go.OpenSpec := { _root_.Go.OpenSpec.ofChange s with cond := some uptoSmall }

/-- 'annalslaw3.RecordFields', WHERE WHAT IT READS IS OF BULK AT MOST 1048576: true; the input reads as it did. -/
def recordFieldsUptoRow : OpenClaim := { program := "ytjhiohjpkdjkoaadoor", sum := "246321d976874fadb9efaf0dbb3e2045c6eaf8b67091c7df6c7847f8c0e4645e", func := "annals/annalslaw3.RecordFields", spec := "recordFields", named := ["annals/record.may", "annals/annalsref3.rows"], apart := false, laid := [("annals/annalsref3.rows", laid_annals_annalsref3_rows), ("annals/record.may", laid_annals_record_may)], narrowed := true }
def RecordFieldsUptoSaid : Prop := recordFieldsUptoRow.holds Tryd.pinned (OpenSpec.upto recordFieldsSpec)

/-- 'annalslaw4.LiftSteps', WHERE WHAT IT READS IS OF BULK AT MOST 1048576: true; the input reads as it did. -/
def liftStepsUptoRow : OpenClaim := { program := "ytjhiohjpkdjkoaadoor", sum := "246321d976874fadb9efaf0dbb3e2045c6eaf8b67091c7df6c7847f8c0e4645e", func := "annals/annalslaw4.LiftSteps", spec := "liftSteps", named := ["annals/lift.ways"], apart := false, laid := [("annals/lift.ways", laid_annals_lift_ways)], narrowed := true }
def LiftStepsUptoSaid : Prop := liftStepsUptoRow.holds Tryd.pinned (OpenSpec.upto liftStepsSpec)

/-- 'annalslaw4.LiftEach', WHERE WHAT IT READS IS OF BULK AT MOST 1048576: true; the input reads as it did. -/
def liftEachUptoRow : OpenClaim := { program := "ytjhiohjpkdjkoaadoor", sum := "246321d976874fadb9efaf0dbb3e2045c6eaf8b67091c7df6c7847f8c0e4645e", func := "annals/annalslaw4.LiftEach", spec := "liftEach", unfollowed := true, recurses := true, named := ["annals/record.may", "unicode/utf8.first", "unicode/utf8.acceptRanges", "annals/text.letters", "annals/lift.ways"], apart := false, laid := [("unicode/utf8.acceptRanges", laid_unicode_utf8_acceptRanges), ("annals/text.letters", laid_annals_text_letters), ("annals/record.may", laid_annals_record_may), ("annals/lift.ways", laid_annals_lift_ways), ("unicode/utf8.first", laid_unicode_utf8_first)], narrowed := true }
def LiftEachUptoSaid : Prop := liftEachUptoRow.holds Tryd.pinned (OpenSpec.upto liftEachSpec)

/-- 'annalslaw3.RecordOwn', WHERE WHAT IT READS IS OF BULK AT MOST 1048576: true; the input reads as it did. -/
def recordOwnUptoRow : OpenClaim := { program := "ytjhiohjpkdjkoaadoor", sum := "246321d976874fadb9efaf0dbb3e2045c6eaf8b67091c7df6c7847f8c0e4645e", func := "annals/annalslaw3.RecordOwn", spec := "recordOwn", named := ["annals/record.may", "unicode/utf8.first", "unicode/utf8.acceptRanges", "annals/text.letters"], apart := false, laid := [("unicode/utf8.acceptRanges", laid_unicode_utf8_acceptRanges), ("annals/text.letters", laid_annals_text_letters), ("annals/record.may", laid_annals_record_may), ("unicode/utf8.first", laid_unicode_utf8_first)], narrowed := true }
def RecordOwnUptoSaid : Prop := recordOwnUptoRow.holds Tryd.pinned (OpenSpec.upto recordOwnSpec)

/-- 'annalslaw4.LiftBack', WHERE WHAT IT READS IS OF BULK AT MOST 1048576: true; the input reads as it did. -/
def liftBackUptoRow : OpenClaim := { program := "ytjhiohjpkdjkoaadoor", sum := "246321d976874fadb9efaf0dbb3e2045c6eaf8b67091c7df6c7847f8c0e4645e", func := "annals/annalslaw4.LiftBack", spec := "liftBack", unfollowed := true, recurses := true, named := ["annals/record.may", "unicode/utf8.first", "unicode/utf8.acceptRanges", "annals/text.letters", "annals/lift.ways", "annals/annalsref3.rows", "annals/annalsref2.letters"], apart := false, laid := [("unicode/utf8.acceptRanges", laid_unicode_utf8_acceptRanges), ("annals/annalsref2.letters", laid_annals_annalsref2_letters), ("annals/annalsref3.rows", laid_annals_annalsref3_rows), ("annals/text.letters", laid_annals_text_letters), ("annals/record.may", laid_annals_record_may), ("annals/lift.ways", laid_annals_lift_ways), ("unicode/utf8.first", laid_unicode_utf8_first)], narrowed := true }
def LiftBackUptoSaid : Prop := liftBackUptoRow.holds Tryd.pinned (OpenSpec.upto liftBackSpec)

/-- 'annalslaw4.LiftLoss', WHERE WHAT IT READS IS OF BULK AT MOST 1048576: true; the input reads as it did. -/
def liftLossUptoRow : OpenClaim := { program := "ytjhiohjpkdjkoaadoor", sum := "246321d976874fadb9efaf0dbb3e2045c6eaf8b67091c7df6c7847f8c0e4645e", func := "annals/annalslaw4.LiftLoss", spec := "liftLoss", unfollowed := true, recurses := true, named := ["annals/record.may", "unicode/utf8.first", "unicode/utf8.acceptRanges", "annals/text.letters", "annals/lift.ways", "annals/annalsref3.rows", "annals/annalsref2.letters"], apart := false, laid := [("unicode/utf8.acceptRanges", laid_unicode_utf8_acceptRanges), ("annals/annalsref2.letters", laid_annals_annalsref2_letters), ("annals/annalsref3.rows", laid_annals_annalsref3_rows), ("annals/text.letters", laid_annals_text_letters), ("annals/record.may", laid_annals_record_may), ("annals/lift.ways", laid_annals_lift_ways), ("unicode/utf8.first", laid_unicode_utf8_first)], narrowed := true }
def LiftLossUptoSaid : Prop := liftLossUptoRow.holds Tryd.pinned (OpenSpec.upto liftLossSpec)

/-- 'annalslaw3.RecordPlays', WHERE WHAT IT READS IS OF BULK AT MOST 1048576: true; the input reads as it did. -/
def recordPlaysUptoRow : OpenClaim := { program := "ytjhiohjpkdjkoaadoor", sum := "246321d976874fadb9efaf0dbb3e2045c6eaf8b67091c7df6c7847f8c0e4645e", func := "annals/annalslaw3.RecordPlays", spec := "recordPlays", named := ["annals/record.may", "unicode/utf8.first", "unicode/utf8.acceptRanges", "annals/text.letters", "annals/annalsref3.rows", "annals/annalsref2.letters"], apart := false, laid := [("unicode/utf8.acceptRanges", laid_unicode_utf8_acceptRanges), ("annals/annalsref2.letters", laid_annals_annalsref2_letters), ("annals/annalsref3.rows", laid_annals_annalsref3_rows), ("annals/text.letters", laid_annals_text_letters), ("annals/record.may", laid_annals_record_may), ("unicode/utf8.first", laid_unicode_utf8_first)], narrowed := true }
def RecordPlaysUptoSaid : Prop := recordPlaysUptoRow.holds Tryd.pinned (OpenSpec.upto recordPlaysSpec)

/-- 'annalslaw3.RecordLater', WHERE WHAT IT READS IS OF BULK AT MOST 1048576: true; the input reads as it did. -/
def recordLaterUptoRow : OpenClaim := { program := "ytjhiohjpkdjkoaadoor", sum := "246321d976874fadb9efaf0dbb3e2045c6eaf8b67091c7df6c7847f8c0e4645e", func := "annals/annalslaw3.RecordLater", spec := "recordLater", named := ["annals/record.may", "unicode/utf8.first", "unicode/utf8.acceptRanges", "annals/text.letters"], apart := false, laid := [("unicode/utf8.acceptRanges", laid_unicode_utf8_acceptRanges), ("annals/text.letters", laid_annals_text_letters), ("annals/record.may", laid_annals_record_may), ("unicode/utf8.first", laid_unicode_utf8_first)], narrowed := true }
def RecordLaterUptoSaid : Prop := recordLaterUptoRow.holds Tryd.pinned (OpenSpec.upto recordLaterSpec)

/-- 'annalslaw4.LiftLent', WHERE WHAT IT READS IS OF BULK AT MOST 1048576: true; the input reads as it did. -/
def liftLentUptoRow : OpenClaim := { program := "ytjhiohjpkdjkoaadoor", sum := "246321d976874fadb9efaf0dbb3e2045c6eaf8b67091c7df6c7847f8c0e4645e", func := "annals/annalslaw4.LiftLent", spec := "liftLent", unfollowed := true, recurses := true, named := ["annals/lift.ways", "annals/annalsref3.rows", "annals/annalsref2.letters", "annals/record.may", "unicode/utf8.first", "unicode/utf8.acceptRanges", "annals/text.letters"], apart := false, laid := [("unicode/utf8.acceptRanges", laid_unicode_utf8_acceptRanges), ("annals/annalsref2.letters", laid_annals_annalsref2_letters), ("annals/annalsref3.rows", laid_annals_annalsref3_rows), ("annals/text.letters", laid_annals_text_letters), ("annals/record.may", laid_annals_record_may), ("annals/lift.ways", laid_annals_lift_ways), ("unicode/utf8.first", laid_unicode_utf8_first)], narrowed := true }
def LiftLentUptoSaid : Prop := liftLentUptoRow.holds Tryd.pinned (OpenSpec.upto liftLentSpec)

/-- 'annalslaw4.LiftChain', WHERE WHAT IT READS IS OF BULK AT MOST 1048576: true; the input reads as it did. -/
def liftChainUptoRow : OpenClaim := { program := "ytjhiohjpkdjkoaadoor", sum := "246321d976874fadb9efaf0dbb3e2045c6eaf8b67091c7df6c7847f8c0e4645e", func := "annals/annalslaw4.LiftChain", spec := "liftChain", unfollowed := true, recurses := true, named := ["annals/record.may", "unicode/utf8.first", "unicode/utf8.acceptRanges", "annals/text.letters", "annals/lift.ways", "annals/annalsref3.rows", "annals/annalsref2.letters"], apart := false, laid := [("unicode/utf8.acceptRanges", laid_unicode_utf8_acceptRanges), ("annals/annalsref2.letters", laid_annals_annalsref2_letters), ("annals/annalsref3.rows", laid_annals_annalsref3_rows), ("annals/text.letters", laid_annals_text_letters), ("annals/record.may", laid_annals_record_may), ("annals/lift.ways", laid_annals_lift_ways), ("unicode/utf8.first", laid_unicode_utf8_first)], narrowed := true }
def LiftChainUptoSaid : Prop := liftChainUptoRow.holds Tryd.pinned (OpenSpec.upto liftChainSpec)

/-- 'annalslaw4.LiftOwn', WHERE WHAT IT READS IS OF BULK AT MOST 1048576: true; the input reads as it did. -/
def liftOwnUptoRow : OpenClaim := { program := "ytjhiohjpkdjkoaadoor", sum := "246321d976874fadb9efaf0dbb3e2045c6eaf8b67091c7df6c7847f8c0e4645e", func := "annals/annalslaw4.LiftOwn", spec := "liftOwn", unfollowed := true, recurses := true, named := ["annals/record.may", "unicode/utf8.first", "unicode/utf8.acceptRanges", "annals/text.letters", "annals/lift.ways"], apart := false, laid := [("unicode/utf8.acceptRanges", laid_unicode_utf8_acceptRanges), ("annals/text.letters", laid_annals_text_letters), ("annals/record.may", laid_annals_record_may), ("annals/lift.ways", laid_annals_lift_ways), ("unicode/utf8.first", laid_unicode_utf8_first)], narrowed := true }
def LiftOwnUptoSaid : Prop := liftOwnUptoRow.holds Tryd.pinned (OpenSpec.upto liftOwnSpec)

/-- 'annalslaw4.LiftAgain', WHERE WHAT IT READS IS OF BULK AT MOST 1048576: true; the input reads as it did. -/
def liftAgainUptoRow : OpenClaim := { program := "ytjhiohjpkdjkoaadoor", sum := "246321d976874fadb9efaf0dbb3e2045c6eaf8b67091c7df6c7847f8c0e4645e", func := "annals/annalslaw4.LiftAgain", spec := "liftAgain", unfollowed := true, recurses := true, named := ["annals/record.may", "unicode/utf8.first", "unicode/utf8.acceptRanges", "annals/text.letters", "annals/lift.ways", "annals/annalsref3.rows", "annals/annalsref2.letters"], apart := false, laid := [("unicode/utf8.acceptRanges", laid_unicode_utf8_acceptRanges), ("annals/annalsref2.letters", laid_annals_annalsref2_letters), ("annals/annalsref3.rows", laid_annals_annalsref3_rows), ("annals/text.letters", laid_annals_text_letters), ("annals/record.may", laid_annals_record_may), ("annals/lift.ways", laid_annals_lift_ways), ("unicode/utf8.first", laid_unicode_utf8_first)], narrowed := true }
def LiftAgainUptoSaid : Prop := liftAgainUptoRow.holds Tryd.pinned (OpenSpec.upto liftAgainSpec)

/-- 'annalslaw4.LiftEmpty', WHERE WHAT IT READS IS OF BULK AT MOST 1048576: true; the input reads as it did. -/
def liftEmptyUptoRow : OpenClaim := { program := "ytjhiohjpkdjkoaadoor", sum := "246321d976874fadb9efaf0dbb3e2045c6eaf8b67091c7df6c7847f8c0e4645e", func := "annals/annalslaw4.LiftEmpty", spec := "liftEmpty", unfollowed := true, recurses := true, named := ["annals/record.may", "unicode/utf8.first", "unicode/utf8.acceptRanges", "annals/text.letters", "annals/lift.ways"], apart := false, laid := [("unicode/utf8.acceptRanges", laid_unicode_utf8_acceptRanges), ("annals/text.letters", laid_annals_text_letters), ("annals/record.may", laid_annals_record_may), ("annals/lift.ways", laid_annals_lift_ways), ("unicode/utf8.first", laid_unicode_utf8_first)], narrowed := true }
def LiftEmptyUptoSaid : Prop := liftEmptyUptoRow.holds Tryd.pinned (OpenSpec.upto liftEmptySpec)

/-- 'annalslaw4.LiftUps', WHERE WHAT IT READS IS OF BULK AT MOST 1048576: true; the input reads as it did. -/
def liftUpsUptoRow : OpenClaim := { program := "ytjhiohjpkdjkoaadoor", sum := "246321d976874fadb9efaf0dbb3e2045c6eaf8b67091c7df6c7847f8c0e4645e", func := "annals/annalslaw4.LiftUps", spec := "liftUps", unfollowed := true, recurses := true, named := ["annals/record.may", "unicode/utf8.first", "unicode/utf8.acceptRanges", "annals/text.letters", "annals/lift.ways", "annals/annalsref3.rows", "annals/annalsref2.letters"], apart := false, laid := [("unicode/utf8.acceptRanges", laid_unicode_utf8_acceptRanges), ("annals/annalsref2.letters", laid_annals_annalsref2_letters), ("annals/annalsref3.rows", laid_annals_annalsref3_rows), ("annals/text.letters", laid_annals_text_letters), ("annals/record.may", laid_annals_record_may), ("annals/lift.ways", laid_annals_lift_ways), ("unicode/utf8.first", laid_unicode_utf8_first)], narrowed := true }
def LiftUpsUptoSaid : Prop := liftUpsUptoRow.holds Tryd.pinned (OpenSpec.upto liftUpsSpec)

/-- 'annalslaw4.LiftDowns', WHERE WHAT IT READS IS OF BULK AT MOST 1048576: true; the input reads as it did. -/
def liftDownsUptoRow : OpenClaim := { program := "ytjhiohjpkdjkoaadoor", sum := "246321d976874fadb9efaf0dbb3e2045c6eaf8b67091c7df6c7847f8c0e4645e", func := "annals/annalslaw4.LiftDowns", spec := "liftDowns", unfollowed := true, recurses := true, named := ["annals/record.may", "unicode/utf8.first", "unicode/utf8.acceptRanges", "annals/text.letters", "annals/lift.ways", "annals/annalsref3.rows", "annals/annalsref2.letters"], apart := false, laid := [("unicode/utf8.acceptRanges", laid_unicode_utf8_acceptRanges), ("annals/annalsref2.letters", laid_annals_annalsref2_letters), ("annals/annalsref3.rows", laid_annals_annalsref3_rows), ("annals/text.letters", laid_annals_text_letters), ("annals/record.may", laid_annals_record_may), ("annals/lift.ways", laid_annals_lift_ways), ("unicode/utf8.first", laid_unicode_utf8_first)], narrowed := true }
def LiftDownsUptoSaid : Prop := liftDownsUptoRow.holds Tryd.pinned (OpenSpec.upto liftDownsSpec)

/-- 'annalslaw4.LiftLists', WHERE WHAT IT READS IS OF BULK AT MOST 1048576: true; the input reads as it did. -/
def liftListsUptoRow : OpenClaim := { program := "ytjhiohjpkdjkoaadoor", sum := "246321d976874fadb9efaf0dbb3e2045c6eaf8b67091c7df6c7847f8c0e4645e", func := "annals/annalslaw4.LiftLists", spec := "liftLists", unfollowed := true, recurses := true, named := ["annals/record.may", "unicode/utf8.first", "unicode/utf8.acceptRanges", "annals/text.letters", "annals/lift.ways", "annals/annalsref3.rows", "annals/annalsref2.letters"], apart := false, laid := [("unicode/utf8.acceptRanges", laid_unicode_utf8_acceptRanges), ("annals/annalsref2.letters", laid_annals_annalsref2_letters), ("annals/annalsref3.rows", laid_annals_annalsref3_rows), ("annals/text.letters", laid_annals_text_letters), ("annals/record.may", laid_annals_record_may), ("annals/lift.ways", laid_annals_lift_ways), ("unicode/utf8.first", laid_unicode_utf8_first)], narrowed := true }
def LiftListsUptoSaid : Prop := liftListsUptoRow.holds Tryd.pinned (OpenSpec.upto liftListsSpec)

/-- 'annalslaw4.LiftPlays', WHERE WHAT IT READS IS OF BULK AT MOST 1048576: true; the input reads as it did. -/
def liftPlaysUptoRow : OpenClaim := { program := "ytjhiohjpkdjkoaadoor", sum := "246321d976874fadb9efaf0dbb3e2045c6eaf8b67091c7df6c7847f8c0e4645e", func := "annals/annalslaw4.LiftPlays", spec := "liftPlays", unfollowed := true, recurses := true, named := ["annals/record.may", "unicode/utf8.first", "unicode/utf8.acceptRanges", "annals/text.letters", "annals/lift.ways", "annals/annalsref3.rows", "annals/annalsref2.letters"], apart := false, laid := [("unicode/utf8.acceptRanges", laid_unicode_utf8_acceptRanges), ("annals/annalsref2.letters", laid_annals_annalsref2_letters), ("annals/annalsref3.rows", laid_annals_annalsref3_rows), ("annals/text.letters", laid_annals_text_letters), ("annals/record.may", laid_annals_record_may), ("annals/lift.ways", laid_annals_lift_ways), ("unicode/utf8.first", laid_unicode_utf8_first)], narrowed := true }
def LiftPlaysUptoSaid : Prop := liftPlaysUptoRow.holds Tryd.pinned (OpenSpec.upto liftPlaysSpec)

/-- 'annalslaw3.RecordChecks', WHERE WHAT IT READS IS OF BULK AT MOST 1048576: true; the input reads as it did. -/
def recordChecksUptoRow : OpenClaim := { program := "ytjhiohjpkdjkoaadoor", sum := "246321d976874fadb9efaf0dbb3e2045c6eaf8b67091c7df6c7847f8c0e4645e", func := "annals/annalslaw3.RecordChecks", spec := "recordChecks", named := ["annals/record.may", "unicode/utf8.first", "unicode/utf8.acceptRanges", "annals/text.letters", "annals/annalsref3.rows", "annals/annalsref2.letters"], apart := false, laid := [("unicode/utf8.acceptRanges", laid_unicode_utf8_acceptRanges), ("annals/annalsref2.letters", laid_annals_annalsref2_letters), ("annals/annalsref3.rows", laid_annals_annalsref3_rows), ("annals/text.letters", laid_annals_text_letters), ("annals/record.may", laid_annals_record_may), ("unicode/utf8.first", laid_unicode_utf8_first)], narrowed := true }
def RecordChecksUptoSaid : Prop := recordChecksUptoRow.holds Tryd.pinned (OpenSpec.upto recordChecksSpec)

/-- 'annalslaw3.RecordWrites', WHERE WHAT IT READS IS OF BULK AT MOST 1048576: true; the input reads as it did. -/
def recordWritesUptoRow : OpenClaim := { program := "ytjhiohjpkdjkoaadoor", sum := "246321d976874fadb9efaf0dbb3e2045c6eaf8b67091c7df6c7847f8c0e4645e", func := "annals/annalslaw3.RecordWrites", spec := "recordWrites", named := ["annals/record.may", "unicode/utf8.first", "unicode/utf8.acceptRanges", "annals/text.letters", "annals/annalsref3.rows", "annals/annalsref2.letters"], apart := false, laid := [("unicode/utf8.acceptRanges", laid_unicode_utf8_acceptRanges), ("annals/annalsref2.letters", laid_annals_annalsref2_letters), ("annals/annalsref3.rows", laid_annals_annalsref3_rows), ("annals/text.letters", laid_annals_text_letters), ("annals/record.may", laid_annals_record_may), ("unicode/utf8.first", laid_unicode_utf8_first)], narrowed := true }
def RecordWritesUptoSaid : Prop := recordWritesUptoRow.holds Tryd.pinned (OpenSpec.upto recordWritesSpec)

/-- 'annalslaw3.RecordReads', WHERE WHAT IT READS IS OF BULK AT MOST 1048576: true; the input reads as it did. -/
def recordReadsUptoRow : OpenClaim := { program := "ytjhiohjpkdjkoaadoor", sum := "246321d976874fadb9efaf0dbb3e2045c6eaf8b67091c7df6c7847f8c0e4645e", func := "annals/annalslaw3.RecordReads", spec := "recordReads", named := ["annals/record.may", "unicode/utf8.first", "unicode/utf8.acceptRanges", "annals/text.letters", "annals/annalsref3.rows", "annals/annalsref2.letters"], apart := false, laid := [("unicode/utf8.acceptRanges", laid_unicode_utf8_acceptRanges), ("annals/annalsref2.letters", laid_annals_annalsref2_letters), ("annals/annalsref3.rows", laid_annals_annalsref3_rows), ("annals/text.letters", laid_annals_text_letters), ("annals/record.may", laid_annals_record_may), ("unicode/utf8.first", laid_unicode_utf8_first)], narrowed := true }
def RecordReadsUptoSaid : Prop := recordReadsUptoRow.holds Tryd.pinned (OpenSpec.upto recordReadsSpec)

/-- 'annalslaw3.RecordOneWay', WHERE WHAT IT READS IS OF BULK AT MOST 1048576: true; the input reads as it did. -/
def recordOneWayUptoRow : OpenClaim := { program := "ytjhiohjpkdjkoaadoor", sum := "246321d976874fadb9efaf0dbb3e2045c6eaf8b67091c7df6c7847f8c0e4645e", func := "annals/annalslaw3.RecordOneWay", spec := "recordOneWay", named := ["annals/record.may", "unicode/utf8.first", "unicode/utf8.acceptRanges", "annals/text.letters"], apart := false, laid := [("unicode/utf8.acceptRanges", laid_unicode_utf8_acceptRanges), ("annals/text.letters", laid_annals_text_letters), ("annals/record.may", laid_annals_record_may), ("unicode/utf8.first", laid_unicode_utf8_first)], narrowed := true }
def RecordOneWayUptoSaid : Prop := recordOneWayUptoRow.holds Tryd.pinned (OpenSpec.upto recordOneWaySpec)

/-- 'annalslaw3.RecordBack', WHERE WHAT IT READS IS OF BULK AT MOST 1048576: true; the input reads as it did. -/
def recordBackUptoRow : OpenClaim := { program := "ytjhiohjpkdjkoaadoor", sum := "246321d976874fadb9efaf0dbb3e2045c6eaf8b67091c7df6c7847f8c0e4645e", func := "annals/annalslaw3.RecordBack", spec := "recordBack", named := ["annals/record.may", "unicode/utf8.first", "unicode/utf8.acceptRanges", "annals/text.letters"], apart := false, laid := [("unicode/utf8.acceptRanges", laid_unicode_utf8_acceptRanges), ("annals/text.letters", laid_annals_text_letters), ("annals/record.may", laid_annals_record_may), ("unicode/utf8.first", laid_unicode_utf8_first)], narrowed := true }
def RecordBackUptoSaid : Prop := recordBackUptoRow.holds Tryd.pinned (OpenSpec.upto recordBackSpec)

/-- 'annalslaw3.RecordGrow', WHERE WHAT IT READS IS OF BULK AT MOST 1048576: true; the input reads as it did. -/
def recordGrowUptoRow : OpenClaim := { program := "ytjhiohjpkdjkoaadoor", sum := "246321d976874fadb9efaf0dbb3e2045c6eaf8b67091c7df6c7847f8c0e4645e", func := "annals/annalslaw3.RecordGrow", spec := "recordGrow", named := ["annals/record.may", "unicode/utf8.first", "unicode/utf8.acceptRanges", "annals/text.letters"], apart := false, laid := [("unicode/utf8.acceptRanges", laid_unicode_utf8_acceptRanges), ("annals/text.letters", laid_annals_text_letters), ("annals/record.may", laid_annals_record_may), ("unicode/utf8.first", laid_unicode_utf8_first)], narrowed := true }
def RecordGrowUptoSaid : Prop := recordGrowUptoRow.holds Tryd.pinned (OpenSpec.upto recordGrowSpec)

/-- 'annalslaw3.RecordAgain', WHERE WHAT IT READS IS OF BULK AT MOST 1048576: true; the input reads as it did. -/
def recordAgainUptoRow : OpenClaim := { program := "ytjhiohjpkdjkoaadoor", sum := "246321d976874fadb9efaf0dbb3e2045c6eaf8b67091c7df6c7847f8c0e4645e", func := "annals/annalslaw3.RecordAgain", spec := "recordAgain", named := ["annals/record.may", "unicode/utf8.first", "unicode/utf8.acceptRanges", "annals/text.letters", "annals/annalsref3.rows", "annals/annalsref2.letters"], apart := false, laid := [("unicode/utf8.acceptRanges", laid_unicode_utf8_acceptRanges), ("annals/annalsref2.letters", laid_annals_annalsref2_letters), ("annals/annalsref3.rows", laid_annals_annalsref3_rows), ("annals/text.letters", laid_annals_text_letters), ("annals/record.may", laid_annals_record_may), ("unicode/utf8.first", laid_unicode_utf8_first)], narrowed := true }
def RecordAgainUptoSaid : Prop := recordAgainUptoRow.holds Tryd.pinned (OpenSpec.upto recordAgainSpec)

end Rows
end Go.Proofs.YtjhiohjpkdjkoaaDoor
