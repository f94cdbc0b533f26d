/-
  NARROWER THAN 'FOR EVERY INPUT', by the rows' own cells (each row's printed sentence says how): RecordOwn: laid · LiftLent: laid · LiftOwn: laid · LiftAgain: laid · LiftEmpty: laid · RecordAgain: laid.
  DERIVED. THE GIVEN ROWS OF THIS SEAT. 6 by the template 'for every input the law returns true; each argument reads behind the call as it read before'; 0 by the template 'total and deterministic' (their statements: YtikodgaomhmbmaaDoorTotals.lean).
  GIVEN WITH THE SEED: the statements are not yours to turn. If you find one false, say at which input.
  Laid BY PROGRAM, IN A SANDBOX (cutbox-rows.mjs): the forced cells as the released guide's own fill.sh prints them over the translation 1eaeeb3970534974… (all of the seat's roots in one cut). By AI agents, Wed Nov 11 2026. No macro, syntax, notation, axiom, sorry.
-/
import Derived.Test.YtikodgaomhmbmaaDoorChecked
import GoSem.PinnedTables
import GoSem.Claim
import GoSem.ClaimJoined
import GoSem.ClaimMapViews
import Derived.JoinedTies
import Derived.KernelRfl
namespace Go.Proofs.YtikodgaomhmbmaaDoor
/- THE CELL 'sum', in the pinned program and in every row, IS THE sha256 OF THE DUMP (.gsa) THAT YtikodgaomhmbmaaDoorProg.lean LOADS. Nothing in Lean hashes anything: it is a label: what it is worth is what the hold of that sum in a sandbox is worth. -/
noncomputable def Tryd.pinned : Pinned := { name := "ytikodgaomhmbmaadoor", sum := "1eaeeb3970534974ccea923eac10df0f262b8445eb56470ae09bb9f1d68d2312", checked := Tryd.checked }
namespace Rows
def none {H : Type} : Left H := { results := [], args := [] }

/- WHAT THE LISTED PACKAGE-LEVEL VARIABLES READ AS WHEN THE CALL BEGINS. Each datum BY PROGRAM (the guide's laid-datum.mjs) off the statement by which the dump's own 'gosem.cut.vars' lays the variable. In a bare row this is a premise. The card (YtikodgaomhmbmaaDoorCards.lean) ties it to the program's text. -/
def laid_unicode_utf8_acceptRanges {H : Type} : DataW H := .agg [.agg [.lit (.int .u8 128), .lit (.int .u8 191)], .agg [.lit (.int .u8 160), .lit (.int .u8 191)], .agg [.lit (.int .u8 128), .lit (.int .u8 159)], .agg [.lit (.int .u8 144), .lit (.int .u8 191)], .agg [.lit (.int .u8 128), .lit (.int .u8 143)], .agg [.lit (.int .u8 0), .lit (.int .u8 0)], .agg [.lit (.int .u8 0), .lit (.int .u8 0)], .agg [.lit (.int .u8 0), .lit (.int .u8 0)], .agg [.lit (.int .u8 0), .lit (.int .u8 0)], .agg [.lit (.int .u8 0), .lit (.int .u8 0)], .agg [.lit (.int .u8 0), .lit (.int .u8 0)], .agg [.lit (.int .u8 0), .lit (.int .u8 0)], .agg [.lit (.int .u8 0), .lit (.int .u8 0)], .agg [.lit (.int .u8 0), .lit (.int .u8 0)], .agg [.lit (.int .u8 0), .lit (.int .u8 0)], .agg [.lit (.int .u8 0), .lit (.int .u8 0)]]
def laid_annals_text_letters {H : Type} : DataW H := .agg [.agg [.lit (.int .i32 65), .lit (.int .i32 90)], .agg [.lit (.int .i32 97), .lit (.int .i32 122)], .agg [.lit (.int .i32 192), .lit (.int .i32 214)], .agg [.lit (.int .i32 216), .lit (.int .i32 246)], .agg [.lit (.int .i32 248), .lit (.int .i32 383)], .agg [.lit (.int .i32 913), .lit (.int .i32 929)], .agg [.lit (.int .i32 931), .lit (.int .i32 937)], .agg [.lit (.int .i32 940), .lit (.int .i32 974)], .agg [.lit (.int .i32 1024), .lit (.int .i32 1119)], .agg [.lit (.int .i32 1329), .lit (.int .i32 1366)], .agg [.lit (.int .i32 1488), .lit (.int .i32 1514)], .agg [.lit (.int .i32 1569), .lit (.int .i32 1594)], .agg [.lit (.int .i32 1601), .lit (.int .i32 1610)], .agg [.lit (.int .i32 2308), .lit (.int .i32 2361)], .agg [.lit (.int .i32 3585), .lit (.int .i32 3632)], .agg [.lit (.int .i32 4304), .lit (.int .i32 4346)], .agg [.lit (.int .i32 12353), .lit (.int .i32 12438)], .agg [.lit (.int .i32 12449), .lit (.int .i32 12538)], .agg [.lit (.int .i32 19968), .lit (.int .i32 40959)], .agg [.lit (.int .i32 44032), .lit (.int .i32 55203)], .agg [.lit (.int .i32 66560), .lit (.int .i32 66639)], .agg [.lit (.int .i32 131072), .lit (.int .i32 173791)]]
def laid_annals_record_may {H : Type} : DataW H := .agg [.agg [.lit (.int .u16 2062), .lit (.int .u16 14), .lit (.int .u16 2062), .lit (.int .u16 2062), .lit (.int .u16 14), .lit (.int .u16 2062), .lit (.int .u16 6)], .agg [.lit (.int .u16 3366), .lit (.int .u16 62), .lit (.int .u16 2094), .lit (.int .u16 2158), .lit (.int .u16 62), .lit (.int .u16 2094), .lit (.int .u16 38)], .agg [.lit (.int .u16 3878), .lit (.int .u16 62), .lit (.int .u16 2094), .lit (.int .u16 2286), .lit (.int .u16 62), .lit (.int .u16 2094), .lit (.int .u16 166)]]
/-- One of Go's own tables, pinned by name: the form's constant. -/
def laid_unicode_utf8_first : DataW Unit := Go.Pinned.utf8First
def laid_annals_annalsref2_letters {H : Type} : DataW H := .agg [.agg [.lit (.int .i64 65), .lit (.int .i64 90)], .agg [.lit (.int .i64 97), .lit (.int .i64 122)], .agg [.lit (.int .i64 192), .lit (.int .i64 214)], .agg [.lit (.int .i64 216), .lit (.int .i64 246)], .agg [.lit (.int .i64 248), .lit (.int .i64 383)], .agg [.lit (.int .i64 913), .lit (.int .i64 929)], .agg [.lit (.int .i64 931), .lit (.int .i64 937)], .agg [.lit (.int .i64 940), .lit (.int .i64 974)], .agg [.lit (.int .i64 1024), .lit (.int .i64 1119)], .agg [.lit (.int .i64 1329), .lit (.int .i64 1366)], .agg [.lit (.int .i64 1488), .lit (.int .i64 1514)], .agg [.lit (.int .i64 1569), .lit (.int .i64 1594)], .agg [.lit (.int .i64 1601), .lit (.int .i64 1610)], .agg [.lit (.int .i64 2308), .lit (.int .i64 2361)], .agg [.lit (.int .i64 3585), .lit (.int .i64 3632)], .agg [.lit (.int .i64 4304), .lit (.int .i64 4346)], .agg [.lit (.int .i64 12353), .lit (.int .i64 12438)], .agg [.lit (.int .i64 12449), .lit (.int .i64 12538)], .agg [.lit (.int .i64 19968), .lit (.int .i64 40959)], .agg [.lit (.int .i64 44032), .lit (.int .i64 55203)], .agg [.lit (.int .i64 66560), .lit (.int .i64 66639)], .agg [.lit (.int .i64 131072), .lit (.int .i64 173791)]]
def laid_annals_annalsref3_rows {H : Type} : DataW H := .agg [.agg [.lit (.string [97, 98, 99, 107]), .lit (.string [97, 98, 101, 104, 106, 107]), .lit (.string [97, 98, 101, 104, 105, 106, 107])], .agg [.lit (.string [97, 98, 99]), .lit (.string [97, 98, 99, 100, 101]), .lit (.string [97, 98, 99, 100, 101])], .agg [.lit (.string [97, 98, 99, 107]), .lit (.string [97, 98, 99, 101, 107]), .lit (.string [97, 98, 99, 101, 107])], .agg [.lit (.string [97, 98, 99, 107]), .lit (.string [97, 98, 99, 101, 102, 107]), .lit (.string [97, 98, 99, 101, 102, 103, 107])], .agg [.lit (.string [97, 98, 99]), .lit (.string [97, 98, 99, 100, 101]), .lit (.string [97, 98, 99, 100, 101])], .agg [.lit (.string [97, 98, 99, 107]), .lit (.string [97, 98, 99, 101, 107]), .lit (.string [97, 98, 99, 101, 107])], .agg [.lit (.string [97, 98]), .lit (.string [97, 98, 101]), .lit (.string [97, 98, 101, 103])]]
def laid_annals_lift_ways {H : Type} : DataW H := .agg [.agg [.lit (.int .i64 1), .lit (.int .i64 2), .lit (.string [49, 116, 111, 50])], .agg [.lit (.int .i64 2), .lit (.int .i64 3), .lit (.string [50, 116, 111, 51])], .agg [.lit (.int .i64 3), .lit (.int .i64 2), .lit (.string [51, 116, 111, 50])], .agg [.lit (.int .i64 2), .lit (.int .i64 1), .lit (.string [50, 116, 111, 49])]]

/-- 'annalslaw3.RecordOwn': WHATEVER THE INPUT: true; the input reads as it did. -/
def recordOwnSpec : ChangeSpec := { name := "recordOwn", fn := fun _ => fun
  | [d] => { results := [.lit (.bool true)], args := [d] }
  | _ => none }
def recordOwnRow : OpenClaim := { program := "ytikodgaomhmbmaadoor", sum := "1eaeeb3970534974ccea923eac10df0f262b8445eb56470ae09bb9f1d68d2312", func := "annals/annalslaw3.RecordOwn", spec := "recordOwn", named := ["annals/record.may", "unicode/utf8.first", "unicode/utf8.acceptRanges", "annals/text.letters"], apart := false, laid := [("unicode/utf8.acceptRanges", laid_unicode_utf8_acceptRanges), ("annals/text.letters", laid_annals_text_letters), ("annals/record.may", laid_annals_record_may), ("unicode/utf8.first", laid_unicode_utf8_first)] }
def RecordOwnSaid : Prop := recordOwnRow.holds Tryd.pinned (OpenSpec.ofChange recordOwnSpec)

/-- ITS FALSE NEIGHBOUR: 'it returns false'. Refute it at one input. -/
def recordOwnWrong : ChangeSpec := { name := "recordOwn", fn := fun _ => fun
  | [d] => { results := [.lit (.bool false)], args := [d] }
  | _ => none }
def RecordOwnWrongFalsely : Prop := recordOwnRow.holds Tryd.pinned (OpenSpec.ofChange recordOwnWrong)

/-- 'annalslaw4.LiftLent': WHATEVER THE INPUT: true; the input reads as it did. -/
def liftLentSpec : ChangeSpec := { name := "liftLent", fn := fun _ => fun
  | [d1, d2] => { results := [.lit (.bool true)], args := [d1, d2] }
  | _ => none }
def liftLentRow : OpenClaim := { program := "ytikodgaomhmbmaadoor", sum := "1eaeeb3970534974ccea923eac10df0f262b8445eb56470ae09bb9f1d68d2312", func := "annals/annalslaw4.LiftLent", spec := "liftLent", unfollowed := true, recurses := true, named := ["annals/lift.ways", "annals/annalsref3.rows", "annals/annalsref2.letters", "annals/record.may", "unicode/utf8.first", "unicode/utf8.acceptRanges", "annals/text.letters"], apart := false, laid := [("unicode/utf8.acceptRanges", laid_unicode_utf8_acceptRanges), ("annals/annalsref2.letters", laid_annals_annalsref2_letters), ("annals/annalsref3.rows", laid_annals_annalsref3_rows), ("annals/text.letters", laid_annals_text_letters), ("annals/record.may", laid_annals_record_may), ("annals/lift.ways", laid_annals_lift_ways), ("unicode/utf8.first", laid_unicode_utf8_first)] }
def LiftLentSaid : Prop := liftLentRow.holds Tryd.pinned (OpenSpec.ofChange liftLentSpec)

/-- ITS FALSE NEIGHBOUR: 'it returns false'. Refute it at one input. -/
def liftLentWrong : ChangeSpec := { name := "liftLent", fn := fun _ => fun
  | [d1, d2] => { results := [.lit (.bool false)], args := [d1, d2] }
  | _ => none }
def LiftLentWrongFalsely : Prop := liftLentRow.holds Tryd.pinned (OpenSpec.ofChange liftLentWrong)

/-- 'annalslaw4.LiftOwn': WHATEVER THE INPUT: true; the input reads as it did. -/
def liftOwnSpec : ChangeSpec := { name := "liftOwn", fn := fun _ => fun
  | [d1, d2] => { results := [.lit (.bool true)], args := [d1, d2] }
  | _ => none }
def liftOwnRow : OpenClaim := { program := "ytikodgaomhmbmaadoor", sum := "1eaeeb3970534974ccea923eac10df0f262b8445eb56470ae09bb9f1d68d2312", func := "annals/annalslaw4.LiftOwn", spec := "liftOwn", unfollowed := true, recurses := true, named := ["annals/record.may", "unicode/utf8.first", "unicode/utf8.acceptRanges", "annals/text.letters", "annals/lift.ways"], apart := false, laid := [("unicode/utf8.acceptRanges", laid_unicode_utf8_acceptRanges), ("annals/text.letters", laid_annals_text_letters), ("annals/record.may", laid_annals_record_may), ("annals/lift.ways", laid_annals_lift_ways), ("unicode/utf8.first", laid_unicode_utf8_first)] }
def LiftOwnSaid : Prop := liftOwnRow.holds Tryd.pinned (OpenSpec.ofChange liftOwnSpec)

/-- ITS FALSE NEIGHBOUR: 'it returns false'. Refute it at one input. -/
def liftOwnWrong : ChangeSpec := { name := "liftOwn", fn := fun _ => fun
  | [d1, d2] => { results := [.lit (.bool false)], args := [d1, d2] }
  | _ => none }
def LiftOwnWrongFalsely : Prop := liftOwnRow.holds Tryd.pinned (OpenSpec.ofChange liftOwnWrong)

/-- 'annalslaw4.LiftAgain': WHATEVER THE INPUT: true; the input reads as it did. -/
def liftAgainSpec : ChangeSpec := { name := "liftAgain", fn := fun _ => fun
  | [d1, d2, d3] => { results := [.lit (.bool true)], args := [d1, d2, d3] }
  | _ => none }
def liftAgainRow : OpenClaim := { program := "ytikodgaomhmbmaadoor", sum := "1eaeeb3970534974ccea923eac10df0f262b8445eb56470ae09bb9f1d68d2312", func := "annals/annalslaw4.LiftAgain", spec := "liftAgain", unfollowed := true, recurses := true, named := ["annals/record.may", "unicode/utf8.first", "unicode/utf8.acceptRanges", "annals/text.letters", "annals/lift.ways", "annals/annalsref3.rows", "annals/annalsref2.letters"], apart := false, laid := [("unicode/utf8.acceptRanges", laid_unicode_utf8_acceptRanges), ("annals/annalsref2.letters", laid_annals_annalsref2_letters), ("annals/annalsref3.rows", laid_annals_annalsref3_rows), ("annals/text.letters", laid_annals_text_letters), ("annals/record.may", laid_annals_record_may), ("annals/lift.ways", laid_annals_lift_ways), ("unicode/utf8.first", laid_unicode_utf8_first)] }
def LiftAgainSaid : Prop := liftAgainRow.holds Tryd.pinned (OpenSpec.ofChange liftAgainSpec)

/-- ITS FALSE NEIGHBOUR: 'it returns false'. Refute it at one input. -/
def liftAgainWrong : ChangeSpec := { name := "liftAgain", fn := fun _ => fun
  | [d1, d2, d3] => { results := [.lit (.bool false)], args := [d1, d2, d3] }
  | _ => none }
def LiftAgainWrongFalsely : Prop := liftAgainRow.holds Tryd.pinned (OpenSpec.ofChange liftAgainWrong)

/-- 'annalslaw4.LiftEmpty': WHATEVER THE INPUT: true; the input reads as it did. -/
def liftEmptySpec : ChangeSpec := { name := "liftEmpty", fn := fun _ => fun
  | [d1, d2] => { results := [.lit (.bool true)], args := [d1, d2] }
  | _ => none }
def liftEmptyRow : OpenClaim := { program := "ytikodgaomhmbmaadoor", sum := "1eaeeb3970534974ccea923eac10df0f262b8445eb56470ae09bb9f1d68d2312", func := "annals/annalslaw4.LiftEmpty", spec := "liftEmpty", unfollowed := true, recurses := true, named := ["annals/record.may", "unicode/utf8.first", "unicode/utf8.acceptRanges", "annals/text.letters", "annals/lift.ways"], apart := false, laid := [("unicode/utf8.acceptRanges", laid_unicode_utf8_acceptRanges), ("annals/text.letters", laid_annals_text_letters), ("annals/record.may", laid_annals_record_may), ("annals/lift.ways", laid_annals_lift_ways), ("unicode/utf8.first", laid_unicode_utf8_first)] }
def LiftEmptySaid : Prop := liftEmptyRow.holds Tryd.pinned (OpenSpec.ofChange liftEmptySpec)

/-- ITS FALSE NEIGHBOUR: 'it returns false'. Refute it at one input. -/
def liftEmptyWrong : ChangeSpec := { name := "liftEmpty", fn := fun _ => fun
  | [d1, d2] => { results := [.lit (.bool false)], args := [d1, d2] }
  | _ => none }
def LiftEmptyWrongFalsely : Prop := liftEmptyRow.holds Tryd.pinned (OpenSpec.ofChange liftEmptyWrong)

/-- 'annalslaw3.RecordAgain': WHATEVER THE INPUT: true; the input reads as it did. -/
def recordAgainSpec : ChangeSpec := { name := "recordAgain", fn := fun _ => fun
  | [d1, d2, d3, d4] => { results := [.lit (.bool true)], args := [d1, d2, d3, d4] }
  | _ => none }
def recordAgainRow : OpenClaim := { program := "ytikodgaomhmbmaadoor", sum := "1eaeeb3970534974ccea923eac10df0f262b8445eb56470ae09bb9f1d68d2312", func := "annals/annalslaw3.RecordAgain", spec := "recordAgain", named := ["annals/record.may", "unicode/utf8.first", "unicode/utf8.acceptRanges", "annals/text.letters", "annals/annalsref3.rows", "annals/annalsref2.letters"], apart := false, laid := [("unicode/utf8.acceptRanges", laid_unicode_utf8_acceptRanges), ("annals/annalsref2.letters", laid_annals_annalsref2_letters), ("annals/annalsref3.rows", laid_annals_annalsref3_rows), ("annals/text.letters", laid_annals_text_letters), ("annals/record.may", laid_annals_record_may), ("unicode/utf8.first", laid_unicode_utf8_first)] }
def RecordAgainSaid : Prop := recordAgainRow.holds Tryd.pinned (OpenSpec.ofChange recordAgainSpec)

/-- ITS FALSE NEIGHBOUR: 'it returns false'. Refute it at one input. -/
def recordAgainWrong : ChangeSpec := { name := "recordAgain", fn := fun _ => fun
  | [d1, d2, d3, d4] => { results := [.lit (.bool false)], args := [d1, d2, d3, d4] }
  | _ => none }
def RecordAgainWrongFalsely : Prop := recordAgainRow.holds Tryd.pinned (OpenSpec.ofChange recordAgainWrong)

/- THE SECOND FORM. 'bulk': how many values and letters a reading holds, each counted each time it is reached (what is shared counts as often as it is met; a slice's spare places count too). A statement '..UptoSaid' is the law's where the arguments, and the package variables that the reading takes, are together of bulk at most 1048576: NARROWER than '..Said'. Prove '..Said' where nothing that the law and all that it calls make is longer than what came in: it says more and counts as full. Else prove '..UptoSaid'. A law counts once. -/
mutual
def uptoBulk {H : Type} : DataW H → Nat
  | .lit (.string bytes) => bytes.length + 1
  | .lit _ => 1
  | .nil => 1
  | .ptr d => uptoBulk d + 1
  | .slice elems spare => uptoBulkAll elems + uptoBulkAll spare + 1
  | .agg parts => uptoBulkAll parts + 1
  | .iface _ d => uptoBulk d + 1
  | .map entries => uptoBulkEntries entries + 1
  | .held _ => 1
def uptoBulkAll {H : Type} : List (DataW H) → Nat
  | [] => 0
  | d :: r => uptoBulk d + uptoBulkAll r
def uptoBulkEntries {H : Type} : List (Lit × DataW H) → Nat
  | [] => 0
  | x :: r => uptoBulkEntry x + uptoBulkEntries r
def uptoBulkEntry {H : Type} : Lit × DataW H → Nat
  | (.string bytes, d) => bytes.length + uptoBulk d + 1
  | (_, d) => uptoBulk d + 1
 end
def uptoSmall : (H : Type) → List (DataW H) → Bool := fun _ ds => decide (uptoBulkAll ds ≤ 1048576)
def OpenSpec.upto (s : _root_.Go.ChangeSpec) : _root_.Go.OpenSpec := { _root_.Go.OpenSpec.ofChange s with cond := some uptoSmall }

/-- 'annalslaw3.RecordOwn', WHERE WHAT IT READS IS OF BULK AT MOST 1048576: true; the input reads as it did. -/
def recordOwnUptoRow : OpenClaim := { program := "ytikodgaomhmbmaadoor", sum := "1eaeeb3970534974ccea923eac10df0f262b8445eb56470ae09bb9f1d68d2312", func := "annals/annalslaw3.RecordOwn", spec := "recordOwn", named := ["annals/record.may", "unicode/utf8.first", "unicode/utf8.acceptRanges", "annals/text.letters"], apart := false, laid := [("unicode/utf8.acceptRanges", laid_unicode_utf8_acceptRanges), ("annals/text.letters", laid_annals_text_letters), ("annals/record.may", laid_annals_record_may), ("unicode/utf8.first", laid_unicode_utf8_first)], narrowed := true }
def RecordOwnUptoSaid : Prop := recordOwnUptoRow.holds Tryd.pinned (OpenSpec.upto recordOwnSpec)

/-- 'annalslaw4.LiftLent', WHERE WHAT IT READS IS OF BULK AT MOST 1048576: true; the input reads as it did. -/
def liftLentUptoRow : OpenClaim := { program := "ytikodgaomhmbmaadoor", sum := "1eaeeb3970534974ccea923eac10df0f262b8445eb56470ae09bb9f1d68d2312", func := "annals/annalslaw4.LiftLent", spec := "liftLent", unfollowed := true, recurses := true, named := ["annals/lift.ways", "annals/annalsref3.rows", "annals/annalsref2.letters", "annals/record.may", "unicode/utf8.first", "unicode/utf8.acceptRanges", "annals/text.letters"], apart := false, laid := [("unicode/utf8.acceptRanges", laid_unicode_utf8_acceptRanges), ("annals/annalsref2.letters", laid_annals_annalsref2_letters), ("annals/annalsref3.rows", laid_annals_annalsref3_rows), ("annals/text.letters", laid_annals_text_letters), ("annals/record.may", laid_annals_record_may), ("annals/lift.ways", laid_annals_lift_ways), ("unicode/utf8.first", laid_unicode_utf8_first)], narrowed := true }
def LiftLentUptoSaid : Prop := liftLentUptoRow.holds Tryd.pinned (OpenSpec.upto liftLentSpec)

/-- 'annalslaw4.LiftOwn', WHERE WHAT IT READS IS OF BULK AT MOST 1048576: true; the input reads as it did. -/
def liftOwnUptoRow : OpenClaim := { program := "ytikodgaomhmbmaadoor", sum := "1eaeeb3970534974ccea923eac10df0f262b8445eb56470ae09bb9f1d68d2312", func := "annals/annalslaw4.LiftOwn", spec := "liftOwn", unfollowed := true, recurses := true, named := ["annals/record.may", "unicode/utf8.first", "unicode/utf8.acceptRanges", "annals/text.letters", "annals/lift.ways"], apart := false, laid := [("unicode/utf8.acceptRanges", laid_unicode_utf8_acceptRanges), ("annals/text.letters", laid_annals_text_letters), ("annals/record.may", laid_annals_record_may), ("annals/lift.ways", laid_annals_lift_ways), ("unicode/utf8.first", laid_unicode_utf8_first)], narrowed := true }
def LiftOwnUptoSaid : Prop := liftOwnUptoRow.holds Tryd.pinned (OpenSpec.upto liftOwnSpec)

/-- 'annalslaw4.LiftAgain', WHERE WHAT IT READS IS OF BULK AT MOST 1048576: true; the input reads as it did. -/
def liftAgainUptoRow : OpenClaim := { program := "ytikodgaomhmbmaadoor", sum := "1eaeeb3970534974ccea923eac10df0f262b8445eb56470ae09bb9f1d68d2312", func := "annals/annalslaw4.LiftAgain", spec := "liftAgain", unfollowed := true, recurses := true, named := ["annals/record.may", "unicode/utf8.first", "unicode/utf8.acceptRanges", "annals/text.letters", "annals/lift.ways", "annals/annalsref3.rows", "annals/annalsref2.letters"], apart := false, laid := [("unicode/utf8.acceptRanges", laid_unicode_utf8_acceptRanges), ("annals/annalsref2.letters", laid_annals_annalsref2_letters), ("annals/annalsref3.rows", laid_annals_annalsref3_rows), ("annals/text.letters", laid_annals_text_letters), ("annals/record.may", laid_annals_record_may), ("annals/lift.ways", laid_annals_lift_ways), ("unicode/utf8.first", laid_unicode_utf8_first)], narrowed := true }
def LiftAgainUptoSaid : Prop := liftAgainUptoRow.holds Tryd.pinned (OpenSpec.upto liftAgainSpec)

/-- 'annalslaw4.LiftEmpty', WHERE WHAT IT READS IS OF BULK AT MOST 1048576: true; the input reads as it did. -/
def liftEmptyUptoRow : OpenClaim := { program := "ytikodgaomhmbmaadoor", sum := "1eaeeb3970534974ccea923eac10df0f262b8445eb56470ae09bb9f1d68d2312", func := "annals/annalslaw4.LiftEmpty", spec := "liftEmpty", unfollowed := true, recurses := true, named := ["annals/record.may", "unicode/utf8.first", "unicode/utf8.acceptRanges", "annals/text.letters", "annals/lift.ways"], apart := false, laid := [("unicode/utf8.acceptRanges", laid_unicode_utf8_acceptRanges), ("annals/text.letters", laid_annals_text_letters), ("annals/record.may", laid_annals_record_may), ("annals/lift.ways", laid_annals_lift_ways), ("unicode/utf8.first", laid_unicode_utf8_first)], narrowed := true }
def LiftEmptyUptoSaid : Prop := liftEmptyUptoRow.holds Tryd.pinned (OpenSpec.upto liftEmptySpec)

/-- 'annalslaw3.RecordAgain', WHERE WHAT IT READS IS OF BULK AT MOST 1048576: true; the input reads as it did. -/
def recordAgainUptoRow : OpenClaim := { program := "ytikodgaomhmbmaadoor", sum := "1eaeeb3970534974ccea923eac10df0f262b8445eb56470ae09bb9f1d68d2312", func := "annals/annalslaw3.RecordAgain", spec := "recordAgain", named := ["annals/record.may", "unicode/utf8.first", "unicode/utf8.acceptRanges", "annals/text.letters", "annals/annalsref3.rows", "annals/annalsref2.letters"], apart := false, laid := [("unicode/utf8.acceptRanges", laid_unicode_utf8_acceptRanges), ("annals/annalsref2.letters", laid_annals_annalsref2_letters), ("annals/annalsref3.rows", laid_annals_annalsref3_rows), ("annals/text.letters", laid_annals_text_letters), ("annals/record.may", laid_annals_record_may), ("unicode/utf8.first", laid_unicode_utf8_first)], narrowed := true }
def RecordAgainUptoSaid : Prop := recordAgainUptoRow.holds Tryd.pinned (OpenSpec.upto recordAgainSpec)

end Rows
end Go.Proofs.YtikodgaomhmbmaaDoor
