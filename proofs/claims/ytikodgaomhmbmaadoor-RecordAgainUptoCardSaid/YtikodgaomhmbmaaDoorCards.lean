/-
  DERIVED. GIVEN WITH THE SEED: THE CARDS: each row of YtikodgaomhmbmaaDoorRows.lean that lists a variable, with what it lists TIED to the program's text (the seventh form; the later family's looks); each row that meets fmt, with fmt's text TOLD by the authors' own Lean function (tested against real Go, not proved from fmt's source: count such statements apart). THE CARD IS WHAT COUNTS. Prove the row's statement (the work); the ties are given (YtikodgaomhmbmaaDoorTie.lean); close each card by the builder's one call (the guide's Derived/Test/ToyasCard.lean, 'card_holds'). Laid BY PROGRAM, IN A SANDBOX (cutbox-door.mjs). By AI agents, Wed Nov 11 2026. No macro, syntax, notation, axiom, sorry.
-/
import Derived.Test.YtikodgaomhmbmaaDoorRows
import GoSem.ClaimSeven
namespace Go.Proofs.YtikodgaomhmbmaaDoor
namespace Rows

/-- THE TIED CARD OF 'annalslaw3.RecordOwn'. -/
def recordOwnCard : Claim7 := { stood := { row := recordOwnRow, standIns := [], harness := (true, "1912c8c7d23a7e79c170eed737557f654935f1b44327cdbda4fbd9a320b3611b"), looks := false }, kinds := [], alts := [], laidByText := true, laidKinds := [.data, .data, .data, .pinned], laidTests := true, laidLooks := .later }
def RecordOwnCardSaid : Prop := Claim7.holds Tryd.pinned (.plain (OpenSpec.ofChange recordOwnSpec)) recordOwnCard

/-- THE TIED CARD OF 'annalslaw4.LiftLent'. -/
def liftLentCard : Claim7 := { stood := { row := liftLentRow, standIns := [], harness := (true, "1912c8c7d23a7e79c170eed737557f654935f1b44327cdbda4fbd9a320b3611b"), looks := false }, kinds := [], alts := [], laidByText := true, laidKinds := [.data, .data, .data, .data, .data, .wider, .pinned], laidTests := true, laidLooks := .later }
def LiftLentCardSaid : Prop := Claim7.holds Tryd.pinned (.plain (OpenSpec.ofChange liftLentSpec)) liftLentCard

/-- THE TIED CARD OF 'annalslaw4.LiftOwn'. -/
def liftOwnCard : Claim7 := { stood := { row := liftOwnRow, standIns := [], harness := (true, "1912c8c7d23a7e79c170eed737557f654935f1b44327cdbda4fbd9a320b3611b"), looks := false }, kinds := [], alts := [], laidByText := true, laidKinds := [.data, .data, .data, .wider, .pinned], laidTests := true, laidLooks := .later }
def LiftOwnCardSaid : Prop := Claim7.holds Tryd.pinned (.plain (OpenSpec.ofChange liftOwnSpec)) liftOwnCard

/-- THE TIED CARD OF 'annalslaw4.LiftAgain'. -/
def liftAgainCard : Claim7 := { stood := { row := liftAgainRow, standIns := [], harness := (true, "1912c8c7d23a7e79c170eed737557f654935f1b44327cdbda4fbd9a320b3611b"), looks := false }, kinds := [], alts := [], laidByText := true, laidKinds := [.data, .data, .data, .data, .data, .wider, .pinned], laidTests := true, laidLooks := .later }
def LiftAgainCardSaid : Prop := Claim7.holds Tryd.pinned (.plain (OpenSpec.ofChange liftAgainSpec)) liftAgainCard

/-- THE TIED CARD OF 'annalslaw4.LiftEmpty'. -/
def liftEmptyCard : Claim7 := { stood := { row := liftEmptyRow, standIns := [], harness := (true, "1912c8c7d23a7e79c170eed737557f654935f1b44327cdbda4fbd9a320b3611b"), looks := false }, kinds := [], alts := [], laidByText := true, laidKinds := [.data, .data, .data, .wider, .pinned], laidTests := true, laidLooks := .later }
def LiftEmptyCardSaid : Prop := Claim7.holds Tryd.pinned (.plain (OpenSpec.ofChange liftEmptySpec)) liftEmptyCard

/-- THE TIED CARD OF 'annalslaw3.RecordAgain'. -/
def recordAgainCard : Claim7 := { stood := { row := recordAgainRow, standIns := [], harness := (true, "1912c8c7d23a7e79c170eed737557f654935f1b44327cdbda4fbd9a320b3611b"), looks := false }, kinds := [], alts := [], laidByText := true, laidKinds := [.data, .data, .data, .data, .data, .pinned], laidTests := true, laidLooks := .later }
def RecordAgainCardSaid : Prop := Claim7.holds Tryd.pinned (.plain (OpenSpec.ofChange recordAgainSpec)) recordAgainCard

/-- THE SECOND FORM's CARD OF 'annalslaw3.RecordOwn'. -/
def recordOwnUptoCard : Claim7 := { stood := { row := recordOwnUptoRow, standIns := [], harness := (true, "1912c8c7d23a7e79c170eed737557f654935f1b44327cdbda4fbd9a320b3611b"), looks := false }, kinds := [], alts := [], laidByText := true, laidKinds := [.data, .data, .data, .pinned], laidTests := true, laidLooks := .later }
def RecordOwnUptoCardSaid : Prop := Claim7.holds Tryd.pinned (.plain (OpenSpec.upto recordOwnSpec)) recordOwnUptoCard

/-- THE SECOND FORM's CARD OF 'annalslaw4.LiftLent'. -/
def liftLentUptoCard : Claim7 := { stood := { row := liftLentUptoRow, standIns := [], harness := (true, "1912c8c7d23a7e79c170eed737557f654935f1b44327cdbda4fbd9a320b3611b"), looks := false }, kinds := [], alts := [], laidByText := true, laidKinds := [.data, .data, .data, .data, .data, .wider, .pinned], laidTests := true, laidLooks := .later }
def LiftLentUptoCardSaid : Prop := Claim7.holds Tryd.pinned (.plain (OpenSpec.upto liftLentSpec)) liftLentUptoCard

/-- THE SECOND FORM's CARD OF 'annalslaw4.LiftOwn'. -/
def liftOwnUptoCard : Claim7 := { stood := { row := liftOwnUptoRow, standIns := [], harness := (true, "1912c8c7d23a7e79c170eed737557f654935f1b44327cdbda4fbd9a320b3611b"), looks := false }, kinds := [], alts := [], laidByText := true, laidKinds := [.data, .data, .data, .wider, .pinned], laidTests := true, laidLooks := .later }
def LiftOwnUptoCardSaid : Prop := Claim7.holds Tryd.pinned (.plain (OpenSpec.upto liftOwnSpec)) liftOwnUptoCard

/-- THE SECOND FORM's CARD OF 'annalslaw4.LiftAgain'. -/
def liftAgainUptoCard : Claim7 := { stood := { row := liftAgainUptoRow, standIns := [], harness := (true, "1912c8c7d23a7e79c170eed737557f654935f1b44327cdbda4fbd9a320b3611b"), looks := false }, kinds := [], alts := [], laidByText := true, laidKinds := [.data, .data, .data, .data, .data, .wider, .pinned], laidTests := true, laidLooks := .later }
def LiftAgainUptoCardSaid : Prop := Claim7.holds Tryd.pinned (.plain (OpenSpec.upto liftAgainSpec)) liftAgainUptoCard

/-- THE SECOND FORM's CARD OF 'annalslaw4.LiftEmpty'. -/
def liftEmptyUptoCard : Claim7 := { stood := { row := liftEmptyUptoRow, standIns := [], harness := (true, "1912c8c7d23a7e79c170eed737557f654935f1b44327cdbda4fbd9a320b3611b"), looks := false }, kinds := [], alts := [], laidByText := true, laidKinds := [.data, .data, .data, .wider, .pinned], laidTests := true, laidLooks := .later }
def LiftEmptyUptoCardSaid : Prop := Claim7.holds Tryd.pinned (.plain (OpenSpec.upto liftEmptySpec)) liftEmptyUptoCard

/-- THE SECOND FORM's CARD OF 'annalslaw3.RecordAgain'. -/
def recordAgainUptoCard : Claim7 := { stood := { row := recordAgainUptoRow, standIns := [], harness := (true, "1912c8c7d23a7e79c170eed737557f654935f1b44327cdbda4fbd9a320b3611b"), looks := false }, kinds := [], alts := [], laidByText := true, laidKinds := [.data, .data, .data, .data, .data, .pinned], laidTests := true, laidLooks := .later }
def RecordAgainUptoCardSaid : Prop := Claim7.holds Tryd.pinned (.plain (OpenSpec.upto recordAgainSpec)) recordAgainUptoCard
end Rows
end Go.Proofs.YtikodgaomhmbmaaDoor
