/-
  DERIVED. GIVEN WITH THE SEED: THE CARDS: each row of YtjhiohjpkdjkoaaDoorRows.lean that lists a variable, with what it lists TIED to the program's text (the seventh form; the later family's looks); each row that meets fmt, with fmt's text TOLD by the authors' own Lean function (tested against real Go, not proved from fmt's source: count such statements apart). THE CARD IS WHAT COUNTS. Prove the row's statement (the work); the ties are given (YtjhiohjpkdjkoaaDoorTie.lean); close each card by the builder's one call (the guide's Derived/Test/ToyasCard.lean, 'card_holds'). Laid BY PROGRAM, IN A SANDBOX (cutbox-door.mjs). By AI agents, Wed Nov 11 2026. No macro, syntax, notation, axiom, sorry.
-/
import Derived.Test.YtjhiohjpkdjkoaaDoorRows
import GoSem.ClaimSeven
namespace Go.Proofs.YtjhiohjpkdjkoaaDoor
namespace Rows

/-- THE TIED CARD OF 'annalslaw3.RecordFields'. -/
def recordFieldsCard : Claim7 := { stood := { row := recordFieldsRow, standIns := [], harness := (true, "73a53b4f266fc5f1721863b0919ef00a3b737c7cdd0dddfda92749af325c225d"), looks := false }, kinds := [], alts := [], laidByText := true, laidKinds := [.data, .data], laidTests := true, laidLooks := .later }
def RecordFieldsCardSaid : Prop := Claim7.holds Tryd.pinned (.plain (OpenSpec.ofChange recordFieldsSpec)) recordFieldsCard

/-- THE TIED CARD OF 'annalslaw4.LiftSteps'. -/
def liftStepsCard : Claim7 := { stood := { row := liftStepsRow, standIns := [], harness := (true, "73a53b4f266fc5f1721863b0919ef00a3b737c7cdd0dddfda92749af325c225d"), looks := false }, kinds := [], alts := [], laidByText := true, laidKinds := [.wider], laidTests := true, laidLooks := .later }
def LiftStepsCardSaid : Prop := Claim7.holds Tryd.pinned (.plain (OpenSpec.ofChange liftStepsSpec)) liftStepsCard

/-- THE TIED CARD OF 'annalslaw4.LiftEach'. -/
def liftEachCard : Claim7 := { stood := { row := liftEachRow, standIns := [], harness := (true, "73a53b4f266fc5f1721863b0919ef00a3b737c7cdd0dddfda92749af325c225d"), looks := false }, kinds := [], alts := [], laidByText := true, laidKinds := [.data, .data, .data, .wider, .pinned], laidTests := true, laidLooks := .later }
def LiftEachCardSaid : Prop := Claim7.holds Tryd.pinned (.plain (OpenSpec.ofChange liftEachSpec)) liftEachCard

/-- THE TIED CARD OF 'annalslaw3.RecordOwn'. -/
def recordOwnCard : Claim7 := { stood := { row := recordOwnRow, standIns := [], harness := (true, "73a53b4f266fc5f1721863b0919ef00a3b737c7cdd0dddfda92749af325c225d"), looks := false }, kinds := [], alts := [], laidByText := true, laidKinds := [.data, .data, .data, .pinned], laidTests := true, laidLooks := .later }
def RecordOwnCardSaid : Prop := Claim7.holds Tryd.pinned (.plain (OpenSpec.ofChange recordOwnSpec)) recordOwnCard

/-- THE TIED CARD OF 'annalslaw4.LiftBack'. -/
def liftBackCard : Claim7 := { stood := { row := liftBackRow, standIns := [], harness := (true, "73a53b4f266fc5f1721863b0919ef00a3b737c7cdd0dddfda92749af325c225d"), looks := false }, kinds := [], alts := [], laidByText := true, laidKinds := [.data, .data, .data, .data, .data, .wider, .pinned], laidTests := true, laidLooks := .later }
def LiftBackCardSaid : Prop := Claim7.holds Tryd.pinned (.plain (OpenSpec.ofChange liftBackSpec)) liftBackCard

/-- THE TIED CARD OF 'annalslaw4.LiftLoss'. -/
def liftLossCard : Claim7 := { stood := { row := liftLossRow, standIns := [], harness := (true, "73a53b4f266fc5f1721863b0919ef00a3b737c7cdd0dddfda92749af325c225d"), looks := false }, kinds := [], alts := [], laidByText := true, laidKinds := [.data, .data, .data, .data, .data, .wider, .pinned], laidTests := true, laidLooks := .later }
def LiftLossCardSaid : Prop := Claim7.holds Tryd.pinned (.plain (OpenSpec.ofChange liftLossSpec)) liftLossCard

/-- THE TIED CARD OF 'annalslaw3.RecordPlays'. -/
def recordPlaysCard : Claim7 := { stood := { row := recordPlaysRow, standIns := [], harness := (true, "73a53b4f266fc5f1721863b0919ef00a3b737c7cdd0dddfda92749af325c225d"), looks := false }, kinds := [], alts := [], laidByText := true, laidKinds := [.data, .data, .data, .data, .data, .pinned], laidTests := true, laidLooks := .later }
def RecordPlaysCardSaid : Prop := Claim7.holds Tryd.pinned (.plain (OpenSpec.ofChange recordPlaysSpec)) recordPlaysCard

/-- THE TIED CARD OF 'annalslaw3.RecordLater'. -/
def recordLaterCard : Claim7 := { stood := { row := recordLaterRow, standIns := [], harness := (true, "73a53b4f266fc5f1721863b0919ef00a3b737c7cdd0dddfda92749af325c225d"), looks := false }, kinds := [], alts := [], laidByText := true, laidKinds := [.data, .data, .data, .pinned], laidTests := true, laidLooks := .later }
def RecordLaterCardSaid : Prop := Claim7.holds Tryd.pinned (.plain (OpenSpec.ofChange recordLaterSpec)) recordLaterCard

/-- THE TIED CARD OF 'annalslaw4.LiftLent'. -/
def liftLentCard : Claim7 := { stood := { row := liftLentRow, standIns := [], harness := (true, "73a53b4f266fc5f1721863b0919ef00a3b737c7cdd0dddfda92749af325c225d"), looks := false }, kinds := [], alts := [], laidByText := true, laidKinds := [.data, .data, .data, .data, .data, .wider, .pinned], laidTests := true, laidLooks := .later }
def LiftLentCardSaid : Prop := Claim7.holds Tryd.pinned (.plain (OpenSpec.ofChange liftLentSpec)) liftLentCard

/-- THE TIED CARD OF 'annalslaw4.LiftChain'. -/
def liftChainCard : Claim7 := { stood := { row := liftChainRow, standIns := [], harness := (true, "73a53b4f266fc5f1721863b0919ef00a3b737c7cdd0dddfda92749af325c225d"), looks := false }, kinds := [], alts := [], laidByText := true, laidKinds := [.data, .data, .data, .data, .data, .wider, .pinned], laidTests := true, laidLooks := .later }
def LiftChainCardSaid : Prop := Claim7.holds Tryd.pinned (.plain (OpenSpec.ofChange liftChainSpec)) liftChainCard

/-- THE TIED CARD OF 'annalslaw4.LiftOwn'. -/
def liftOwnCard : Claim7 := { stood := { row := liftOwnRow, standIns := [], harness := (true, "73a53b4f266fc5f1721863b0919ef00a3b737c7cdd0dddfda92749af325c225d"), looks := false }, kinds := [], alts := [], laidByText := true, laidKinds := [.data, .data, .data, .wider, .pinned], laidTests := true, laidLooks := .later }
def LiftOwnCardSaid : Prop := Claim7.holds Tryd.pinned (.plain (OpenSpec.ofChange liftOwnSpec)) liftOwnCard

/-- THE TIED CARD OF 'annalslaw4.LiftAgain'. -/
def liftAgainCard : Claim7 := { stood := { row := liftAgainRow, standIns := [], harness := (true, "73a53b4f266fc5f1721863b0919ef00a3b737c7cdd0dddfda92749af325c225d"), looks := false }, kinds := [], alts := [], laidByText := true, laidKinds := [.data, .data, .data, .data, .data, .wider, .pinned], laidTests := true, laidLooks := .later }
def LiftAgainCardSaid : Prop := Claim7.holds Tryd.pinned (.plain (OpenSpec.ofChange liftAgainSpec)) liftAgainCard

/-- THE TIED CARD OF 'annalslaw4.LiftEmpty'. -/
def liftEmptyCard : Claim7 := { stood := { row := liftEmptyRow, standIns := [], harness := (true, "73a53b4f266fc5f1721863b0919ef00a3b737c7cdd0dddfda92749af325c225d"), looks := false }, kinds := [], alts := [], laidByText := true, laidKinds := [.data, .data, .data, .wider, .pinned], laidTests := true, laidLooks := .later }
def LiftEmptyCardSaid : Prop := Claim7.holds Tryd.pinned (.plain (OpenSpec.ofChange liftEmptySpec)) liftEmptyCard

/-- THE TIED CARD OF 'annalslaw4.LiftUps'. -/
def liftUpsCard : Claim7 := { stood := { row := liftUpsRow, standIns := [], harness := (true, "73a53b4f266fc5f1721863b0919ef00a3b737c7cdd0dddfda92749af325c225d"), looks := false }, kinds := [], alts := [], laidByText := true, laidKinds := [.data, .data, .data, .data, .data, .wider, .pinned], laidTests := true, laidLooks := .later }
def LiftUpsCardSaid : Prop := Claim7.holds Tryd.pinned (.plain (OpenSpec.ofChange liftUpsSpec)) liftUpsCard

/-- THE TIED CARD OF 'annalslaw4.LiftDowns'. -/
def liftDownsCard : Claim7 := { stood := { row := liftDownsRow, standIns := [], harness := (true, "73a53b4f266fc5f1721863b0919ef00a3b737c7cdd0dddfda92749af325c225d"), looks := false }, kinds := [], alts := [], laidByText := true, laidKinds := [.data, .data, .data, .data, .data, .wider, .pinned], laidTests := true, laidLooks := .later }
def LiftDownsCardSaid : Prop := Claim7.holds Tryd.pinned (.plain (OpenSpec.ofChange liftDownsSpec)) liftDownsCard

/-- THE TIED CARD OF 'annalslaw4.LiftLists'. -/
def liftListsCard : Claim7 := { stood := { row := liftListsRow, standIns := [], harness := (true, "73a53b4f266fc5f1721863b0919ef00a3b737c7cdd0dddfda92749af325c225d"), looks := false }, kinds := [], alts := [], laidByText := true, laidKinds := [.data, .data, .data, .data, .data, .wider, .pinned], laidTests := true, laidLooks := .later }
def LiftListsCardSaid : Prop := Claim7.holds Tryd.pinned (.plain (OpenSpec.ofChange liftListsSpec)) liftListsCard

/-- THE TIED CARD OF 'annalslaw4.LiftPlays'. -/
def liftPlaysCard : Claim7 := { stood := { row := liftPlaysRow, standIns := [], harness := (true, "73a53b4f266fc5f1721863b0919ef00a3b737c7cdd0dddfda92749af325c225d"), looks := false }, kinds := [], alts := [], laidByText := true, laidKinds := [.data, .data, .data, .data, .data, .wider, .pinned], laidTests := true, laidLooks := .later }
def LiftPlaysCardSaid : Prop := Claim7.holds Tryd.pinned (.plain (OpenSpec.ofChange liftPlaysSpec)) liftPlaysCard

/-- THE TIED CARD OF 'annalslaw3.RecordChecks'. -/
def recordChecksCard : Claim7 := { stood := { row := recordChecksRow, standIns := [], harness := (true, "73a53b4f266fc5f1721863b0919ef00a3b737c7cdd0dddfda92749af325c225d"), looks := false }, kinds := [], alts := [], laidByText := true, laidKinds := [.data, .data, .data, .data, .data, .pinned], laidTests := true, laidLooks := .later }
def RecordChecksCardSaid : Prop := Claim7.holds Tryd.pinned (.plain (OpenSpec.ofChange recordChecksSpec)) recordChecksCard

/-- THE TIED CARD OF 'annalslaw3.RecordWrites'. -/
def recordWritesCard : Claim7 := { stood := { row := recordWritesRow, standIns := [], harness := (true, "73a53b4f266fc5f1721863b0919ef00a3b737c7cdd0dddfda92749af325c225d"), looks := false }, kinds := [], alts := [], laidByText := true, laidKinds := [.data, .data, .data, .data, .data, .pinned], laidTests := true, laidLooks := .later }
def RecordWritesCardSaid : Prop := Claim7.holds Tryd.pinned (.plain (OpenSpec.ofChange recordWritesSpec)) recordWritesCard

/-- THE TIED CARD OF 'annalslaw3.RecordReads'. -/
def recordReadsCard : Claim7 := { stood := { row := recordReadsRow, standIns := [], harness := (true, "73a53b4f266fc5f1721863b0919ef00a3b737c7cdd0dddfda92749af325c225d"), looks := false }, kinds := [], alts := [], laidByText := true, laidKinds := [.data, .data, .data, .data, .data, .pinned], laidTests := true, laidLooks := .later }
def RecordReadsCardSaid : Prop := Claim7.holds Tryd.pinned (.plain (OpenSpec.ofChange recordReadsSpec)) recordReadsCard

/-- THE TIED CARD OF 'annalslaw3.RecordOneWay'. -/
def recordOneWayCard : Claim7 := { stood := { row := recordOneWayRow, standIns := [], harness := (true, "73a53b4f266fc5f1721863b0919ef00a3b737c7cdd0dddfda92749af325c225d"), looks := false }, kinds := [], alts := [], laidByText := true, laidKinds := [.data, .data, .data, .pinned], laidTests := true, laidLooks := .later }
def RecordOneWayCardSaid : Prop := Claim7.holds Tryd.pinned (.plain (OpenSpec.ofChange recordOneWaySpec)) recordOneWayCard

/-- THE TIED CARD OF 'annalslaw3.RecordBack'. -/
def recordBackCard : Claim7 := { stood := { row := recordBackRow, standIns := [], harness := (true, "73a53b4f266fc5f1721863b0919ef00a3b737c7cdd0dddfda92749af325c225d"), looks := false }, kinds := [], alts := [], laidByText := true, laidKinds := [.data, .data, .data, .pinned], laidTests := true, laidLooks := .later }
def RecordBackCardSaid : Prop := Claim7.holds Tryd.pinned (.plain (OpenSpec.ofChange recordBackSpec)) recordBackCard

/-- THE TIED CARD OF 'annalslaw3.RecordGrow'. -/
def recordGrowCard : Claim7 := { stood := { row := recordGrowRow, standIns := [], harness := (true, "73a53b4f266fc5f1721863b0919ef00a3b737c7cdd0dddfda92749af325c225d"), looks := false }, kinds := [], alts := [], laidByText := true, laidKinds := [.data, .data, .data, .pinned], laidTests := true, laidLooks := .later }
def RecordGrowCardSaid : Prop := Claim7.holds Tryd.pinned (.plain (OpenSpec.ofChange recordGrowSpec)) recordGrowCard

/-- THE TIED CARD OF 'annalslaw3.RecordAgain'. -/
def recordAgainCard : Claim7 := { stood := { row := recordAgainRow, standIns := [], harness := (true, "73a53b4f266fc5f1721863b0919ef00a3b737c7cdd0dddfda92749af325c225d"), looks := false }, kinds := [], alts := [], laidByText := true, laidKinds := [.data, .data, .data, .data, .data, .pinned], laidTests := true, laidLooks := .later }
def RecordAgainCardSaid : Prop := Claim7.holds Tryd.pinned (.plain (OpenSpec.ofChange recordAgainSpec)) recordAgainCard

/-- THE SECOND FORM's CARD OF 'annalslaw3.RecordFields'. -/
def recordFieldsUptoCard : Claim7 := { stood := { row := recordFieldsUptoRow, standIns := [], harness := (true, "73a53b4f266fc5f1721863b0919ef00a3b737c7cdd0dddfda92749af325c225d"), looks := false }, kinds := [], alts := [], laidByText := true, laidKinds := [.data, .data], laidTests := true, laidLooks := .later }
def RecordFieldsUptoCardSaid : Prop := Claim7.holds Tryd.pinned (.plain (OpenSpec.upto recordFieldsSpec)) recordFieldsUptoCard

/-- THE SECOND FORM's CARD OF 'annalslaw4.LiftSteps'. -/
def liftStepsUptoCard : Claim7 := { stood := { row := liftStepsUptoRow, standIns := [], harness := (true, "73a53b4f266fc5f1721863b0919ef00a3b737c7cdd0dddfda92749af325c225d"), looks := false }, kinds := [], alts := [], laidByText := true, laidKinds := [.wider], laidTests := true, laidLooks := .later }
def LiftStepsUptoCardSaid : Prop := Claim7.holds Tryd.pinned (.plain (OpenSpec.upto liftStepsSpec)) liftStepsUptoCard

/-- THE SECOND FORM's CARD OF 'annalslaw4.LiftEach'. -/
def liftEachUptoCard : Claim7 := { stood := { row := liftEachUptoRow, standIns := [], harness := (true, "73a53b4f266fc5f1721863b0919ef00a3b737c7cdd0dddfda92749af325c225d"), looks := false }, kinds := [], alts := [], laidByText := true, laidKinds := [.data, .data, .data, .wider, .pinned], laidTests := true, laidLooks := .later }
def LiftEachUptoCardSaid : Prop := Claim7.holds Tryd.pinned (.plain (OpenSpec.upto liftEachSpec)) liftEachUptoCard

/-- THE SECOND FORM's CARD OF 'annalslaw3.RecordOwn'. -/
def recordOwnUptoCard : Claim7 := { stood := { row := recordOwnUptoRow, standIns := [], harness := (true, "73a53b4f266fc5f1721863b0919ef00a3b737c7cdd0dddfda92749af325c225d"), looks := false }, kinds := [], alts := [], laidByText := true, laidKinds := [.data, .data, .data, .pinned], laidTests := true, laidLooks := .later }
def RecordOwnUptoCardSaid : Prop := Claim7.holds Tryd.pinned (.plain (OpenSpec.upto recordOwnSpec)) recordOwnUptoCard

/-- THE SECOND FORM's CARD OF 'annalslaw4.LiftBack'. -/
def liftBackUptoCard : Claim7 := { stood := { row := liftBackUptoRow, standIns := [], harness := (true, "73a53b4f266fc5f1721863b0919ef00a3b737c7cdd0dddfda92749af325c225d"), looks := false }, kinds := [], alts := [], laidByText := true, laidKinds := [.data, .data, .data, .data, .data, .wider, .pinned], laidTests := true, laidLooks := .later }
def LiftBackUptoCardSaid : Prop := Claim7.holds Tryd.pinned (.plain (OpenSpec.upto liftBackSpec)) liftBackUptoCard

/-- THE SECOND FORM's CARD OF 'annalslaw4.LiftLoss'. -/
def liftLossUptoCard : Claim7 := { stood := { row := liftLossUptoRow, standIns := [], harness := (true, "73a53b4f266fc5f1721863b0919ef00a3b737c7cdd0dddfda92749af325c225d"), looks := false }, kinds := [], alts := [], laidByText := true, laidKinds := [.data, .data, .data, .data, .data, .wider, .pinned], laidTests := true, laidLooks := .later }
def LiftLossUptoCardSaid : Prop := Claim7.holds Tryd.pinned (.plain (OpenSpec.upto liftLossSpec)) liftLossUptoCard

/-- THE SECOND FORM's CARD OF 'annalslaw3.RecordPlays'. -/
def recordPlaysUptoCard : Claim7 := { stood := { row := recordPlaysUptoRow, standIns := [], harness := (true, "73a53b4f266fc5f1721863b0919ef00a3b737c7cdd0dddfda92749af325c225d"), looks := false }, kinds := [], alts := [], laidByText := true, laidKinds := [.data, .data, .data, .data, .data, .pinned], laidTests := true, laidLooks := .later }
def RecordPlaysUptoCardSaid : Prop := Claim7.holds Tryd.pinned (.plain (OpenSpec.upto recordPlaysSpec)) recordPlaysUptoCard

/-- THE SECOND FORM's CARD OF 'annalslaw3.RecordLater'. -/
def recordLaterUptoCard : Claim7 := { stood := { row := recordLaterUptoRow, standIns := [], harness := (true, "73a53b4f266fc5f1721863b0919ef00a3b737c7cdd0dddfda92749af325c225d"), looks := false }, kinds := [], alts := [], laidByText := true, laidKinds := [.data, .data, .data, .pinned], laidTests := true, laidLooks := .later }
def RecordLaterUptoCardSaid : Prop := Claim7.holds Tryd.pinned (.plain (OpenSpec.upto recordLaterSpec)) recordLaterUptoCard

/-- THE SECOND FORM's CARD OF 'annalslaw4.LiftLent'. -/
def liftLentUptoCard : Claim7 := { stood := { row := liftLentUptoRow, standIns := [], harness := (true, "73a53b4f266fc5f1721863b0919ef00a3b737c7cdd0dddfda92749af325c225d"), looks := false }, kinds := [], alts := [], laidByText := true, laidKinds := [.data, .data, .data, .data, .data, .wider, .pinned], laidTests := true, laidLooks := .later }
def LiftLentUptoCardSaid : Prop := Claim7.holds Tryd.pinned (.plain (OpenSpec.upto liftLentSpec)) liftLentUptoCard

/-- THE SECOND FORM's CARD OF 'annalslaw4.LiftChain'. -/
def liftChainUptoCard : Claim7 := { stood := { row := liftChainUptoRow, standIns := [], harness := (true, "73a53b4f266fc5f1721863b0919ef00a3b737c7cdd0dddfda92749af325c225d"), looks := false }, kinds := [], alts := [], laidByText := true, laidKinds := [.data, .data, .data, .data, .data, .wider, .pinned], laidTests := true, laidLooks := .later }
def LiftChainUptoCardSaid : Prop := Claim7.holds Tryd.pinned (.plain (OpenSpec.upto liftChainSpec)) liftChainUptoCard

/-- THE SECOND FORM's CARD OF 'annalslaw4.LiftOwn'. -/
def liftOwnUptoCard : Claim7 := { stood := { row := liftOwnUptoRow, standIns := [], harness := (true, "73a53b4f266fc5f1721863b0919ef00a3b737c7cdd0dddfda92749af325c225d"), looks := false }, kinds := [], alts := [], laidByText := true, laidKinds := [.data, .data, .data, .wider, .pinned], laidTests := true, laidLooks := .later }
def LiftOwnUptoCardSaid : Prop := Claim7.holds Tryd.pinned (.plain (OpenSpec.upto liftOwnSpec)) liftOwnUptoCard

/-- THE SECOND FORM's CARD OF 'annalslaw4.LiftAgain'. -/
def liftAgainUptoCard : Claim7 := { stood := { row := liftAgainUptoRow, standIns := [], harness := (true, "73a53b4f266fc5f1721863b0919ef00a3b737c7cdd0dddfda92749af325c225d"), looks := false }, kinds := [], alts := [], laidByText := true, laidKinds := [.data, .data, .data, .data, .data, .wider, .pinned], laidTests := true, laidLooks := .later }
def LiftAgainUptoCardSaid : Prop := Claim7.holds Tryd.pinned (.plain (OpenSpec.upto liftAgainSpec)) liftAgainUptoCard

/-- THE SECOND FORM's CARD OF 'annalslaw4.LiftEmpty'. -/
def liftEmptyUptoCard : Claim7 := { stood := { row := liftEmptyUptoRow, standIns := [], harness := (true, "73a53b4f266fc5f1721863b0919ef00a3b737c7cdd0dddfda92749af325c225d"), looks := false }, kinds := [], alts := [], laidByText := true, laidKinds := [.data, .data, .data, .wider, .pinned], laidTests := true, laidLooks := .later }
def LiftEmptyUptoCardSaid : Prop := Claim7.holds Tryd.pinned (.plain (OpenSpec.upto liftEmptySpec)) liftEmptyUptoCard

/-- THE SECOND FORM's CARD OF 'annalslaw4.LiftUps'. -/
def liftUpsUptoCard : Claim7 := { stood := { row := liftUpsUptoRow, standIns := [], harness := (true, "73a53b4f266fc5f1721863b0919ef00a3b737c7cdd0dddfda92749af325c225d"), looks := false }, kinds := [], alts := [], laidByText := true, laidKinds := [.data, .data, .data, .data, .data, .wider, .pinned], laidTests := true, laidLooks := .later }
def LiftUpsUptoCardSaid : Prop := Claim7.holds Tryd.pinned (.plain (OpenSpec.upto liftUpsSpec)) liftUpsUptoCard

/-- THE SECOND FORM's CARD OF 'annalslaw4.LiftDowns'. -/
def liftDownsUptoCard : Claim7 := { stood := { row := liftDownsUptoRow, standIns := [], harness := (true, "73a53b4f266fc5f1721863b0919ef00a3b737c7cdd0dddfda92749af325c225d"), looks := false }, kinds := [], alts := [], laidByText := true, laidKinds := [.data, .data, .data, .data, .data, .wider, .pinned], laidTests := true, laidLooks := .later }
def LiftDownsUptoCardSaid : Prop := Claim7.holds Tryd.pinned (.plain (OpenSpec.upto liftDownsSpec)) liftDownsUptoCard

/-- THE SECOND FORM's CARD OF 'annalslaw4.LiftLists'. -/
def liftListsUptoCard : Claim7 := { stood := { row := liftListsUptoRow, standIns := [], harness := (true, "73a53b4f266fc5f1721863b0919ef00a3b737c7cdd0dddfda92749af325c225d"), looks := false }, kinds := [], alts := [], laidByText := true, laidKinds := [.data, .data, .data, .data, .data, .wider, .pinned], laidTests := true, laidLooks := .later }
def LiftListsUptoCardSaid : Prop := Claim7.holds Tryd.pinned (.plain (OpenSpec.upto liftListsSpec)) liftListsUptoCard

/-- THE SECOND FORM's CARD OF 'annalslaw4.LiftPlays'. -/
def liftPlaysUptoCard : Claim7 := { stood := { row := liftPlaysUptoRow, standIns := [], harness := (true, "73a53b4f266fc5f1721863b0919ef00a3b737c7cdd0dddfda92749af325c225d"), looks := false }, kinds := [], alts := [], laidByText := true, laidKinds := [.data, .data, .data, .data, .data, .wider, .pinned], laidTests := true, laidLooks := .later }
def LiftPlaysUptoCardSaid : Prop := Claim7.holds Tryd.pinned (.plain (OpenSpec.upto liftPlaysSpec)) liftPlaysUptoCard

/-- THE SECOND FORM's CARD OF 'annalslaw3.RecordChecks'. -/
def recordChecksUptoCard : Claim7 := { stood := { row := recordChecksUptoRow, standIns := [], harness := (true, "73a53b4f266fc5f1721863b0919ef00a3b737c7cdd0dddfda92749af325c225d"), looks := false }, kinds := [], alts := [], laidByText := true, laidKinds := [.data, .data, .data, .data, .data, .pinned], laidTests := true, laidLooks := .later }
def RecordChecksUptoCardSaid : Prop := Claim7.holds Tryd.pinned (.plain (OpenSpec.upto recordChecksSpec)) recordChecksUptoCard

/-- THE SECOND FORM's CARD OF 'annalslaw3.RecordWrites'. -/
def recordWritesUptoCard : Claim7 := { stood := { row := recordWritesUptoRow, standIns := [], harness := (true, "73a53b4f266fc5f1721863b0919ef00a3b737c7cdd0dddfda92749af325c225d"), looks := false }, kinds := [], alts := [], laidByText := true, laidKinds := [.data, .data, .data, .data, .data, .pinned], laidTests := true, laidLooks := .later }
def RecordWritesUptoCardSaid : Prop := Claim7.holds Tryd.pinned (.plain (OpenSpec.upto recordWritesSpec)) recordWritesUptoCard

/-- THE SECOND FORM's CARD OF 'annalslaw3.RecordReads'. -/
def recordReadsUptoCard : Claim7 := { stood := { row := recordReadsUptoRow, standIns := [], harness := (true, "73a53b4f266fc5f1721863b0919ef00a3b737c7cdd0dddfda92749af325c225d"), looks := false }, kinds := [], alts := [], laidByText := true, laidKinds := [.data, .data, .data, .data, .data, .pinned], laidTests := true, laidLooks := .later }
def RecordReadsUptoCardSaid : Prop := Claim7.holds Tryd.pinned (.plain (OpenSpec.upto recordReadsSpec)) recordReadsUptoCard

/-- THE SECOND FORM's CARD OF 'annalslaw3.RecordOneWay'. -/
def recordOneWayUptoCard : Claim7 := { stood := { row := recordOneWayUptoRow, standIns := [], harness := (true, "73a53b4f266fc5f1721863b0919ef00a3b737c7cdd0dddfda92749af325c225d"), looks := false }, kinds := [], alts := [], laidByText := true, laidKinds := [.data, .data, .data, .pinned], laidTests := true, laidLooks := .later }
def RecordOneWayUptoCardSaid : Prop := Claim7.holds Tryd.pinned (.plain (OpenSpec.upto recordOneWaySpec)) recordOneWayUptoCard

/-- THE SECOND FORM's CARD OF 'annalslaw3.RecordBack'. -/
def recordBackUptoCard : Claim7 := { stood := { row := recordBackUptoRow, standIns := [], harness := (true, "73a53b4f266fc5f1721863b0919ef00a3b737c7cdd0dddfda92749af325c225d"), looks := false }, kinds := [], alts := [], laidByText := true, laidKinds := [.data, .data, .data, .pinned], laidTests := true, laidLooks := .later }
def RecordBackUptoCardSaid : Prop := Claim7.holds Tryd.pinned (.plain (OpenSpec.upto recordBackSpec)) recordBackUptoCard

/-- THE SECOND FORM's CARD OF 'annalslaw3.RecordGrow'. -/
def recordGrowUptoCard : Claim7 := { stood := { row := recordGrowUptoRow, standIns := [], harness := (true, "73a53b4f266fc5f1721863b0919ef00a3b737c7cdd0dddfda92749af325c225d"), looks := false }, kinds := [], alts := [], laidByText := true, laidKinds := [.data, .data, .data, .pinned], laidTests := true, laidLooks := .later }
def RecordGrowUptoCardSaid : Prop := Claim7.holds Tryd.pinned (.plain (OpenSpec.upto recordGrowSpec)) recordGrowUptoCard

/-- THE SECOND FORM's CARD OF 'annalslaw3.RecordAgain'. -/
def recordAgainUptoCard : Claim7 := { stood := { row := recordAgainUptoRow, standIns := [], harness := (true, "73a53b4f266fc5f1721863b0919ef00a3b737c7cdd0dddfda92749af325c225d"), looks := false }, kinds := [], alts := [], laidByText := true, laidKinds := [.data, .data, .data, .data, .data, .pinned], laidTests := true, laidLooks := .later }
def RecordAgainUptoCardSaid : Prop := Claim7.holds Tryd.pinned (.plain (OpenSpec.upto recordAgainSpec)) recordAgainUptoCard
end Rows
end Go.Proofs.YtjhiohjpkdjkoaaDoor
