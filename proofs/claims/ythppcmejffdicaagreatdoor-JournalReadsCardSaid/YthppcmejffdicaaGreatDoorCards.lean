/-
  DERIVED. GIVEN WITH THE SEED: THE CARDS: each row of YthppcmejffdicaaGreatDoorRows.lean that lists a variable, with what it lists TIED to the program's text (the seventh form; the later family's looks); each row that meets fmt, with fmt's text TOLD by the authors' own Lean function (tested against real Go, not proved from fmt's source: count such statements apart). THE CARD IS WHAT COUNTS. Prove the row's statement (the work); the ties are given (YthppcmejffdicaaGreatDoorTie.lean); close each card by the builder's one call (the guide's Derived/Test/ToyasCard.lean, 'card_holds'). Laid BY PROGRAM, IN A SANDBOX (cutbox-door.mjs). By AI agents, Wed Nov 11 2026. No macro, syntax, notation, axiom, sorry.
-/
import Derived.Test.YthppcmejffdicaaGreatDoorRows
import GoSem.ClaimSeven
namespace Go.Proofs.YthppcmejffdicaaGreatDoor
namespace Rows

/-- THE TIED CARD OF 'hachurelaw37.JournalPlays'. -/
def journalPlaysCard : Claim7 := { stood := { row := journalPlaysRow, standIns := [], harness := (true, "b72b4ba1fbda45b887e3da9a0f26a70eb34d74e3f04f74da4bf2e518e0fd33db"), looks := true }, kinds := [], alts := [], laidByText := true, laidKinds := [.data, .data, .data, .data, .pinned], laidTests := true, laidLooks := .later }
def JournalPlaysCardSaid : Prop := Claim7.holds Tryz.pinned (.plain (OpenSpec.ofChange journalPlaysSpec)) journalPlaysCard

/-- THE TIED CARD OF 'hachurelaw37.JournalReads'. -/
def journalReadsCard : Claim7 := { stood := { row := journalReadsRow, standIns := [], harness := (true, "b72b4ba1fbda45b887e3da9a0f26a70eb34d74e3f04f74da4bf2e518e0fd33db"), looks := true }, kinds := [], alts := [], laidByText := true, laidKinds := [.data, .data, .data, .data, .pinned], laidTests := true, laidLooks := .later }
def JournalReadsCardSaid : Prop := Claim7.holds Tryz.pinned (.plain (OpenSpec.ofChange journalReadsSpec)) journalReadsCard

/-- THE TIED CARD OF 'hachurelaw37.JournalSurvives'. -/
def journalSurvivesCard : Claim7 := { stood := { row := journalSurvivesRow, standIns := [], harness := (true, "b72b4ba1fbda45b887e3da9a0f26a70eb34d74e3f04f74da4bf2e518e0fd33db"), looks := true }, kinds := [], alts := [], laidByText := true, laidKinds := [.data, .data, .data, .data, .pinned], laidTests := true, laidLooks := .later }
def JournalSurvivesCardSaid : Prop := Claim7.holds Tryz.pinned (.plain (OpenSpec.ofChange journalSurvivesSpec)) journalSurvivesCard

/-- THE TIED CARD OF 'hachurelaw37.JournalBytes'. -/
def journalBytesCard : Claim7 := { stood := { row := journalBytesRow, standIns := [], harness := (true, "b72b4ba1fbda45b887e3da9a0f26a70eb34d74e3f04f74da4bf2e518e0fd33db"), looks := true }, kinds := [], alts := [], laidByText := true, laidKinds := [.data, .data, .data, .data, .pinned], laidTests := true, laidLooks := .later }
def JournalBytesCardSaid : Prop := Claim7.holds Tryz.pinned (.plain (OpenSpec.ofChange journalBytesSpec)) journalBytesCard

/-- THE TIED CARD OF 'hachurelaw37.JournalMany'. -/
def journalManyCard : Claim7 := { stood := { row := journalManyRow, standIns := [], harness := (true, "b72b4ba1fbda45b887e3da9a0f26a70eb34d74e3f04f74da4bf2e518e0fd33db"), looks := true }, kinds := [], alts := [], laidByText := true, laidKinds := [.data, .data, .data, .data, .pinned], laidTests := true, laidLooks := .later }
def JournalManyCardSaid : Prop := Claim7.holds Tryz.pinned (.plain (OpenSpec.ofChange journalManySpec)) journalManyCard

/-- THE TIED CARD OF 'hachurelaw37.JournalNothing'. -/
def journalNothingCard : Claim7 := { stood := { row := journalNothingRow, standIns := [], harness := (true, "b72b4ba1fbda45b887e3da9a0f26a70eb34d74e3f04f74da4bf2e518e0fd33db"), looks := true }, kinds := [], alts := [], laidByText := true, laidKinds := [.data, .data, .data, .data, .pinned], laidTests := true, laidLooks := .later }
def JournalNothingCardSaid : Prop := Claim7.holds Tryz.pinned (.plain (OpenSpec.ofChange journalNothingSpec)) journalNothingCard

/-- THE SECOND FORM's CARD OF 'hachurelaw37.JournalPlays'. -/
def journalPlaysUptoCard : Claim7 := { stood := { row := journalPlaysUptoRow, standIns := [], harness := (true, "b72b4ba1fbda45b887e3da9a0f26a70eb34d74e3f04f74da4bf2e518e0fd33db"), looks := true }, kinds := [], alts := [], laidByText := true, laidKinds := [.data, .data, .data, .data, .pinned], laidTests := true, laidLooks := .later }
def JournalPlaysUptoCardSaid : Prop := Claim7.holds Tryz.pinned (.plain (OpenSpec.upto journalPlaysSpec)) journalPlaysUptoCard

/-- THE SECOND FORM's CARD OF 'hachurelaw37.JournalReads'. -/
def journalReadsUptoCard : Claim7 := { stood := { row := journalReadsUptoRow, standIns := [], harness := (true, "b72b4ba1fbda45b887e3da9a0f26a70eb34d74e3f04f74da4bf2e518e0fd33db"), looks := true }, kinds := [], alts := [], laidByText := true, laidKinds := [.data, .data, .data, .data, .pinned], laidTests := true, laidLooks := .later }
def JournalReadsUptoCardSaid : Prop := Claim7.holds Tryz.pinned (.plain (OpenSpec.upto journalReadsSpec)) journalReadsUptoCard

/-- THE SECOND FORM's CARD OF 'hachurelaw37.JournalSurvives'. -/
def journalSurvivesUptoCard : Claim7 := { stood := { row := journalSurvivesUptoRow, standIns := [], harness := (true, "b72b4ba1fbda45b887e3da9a0f26a70eb34d74e3f04f74da4bf2e518e0fd33db"), looks := true }, kinds := [], alts := [], laidByText := true, laidKinds := [.data, .data, .data, .data, .pinned], laidTests := true, laidLooks := .later }
def JournalSurvivesUptoCardSaid : Prop := Claim7.holds Tryz.pinned (.plain (OpenSpec.upto journalSurvivesSpec)) journalSurvivesUptoCard

/-- THE SECOND FORM's CARD OF 'hachurelaw37.JournalBytes'. -/
def journalBytesUptoCard : Claim7 := { stood := { row := journalBytesUptoRow, standIns := [], harness := (true, "b72b4ba1fbda45b887e3da9a0f26a70eb34d74e3f04f74da4bf2e518e0fd33db"), looks := true }, kinds := [], alts := [], laidByText := true, laidKinds := [.data, .data, .data, .data, .pinned], laidTests := true, laidLooks := .later }
def JournalBytesUptoCardSaid : Prop := Claim7.holds Tryz.pinned (.plain (OpenSpec.upto journalBytesSpec)) journalBytesUptoCard

/-- THE SECOND FORM's CARD OF 'hachurelaw37.JournalMany'. -/
def journalManyUptoCard : Claim7 := { stood := { row := journalManyUptoRow, standIns := [], harness := (true, "b72b4ba1fbda45b887e3da9a0f26a70eb34d74e3f04f74da4bf2e518e0fd33db"), looks := true }, kinds := [], alts := [], laidByText := true, laidKinds := [.data, .data, .data, .data, .pinned], laidTests := true, laidLooks := .later }
def JournalManyUptoCardSaid : Prop := Claim7.holds Tryz.pinned (.plain (OpenSpec.upto journalManySpec)) journalManyUptoCard

/-- THE SECOND FORM's CARD OF 'hachurelaw37.JournalNothing'. -/
def journalNothingUptoCard : Claim7 := { stood := { row := journalNothingUptoRow, standIns := [], harness := (true, "b72b4ba1fbda45b887e3da9a0f26a70eb34d74e3f04f74da4bf2e518e0fd33db"), looks := true }, kinds := [], alts := [], laidByText := true, laidKinds := [.data, .data, .data, .data, .pinned], laidTests := true, laidLooks := .later }
def JournalNothingUptoCardSaid : Prop := Claim7.holds Tryz.pinned (.plain (OpenSpec.upto journalNothingSpec)) journalNothingUptoCard
end Rows
end Go.Proofs.YthppcmejffdicaaGreatDoor
