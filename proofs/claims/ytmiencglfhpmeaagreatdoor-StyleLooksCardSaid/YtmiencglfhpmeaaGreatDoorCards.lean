/-
  DERIVED. GIVEN WITH THE SEED: THE CARDS: each row of YtmiencglfhpmeaaGreatDoorRows.lean that lists a variable, with what it lists TIED to the program's text (the seventh form; the later family's looks); each row that meets fmt, with fmt's text TOLD by the authors' own Lean function (tested against real Go, not proved from fmt's source: count such statements apart). THE CARD IS WHAT COUNTS. Prove the row's statement (the work); the ties are given (YtmiencglfhpmeaaGreatDoorTie.lean); close each card by the builder's one call (the guide's Derived/Test/ToyasCard.lean, 'card_holds'). Laid BY PROGRAM, IN A SANDBOX (cutbox-door.mjs). By AI agents, Wed Nov 11 2026. No macro, syntax, notation, axiom, sorry.
-/
import Derived.Test.YtmiencglfhpmeaaGreatDoorRows
import GoSem.ClaimSeven
namespace Go.Proofs.YtmiencglfhpmeaaGreatDoor
namespace Rows

/-- THE TIED CARD OF 'hachurelaw20.StyleLooks'. -/
def styleLooksCard : Claim7 := { stood := { row := styleLooksRow, standIns := [], harness := (true, "174e166cf8369488e75ce8ccfd35ec12e5125faf56b6da2069b1feb9f22a5918"), looks := true }, kinds := [], alts := [], laidByText := true, laidKinds := [.data, .data, .data, .data, .sentinel, .sentinel, .pinned], laidTests := true, laidLooks := .later }
def StyleLooksCardSaid : Prop := Claim7.holds Tryz.pinned (.plain (OpenSpec.ofChange styleLooksSpec)) styleLooksCard

/-- THE TIED CARD OF 'hachurelaw20.StyleTexts'. -/
def styleTextsCard : Claim7 := { stood := { row := styleTextsRow, standIns := [], harness := (true, "174e166cf8369488e75ce8ccfd35ec12e5125faf56b6da2069b1feb9f22a5918"), looks := true }, kinds := [], alts := [], laidByText := true, laidKinds := [.data, .data, .data, .data, .sentinel, .sentinel, .pinned], laidTests := true, laidLooks := .later }
def StyleTextsCardSaid : Prop := Claim7.holds Tryz.pinned (.plain (OpenSpec.ofChange styleTextsSpec)) styleTextsCard

/-- THE TIED CARD OF 'hachurelaw20.StyleBack'. -/
def styleBackCard : Claim7 := { stood := { row := styleBackRow, standIns := [], harness := (true, "174e166cf8369488e75ce8ccfd35ec12e5125faf56b6da2069b1feb9f22a5918"), looks := true }, kinds := [], alts := [], laidByText := true, laidKinds := [.data, .data, .data, .data, .sentinel, .sentinel, .pinned], laidTests := true, laidLooks := .later }
def StyleBackCardSaid : Prop := Claim7.holds Tryz.pinned (.plain (OpenSpec.ofChange styleBackSpec)) styleBackCard

/-- THE TIED CARD OF 'hachurelaw20.StyleOrder'. -/
def styleOrderCard : Claim7 := { stood := { row := styleOrderRow, standIns := [], harness := (true, "174e166cf8369488e75ce8ccfd35ec12e5125faf56b6da2069b1feb9f22a5918"), looks := true }, kinds := [], alts := [], laidByText := true, laidKinds := [.data, .data, .data, .data, .sentinel, .sentinel, .pinned], laidTests := true, laidLooks := .later }
def StyleOrderCardSaid : Prop := Claim7.holds Tryz.pinned (.plain (OpenSpec.ofChange styleOrderSpec)) styleOrderCard

/-- THE TIED CARD OF 'hachurelaw20.StyleCounts'. -/
def styleCountsCard : Claim7 := { stood := { row := styleCountsRow, standIns := [], harness := (true, "174e166cf8369488e75ce8ccfd35ec12e5125faf56b6da2069b1feb9f22a5918"), looks := true }, kinds := [], alts := [], laidByText := true, laidKinds := [.data, .data, .data, .data, .sentinel, .sentinel, .pinned], laidTests := true, laidLooks := .later }
def StyleCountsCardSaid : Prop := Claim7.holds Tryz.pinned (.plain (OpenSpec.ofChange styleCountsSpec)) styleCountsCard

/-- THE TIED CARD OF 'hachurelaw20.StyleLower'. -/
def styleLowerCard : Claim7 := { stood := { row := styleLowerRow, standIns := [], harness := (true, "174e166cf8369488e75ce8ccfd35ec12e5125faf56b6da2069b1feb9f22a5918"), looks := true }, kinds := [], alts := [], laidByText := true, laidKinds := [.data, .data, .data, .data, .sentinel, .sentinel, .pinned], laidTests := true, laidLooks := .later }
def StyleLowerCardSaid : Prop := Claim7.holds Tryz.pinned (.plain (OpenSpec.ofChange styleLowerSpec)) styleLowerCard

/-- THE TIED CARD OF 'hachurelaw20.StyleOf'. -/
def styleOfCard : Claim7 := { stood := { row := styleOfRow, standIns := [], harness := (true, "174e166cf8369488e75ce8ccfd35ec12e5125faf56b6da2069b1feb9f22a5918"), looks := true }, kinds := [], alts := [], laidByText := true, laidKinds := [.data, .data, .data, .data, .sentinel, .sentinel, .pinned], laidTests := true, laidLooks := .later }
def StyleOfCardSaid : Prop := Claim7.holds Tryz.pinned (.plain (OpenSpec.ofChange styleOfSpec)) styleOfCard

/-- THE SECOND FORM's CARD OF 'hachurelaw20.StyleLooks'. -/
def styleLooksUptoCard : Claim7 := { stood := { row := styleLooksUptoRow, standIns := [], harness := (true, "174e166cf8369488e75ce8ccfd35ec12e5125faf56b6da2069b1feb9f22a5918"), looks := true }, kinds := [], alts := [], laidByText := true, laidKinds := [.data, .data, .data, .data, .sentinel, .sentinel, .pinned], laidTests := true, laidLooks := .later }
def StyleLooksUptoCardSaid : Prop := Claim7.holds Tryz.pinned (.plain (OpenSpec.upto styleLooksSpec)) styleLooksUptoCard

/-- THE SECOND FORM's CARD OF 'hachurelaw20.StyleTexts'. -/
def styleTextsUptoCard : Claim7 := { stood := { row := styleTextsUptoRow, standIns := [], harness := (true, "174e166cf8369488e75ce8ccfd35ec12e5125faf56b6da2069b1feb9f22a5918"), looks := true }, kinds := [], alts := [], laidByText := true, laidKinds := [.data, .data, .data, .data, .sentinel, .sentinel, .pinned], laidTests := true, laidLooks := .later }
def StyleTextsUptoCardSaid : Prop := Claim7.holds Tryz.pinned (.plain (OpenSpec.upto styleTextsSpec)) styleTextsUptoCard

/-- THE SECOND FORM's CARD OF 'hachurelaw20.StyleBack'. -/
def styleBackUptoCard : Claim7 := { stood := { row := styleBackUptoRow, standIns := [], harness := (true, "174e166cf8369488e75ce8ccfd35ec12e5125faf56b6da2069b1feb9f22a5918"), looks := true }, kinds := [], alts := [], laidByText := true, laidKinds := [.data, .data, .data, .data, .sentinel, .sentinel, .pinned], laidTests := true, laidLooks := .later }
def StyleBackUptoCardSaid : Prop := Claim7.holds Tryz.pinned (.plain (OpenSpec.upto styleBackSpec)) styleBackUptoCard

/-- THE SECOND FORM's CARD OF 'hachurelaw20.StyleOrder'. -/
def styleOrderUptoCard : Claim7 := { stood := { row := styleOrderUptoRow, standIns := [], harness := (true, "174e166cf8369488e75ce8ccfd35ec12e5125faf56b6da2069b1feb9f22a5918"), looks := true }, kinds := [], alts := [], laidByText := true, laidKinds := [.data, .data, .data, .data, .sentinel, .sentinel, .pinned], laidTests := true, laidLooks := .later }
def StyleOrderUptoCardSaid : Prop := Claim7.holds Tryz.pinned (.plain (OpenSpec.upto styleOrderSpec)) styleOrderUptoCard

/-- THE SECOND FORM's CARD OF 'hachurelaw20.StyleCounts'. -/
def styleCountsUptoCard : Claim7 := { stood := { row := styleCountsUptoRow, standIns := [], harness := (true, "174e166cf8369488e75ce8ccfd35ec12e5125faf56b6da2069b1feb9f22a5918"), looks := true }, kinds := [], alts := [], laidByText := true, laidKinds := [.data, .data, .data, .data, .sentinel, .sentinel, .pinned], laidTests := true, laidLooks := .later }
def StyleCountsUptoCardSaid : Prop := Claim7.holds Tryz.pinned (.plain (OpenSpec.upto styleCountsSpec)) styleCountsUptoCard

/-- THE SECOND FORM's CARD OF 'hachurelaw20.StyleLower'. -/
def styleLowerUptoCard : Claim7 := { stood := { row := styleLowerUptoRow, standIns := [], harness := (true, "174e166cf8369488e75ce8ccfd35ec12e5125faf56b6da2069b1feb9f22a5918"), looks := true }, kinds := [], alts := [], laidByText := true, laidKinds := [.data, .data, .data, .data, .sentinel, .sentinel, .pinned], laidTests := true, laidLooks := .later }
def StyleLowerUptoCardSaid : Prop := Claim7.holds Tryz.pinned (.plain (OpenSpec.upto styleLowerSpec)) styleLowerUptoCard

/-- THE SECOND FORM's CARD OF 'hachurelaw20.StyleOf'. -/
def styleOfUptoCard : Claim7 := { stood := { row := styleOfUptoRow, standIns := [], harness := (true, "174e166cf8369488e75ce8ccfd35ec12e5125faf56b6da2069b1feb9f22a5918"), looks := true }, kinds := [], alts := [], laidByText := true, laidKinds := [.data, .data, .data, .data, .sentinel, .sentinel, .pinned], laidTests := true, laidLooks := .later }
def StyleOfUptoCardSaid : Prop := Claim7.holds Tryz.pinned (.plain (OpenSpec.upto styleOfSpec)) styleOfUptoCard
end Rows
end Go.Proofs.YtmiencglfhpmeaaGreatDoor
