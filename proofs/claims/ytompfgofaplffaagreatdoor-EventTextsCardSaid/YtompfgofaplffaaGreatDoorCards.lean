/-
  DERIVED. GIVEN WITH THE SEED: THE CARDS: each row of YtompfgofaplffaaGreatDoorRows.lean that lists a variable, with what it lists TIED to the program's text (the seventh form; the later family's looks); each row that meets fmt, with fmt's text TOLD by the authors' own Lean function (tested against real Go, not proved from fmt's source: count such statements apart). THE CARD IS WHAT COUNTS. Prove the row's statement (the work); the ties are given (YtompfgofaplffaaGreatDoorTie.lean); close each card by the builder's one call (the guide's Derived/Test/ToyasCard.lean, 'card_holds'). Laid BY PROGRAM, IN A SANDBOX (cutbox-door.mjs). By AI agents, Wed Nov 11 2026. No macro, syntax, notation, axiom, sorry.
-/
import Derived.Test.YtompfgofaplffaaGreatDoorRows
import GoSem.ClaimSeven
namespace Go.Proofs.YtompfgofaplffaaGreatDoor
namespace Rows

/-- THE TIED CARD OF 'hachurelaw16.EventTexts'. -/
def eventTextsCard : Claim7 := { stood := { row := eventTextsRow, standIns := [], harness := (true, "8422b74479f74045e59677553b7e156a01177b0e38a42474fbd12156e7946c06"), looks := true }, kinds := [], alts := [], laidByText := true, laidKinds := [.data, .data, .data, .data, .sentinel, .sentinel, .pinned], laidTests := true, laidLooks := .later }
def EventTextsCardSaid : Prop := Claim7.holds Tryz.pinned (.plain (OpenSpec.ofChange eventTextsSpec)) eventTextsCard

/-- THE TIED CARD OF 'hachurelaw16.EventBack'. -/
def eventBackCard : Claim7 := { stood := { row := eventBackRow, standIns := [], harness := (true, "8422b74479f74045e59677553b7e156a01177b0e38a42474fbd12156e7946c06"), looks := true }, kinds := [], alts := [], laidByText := true, laidKinds := [.data, .data, .data, .data, .sentinel, .sentinel, .pinned], laidTests := true, laidLooks := .later }
def EventBackCardSaid : Prop := Claim7.holds Tryz.pinned (.plain (OpenSpec.ofChange eventBackSpec)) eventBackCard

/-- THE SECOND FORM's CARD OF 'hachurelaw16.EventTexts'. -/
def eventTextsUptoCard : Claim7 := { stood := { row := eventTextsUptoRow, standIns := [], harness := (true, "8422b74479f74045e59677553b7e156a01177b0e38a42474fbd12156e7946c06"), looks := true }, kinds := [], alts := [], laidByText := true, laidKinds := [.data, .data, .data, .data, .sentinel, .sentinel, .pinned], laidTests := true, laidLooks := .later }
def EventTextsUptoCardSaid : Prop := Claim7.holds Tryz.pinned (.plain (OpenSpec.upto eventTextsSpec)) eventTextsUptoCard

/-- THE SECOND FORM's CARD OF 'hachurelaw16.EventBack'. -/
def eventBackUptoCard : Claim7 := { stood := { row := eventBackUptoRow, standIns := [], harness := (true, "8422b74479f74045e59677553b7e156a01177b0e38a42474fbd12156e7946c06"), looks := true }, kinds := [], alts := [], laidByText := true, laidKinds := [.data, .data, .data, .data, .sentinel, .sentinel, .pinned], laidTests := true, laidLooks := .later }
def EventBackUptoCardSaid : Prop := Claim7.holds Tryz.pinned (.plain (OpenSpec.upto eventBackSpec)) eventBackUptoCard
end Rows
end Go.Proofs.YtompfgofaplffaaGreatDoor
