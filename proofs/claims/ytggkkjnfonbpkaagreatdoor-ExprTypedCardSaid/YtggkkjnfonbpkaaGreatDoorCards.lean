/-
  DERIVED. GIVEN WITH THE SEED: THE CARDS: each row of YtggkkjnfonbpkaaGreatDoorRows.lean that lists a variable, with what it lists TIED to the program's text (the seventh form; the later family's looks); each row that meets fmt, with fmt's text TOLD by the authors' own Lean function (tested against real Go, not proved from fmt's source: count such statements apart). THE CARD IS WHAT COUNTS. Prove the row's statement (the work); the ties are given (YtggkkjnfonbpkaaGreatDoorTie.lean); close each card by the builder's one call (the guide's Derived/Test/ToyasCard.lean, 'card_holds'). Laid BY PROGRAM, IN A SANDBOX (cutbox-door.mjs). By AI agents, Wed Nov 11 2026. No macro, syntax, notation, axiom, sorry.
-/
import Derived.Test.YtggkkjnfonbpkaaGreatDoorRows
import GoSem.ClaimSeven
namespace Go.Proofs.YtggkkjnfonbpkaaGreatDoor
namespace Rows

/-- THE TIED CARD OF 'hachurelaw19.ExprChecks'. -/
def exprChecksCard : Claim7 := { stood := { row := exprChecksRow, standIns := [], harness := (true, "b91705f25b8224873caed2e2a1e74a025c1b80301aaf797c4471cc6016388c28"), looks := true }, kinds := [], alts := [], laidByText := true, laidKinds := [.data, .data, .data, .data, .sentinel, .sentinel, .pinned], laidTests := true, laidLooks := .later }
def ExprChecksCardSaid : Prop := Claim7.holds Tryz.pinned (.plain (OpenSpec.ofChange exprChecksSpec)) exprChecksCard

/-- THE TIED CARD OF 'hachurelaw19.ExprReads'. -/
def exprReadsCard : Claim7 := { stood := { row := exprReadsRow, standIns := [], harness := (true, "b91705f25b8224873caed2e2a1e74a025c1b80301aaf797c4471cc6016388c28"), looks := true }, kinds := [], alts := [], laidByText := true, laidKinds := [.data, .data, .data, .data, .sentinel, .sentinel, .pinned], laidTests := true, laidLooks := .later }
def ExprReadsCardSaid : Prop := Claim7.holds Tryz.pinned (.plain (OpenSpec.ofChange exprReadsSpec)) exprReadsCard

/-- THE TIED CARD OF 'hachurelaw19.ExprBack'. -/
def exprBackCard : Claim7 := { stood := { row := exprBackRow, standIns := [], harness := (true, "b91705f25b8224873caed2e2a1e74a025c1b80301aaf797c4471cc6016388c28"), looks := true }, kinds := [], alts := [], laidByText := true, laidKinds := [.data, .data, .data, .data, .sentinel, .sentinel, .pinned], laidTests := true, laidLooks := .later }
def ExprBackCardSaid : Prop := Claim7.holds Tryz.pinned (.plain (OpenSpec.ofChange exprBackSpec)) exprBackCard

/-- THE TIED CARD OF 'hachurelaw19.ExprTyped'. -/
def exprTypedCard : Claim7 := { stood := { row := exprTypedRow, standIns := [], harness := (true, "b91705f25b8224873caed2e2a1e74a025c1b80301aaf797c4471cc6016388c28"), looks := true }, kinds := [], alts := [], laidByText := true, laidKinds := [.data, .data, .data, .data, .sentinel, .sentinel, .pinned], laidTests := true, laidLooks := .later }
def ExprTypedCardSaid : Prop := Claim7.holds Tryz.pinned (.plain (OpenSpec.ofChange exprTypedSpec)) exprTypedCard

/-- THE TIED CARD OF 'hachurelaw19.ExprOperands'. -/
def exprOperandsCard : Claim7 := { stood := { row := exprOperandsRow, standIns := [], harness := (true, "b91705f25b8224873caed2e2a1e74a025c1b80301aaf797c4471cc6016388c28"), looks := true }, kinds := [], alts := [], laidByText := true, laidKinds := [.data, .data, .data, .data, .sentinel, .sentinel, .pinned], laidTests := true, laidLooks := .later }
def ExprOperandsCardSaid : Prop := Claim7.holds Tryz.pinned (.plain (OpenSpec.ofChange exprOperandsSpec)) exprOperandsCard

/-- THE SECOND FORM's CARD OF 'hachurelaw19.ExprChecks'. -/
def exprChecksUptoCard : Claim7 := { stood := { row := exprChecksUptoRow, standIns := [], harness := (true, "b91705f25b8224873caed2e2a1e74a025c1b80301aaf797c4471cc6016388c28"), looks := true }, kinds := [], alts := [], laidByText := true, laidKinds := [.data, .data, .data, .data, .sentinel, .sentinel, .pinned], laidTests := true, laidLooks := .later }
def ExprChecksUptoCardSaid : Prop := Claim7.holds Tryz.pinned (.plain (OpenSpec.upto exprChecksSpec)) exprChecksUptoCard

/-- THE SECOND FORM's CARD OF 'hachurelaw19.ExprReads'. -/
def exprReadsUptoCard : Claim7 := { stood := { row := exprReadsUptoRow, standIns := [], harness := (true, "b91705f25b8224873caed2e2a1e74a025c1b80301aaf797c4471cc6016388c28"), looks := true }, kinds := [], alts := [], laidByText := true, laidKinds := [.data, .data, .data, .data, .sentinel, .sentinel, .pinned], laidTests := true, laidLooks := .later }
def ExprReadsUptoCardSaid : Prop := Claim7.holds Tryz.pinned (.plain (OpenSpec.upto exprReadsSpec)) exprReadsUptoCard

/-- THE SECOND FORM's CARD OF 'hachurelaw19.ExprBack'. -/
def exprBackUptoCard : Claim7 := { stood := { row := exprBackUptoRow, standIns := [], harness := (true, "b91705f25b8224873caed2e2a1e74a025c1b80301aaf797c4471cc6016388c28"), looks := true }, kinds := [], alts := [], laidByText := true, laidKinds := [.data, .data, .data, .data, .sentinel, .sentinel, .pinned], laidTests := true, laidLooks := .later }
def ExprBackUptoCardSaid : Prop := Claim7.holds Tryz.pinned (.plain (OpenSpec.upto exprBackSpec)) exprBackUptoCard

/-- THE SECOND FORM's CARD OF 'hachurelaw19.ExprTyped'. -/
def exprTypedUptoCard : Claim7 := { stood := { row := exprTypedUptoRow, standIns := [], harness := (true, "b91705f25b8224873caed2e2a1e74a025c1b80301aaf797c4471cc6016388c28"), looks := true }, kinds := [], alts := [], laidByText := true, laidKinds := [.data, .data, .data, .data, .sentinel, .sentinel, .pinned], laidTests := true, laidLooks := .later }
def ExprTypedUptoCardSaid : Prop := Claim7.holds Tryz.pinned (.plain (OpenSpec.upto exprTypedSpec)) exprTypedUptoCard

/-- THE SECOND FORM's CARD OF 'hachurelaw19.ExprOperands'. -/
def exprOperandsUptoCard : Claim7 := { stood := { row := exprOperandsUptoRow, standIns := [], harness := (true, "b91705f25b8224873caed2e2a1e74a025c1b80301aaf797c4471cc6016388c28"), looks := true }, kinds := [], alts := [], laidByText := true, laidKinds := [.data, .data, .data, .data, .sentinel, .sentinel, .pinned], laidTests := true, laidLooks := .later }
def ExprOperandsUptoCardSaid : Prop := Claim7.holds Tryz.pinned (.plain (OpenSpec.upto exprOperandsSpec)) exprOperandsUptoCard
end Rows
end Go.Proofs.YtggkkjnfonbpkaaGreatDoor
