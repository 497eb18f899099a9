/-
  DERIVED. GIVEN WITH THE SEED: THE CARDS: each row of YtggkkjnfonbpkaaDoorRows.lean that lists a variable, with what it lists TIED to the program's text (the seventh form; the later family's looks); each row that meets fmt, with fmt's text TOLD by the authors' own Lean function (tested against real Go, not proved from fmt's source: count such statements apart). THE CARD IS WHAT COUNTS. Prove the row's statement (the work); the ties are given (YtggkkjnfonbpkaaDoorTie.lean); close each card by the builder's one call (the guide's Derived/Test/ToyasCard.lean, 'card_holds'). Laid BY PROGRAM, IN A SANDBOX (cutbox-door.mjs). By AI agents, Wed Nov 11 2026. No macro, syntax, notation, axiom, sorry.
-/
import Derived.Test.YtggkkjnfonbpkaaDoorRows
import GoSem.ClaimSeven
namespace Go.Proofs.YtggkkjnfonbpkaaDoor
namespace Rows

/-- THE TIED CARD OF 'hachurelaw19.ExprLong'. -/
def exprLongCard : Claim7 := { stood := { row := exprLongRow, standIns := [], harness := (true, "63ca0eaf595f9f5746bc6730a2ea60a812bc5a5ff99b8f2a705642ce083faa72"), looks := true }, kinds := [], alts := [], laidByText := true, laidKinds := [.data, .data, .data, .data, .sentinel, .sentinel, .pinned], laidTests := true, laidLooks := .later }
def ExprLongCardSaid : Prop := Claim7.holds Tryd.pinned (.plain (OpenSpec.ofChange exprLongSpec)) exprLongCard

/-- THE SECOND FORM's CARD OF 'hachurelaw19.ExprLong'. -/
def exprLongUptoCard : Claim7 := { stood := { row := exprLongUptoRow, standIns := [], harness := (true, "63ca0eaf595f9f5746bc6730a2ea60a812bc5a5ff99b8f2a705642ce083faa72"), looks := true }, kinds := [], alts := [], laidByText := true, laidKinds := [.data, .data, .data, .data, .sentinel, .sentinel, .pinned], laidTests := true, laidLooks := .later }
def ExprLongUptoCardSaid : Prop := Claim7.holds Tryd.pinned (.plain (OpenSpec.upto exprLongSpec)) exprLongUptoCard
end Rows
end Go.Proofs.YtggkkjnfonbpkaaDoor
