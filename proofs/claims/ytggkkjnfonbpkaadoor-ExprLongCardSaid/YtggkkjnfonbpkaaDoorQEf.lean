/- The contract of the reference's Same. -/
import Derived.Test.YtggkkjnfonbpkaaDoorQEe

set_option linter.unusedSimpArgs false
set_option linter.unusedVariables false
namespace Go.Proofs.YtggkkjnfonbpkaaDoor
open Go.RowKit Hach

theorem Box.at2 {w : World} {x y : Ex} {A B : Option Addr} {c d : Nat} : Box ((w.alloc (.cells (x.cells A c).toArray 29)).alloc (.cells (y.cells B d).toArray 29)) (w.heap.size + 1) y B d := by
  have := Box.new (w.alloc (.cells (x.cells A c).toArray 29)) y B d 29
  rw [World.size_alloc] at this
  exact this
end Go.Proofs.YtggkkjnfonbpkaaDoor
