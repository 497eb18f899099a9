/- The contract of the reference's Odd. -/
import Derived.Test.YtggkkjnfonbpkaaGreatDoorQIfa
import Derived.Test.YtggkkjnfonbpkaaGreatDoorQIfb
import Derived.Test.YtggkkjnfonbpkaaGreatDoorQIfc

set_option linter.unusedSimpArgs false
set_option linter.unusedVariables false
namespace Go.Proofs.YtggkkjnfonbpkaaGreatDoor
open Go.RowKit Hach

theorem Odd_aux (N : Nat) : ∀ (d : Nat) (e : Ex) (A : Option Addr) (c : Nat) (q0 q1 q2 : Int) (w : World), e.size < N → ExB w w.heap.size d A e.l → e.size < 4194304 → e.ok →
    Calls Tryz.prog 10 #[.agg (e.cells A c).toArray, .agg #[.int .i64 q0, .int .i64 q1, .int .i64 q2]] w (OddR e w) := by
  induction N with
  | zero => intro d e A c q0 q1 q2 w h0; omega
  | succ N ih =>
    intro d e A c q0 q1 q2 w hdown hX hsz hok
    have h3 := rmod_bd q0 (m := 3) (by decide)
    by_cases h : 0 < e.l.length
    · by_cases h2 : 0 < rmod q0 3
      · exact Odd_yes N ih d e A c q0 q1 q2 w hdown hX hsz hok ⟨h, h2⟩
      · exact Odd_here N ih d e A c q0 q1 q2 w hdown hX hsz hok ⟨h, by omega⟩
    · exact Odd_no N ih d e A c q0 q1 q2 w hdown hX hsz hok (by omega)
theorem Odd_any (d : Nat) (e : Ex) (A : Option Addr) (c : Nat) (q0 q1 q2 : Int) (w : World) (hX : ExB w w.heap.size d A e.l) (hsz : e.size < 4194304) (hok : e.ok) :
    Calls Tryz.prog 10 #[.agg (e.cells A c).toArray, .agg #[.int .i64 q0, .int .i64 q1, .int .i64 q2]] w (OddR e w) := Odd_aux (e.size + 1) d e A c q0 q1 q2 w (Nat.lt_succ_self _) hX hsz hok
end Go.Proofs.YtggkkjnfonbpkaaGreatDoor
