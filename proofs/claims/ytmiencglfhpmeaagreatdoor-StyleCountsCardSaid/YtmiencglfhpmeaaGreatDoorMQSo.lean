/- The contract of the reference's Look. -/
import Derived.Test.YtmiencglfhpmeaaGreatDoorMQSl
set_option linter.unusedSimpArgs false
set_option linter.unusedVariables false
namespace Go.Proofs.YtmiencglfhpmeaaGreatDoor
open Go.RowKit Hach
theorem cstep_low {x : En} {acc : List Rl} {r : Rl} (h : holds x r = true) (hp : 0 ≤ r.pr) (hl : r.pr < rbest acc) : cstep x acc r = acc := by
 cases acc with
 | nil => exact absurd hl (by show ¬ r.pr < -1; omega)
 | cons c cs => rw [cstep_cons h, if_pos (show r.pr < c.pr from hl)]
theorem cstep_eq {x : En} {acc : List Rl} {r : Rl} (h : holds x r = true) (hp : 0 ≤ r.pr) (hl : r.pr = rbest acc) : cstep x acc r = acc ++ [r] ∧ acc ≠ [] := by
 cases acc with
 | nil => exact absurd hl (by show ¬ r.pr = -1; omega)
 | cons c cs => exact ⟨by rw [cstep_cons h, if_neg (show ¬ r.pr < c.pr by have : r.pr = c.pr := hl; omega), if_pos (show r.pr = c.pr from hl)], by simp⟩
theorem cstep_more {x : En} {acc : List Rl} {r : Rl} (h : holds x r = true) (h1 : ¬ r.pr < rbest acc) (h2 : ¬ r.pr = rbest acc) : cstep x acc r = [r] := by
 cases acc with
 | nil => exact cstep_nil h
 | cons c cs => rw [cstep_cons h, if_neg (show ¬ r.pr < c.pr from h1), if_neg (show ¬ r.pr = c.pr from h2)]
theorem rbest_app {acc : List Rl} {r : Rl} (h : acc ≠ []) : rbest (acc ++ [r]) = rbest acc ∧ rname (acc ++ [r]) = rname acc ∧ ∀ x, rlook x (acc ++ [r]) = rlook x acc := by
 cases acc with
 | nil => exact absurd rfl h
 | cons c cs => exact ⟨rfl, rfl, fun _ => rfl⟩
end Go.Proofs.YtmiencglfhpmeaaGreatDoor
