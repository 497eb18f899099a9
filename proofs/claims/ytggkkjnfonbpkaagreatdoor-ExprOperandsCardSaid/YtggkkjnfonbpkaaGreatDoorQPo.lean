/- ExprOperands, plain: what Check says of an equation of two right expressions; texts tell right expressions apart. -/
import Derived.Test.YtggkkjnfonbpkaaGreatDoorQXm
import Derived.Test.YtggkkjnfonbpkaaGreatDoorQXk

set_option linter.unusedSimpArgs false
set_option linter.unusedVariables false
namespace Go.Proofs.YtggkkjnfonbpkaaGreatDoor
open Go.RowKit Hach

theorem operands_chk {a b : Ex} {t u : Int} (ha : Rt a t) (hb : Rt b u) : chkE (exOp 6 [a, b]) = if 60 < 1 + (a.size + b.size) then 2 else if t = u then 0 else 30 := by
  have h1 := ha.typed
  have h2 := hb.typed
  have hp := ha.pos
  have hq := hb.pos
  have e : (exOp 6 [a, b]).typed = if t = u then 2 else 0 := by
    rw [Ex.typed_eq]
    show (if good 6 0 ⟨0, 0, false, []⟩ 2 = true then (if (0 : Int) ∈ [a.typed, b.typed] then 0 else rule 6 0 ⟨0, 0, false, []⟩ [a.typed, b.typed]) else 0) = _
    rw [if_pos (by decide), h1, h2, if_neg (by simp; omega)]
    rfl
  unfold chkE
  rw [size_2, e]
  by_cases h : t = u
  · rw [if_pos h, if_pos h]; rfl
  · rw [if_neg h, if_neg h]; rfl
theorem text_same {a y : Ex} {t : Int} (ha : Rt a t) (hc : chkE y = 0) : decide (a.text = txT y) = a.same y := by
  have h := (chk_rt hc).1
  unfold txT
  rw [if_pos hc, Bool.eq_iff_iff, Ex.same_iff, decide_eq_true_iff]
  exact ⟨fun e => text_inj ha h e, fun e => by rw [e]⟩
end Go.Proofs.YtggkkjnfonbpkaaGreatDoor
