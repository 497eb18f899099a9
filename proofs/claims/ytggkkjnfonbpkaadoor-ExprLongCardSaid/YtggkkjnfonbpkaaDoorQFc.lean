/- The contracts of the reference's text and piece (printed by gen_fc.py). -/
import Derived.Test.YtggkkjnfonbpkaaDoorQFb

set_option linter.unusedSimpArgs false
set_option linter.unusedVariables false
namespace Go.Proofs.YtggkkjnfonbpkaaDoor
open Go.RowKit Hach

theorem leaf_iff {e : Ex} {t : Int} (h : Rt e t) : e.l.isEmpty = (decide (e.op = 1) || decide (e.op = 2)) := by
  rcases h.inv5 with ⟨h6, hl, hr⟩ | ⟨h6, hl, hr⟩ | ⟨h6, a, _, hl, ha⟩ | ⟨h6, a, b, _, _, hl, ha, hb⟩ | ⟨h6, a, b, c', _, _, _, hl, ha, hb, hc⟩
  · simp [h6, hl]
  · simp [h6, hl]
  · simp [h6, hl]
  · rw [hl, decide_eq_false (by omega), decide_eq_false (by omega)]; rfl
  · simp [h6, hl]
def txT (e : Ex) : List UInt8 := if chkE e = 0 then e.text else []
set_option maxRecDepth 100000 in
set_option maxHeartbeats 2000000 in
theorem TextC_any (e : Ex) (d : Nat) (A : Option Addr) (c : Nat) (w : World) (hX : ExB w w.heap.size d A e.l) (hsz : e.size < 1099511627776) (hok : e.ok) (htab : Tabs w) :
    Calls Tryd.prog 11 #[.agg (e.cells A c).toArray] w fun r w' => r = .returned (.tuple #[.string (sv (txT e)), .int .i64 (chkE e)]) ∧ Ext w w' := by
  obtain ⟨w0, hw0⟩ : ∃ w0, w.alloc (.cells (e.cells A c).toArray 29) = w0 := ⟨_, rfl⟩
  have hE0 : Ext w w0 := by rw [← hw0]; exact Ext.alloc _ _
  have hBx : Box w0 w.heap.size e A c := by rw [← hw0]; exact Box.new w e A c 29
  have HCK := Lib.hid (fun (W : World) (h : Ext w W) => Check_any e d A c W (hX.ext h) hsz hok)
  have HEV := Lib.hid (show txT e = if chkE e = 0 then e.text else [] from rfl)
  unfold Ex.cells at hw0 HCK
  have HW := Lib.hid hw0
  have HBx := Lib.hid hBx
  obtain ⟨_, y0, y1, y2, y3, y4, y5, y6⟩ := hBx
  clear hw0 hsz
  by_cases hc : chkE e = 0
  · have t1 : (chkE e != 0) = false := by simp [hc]
    have HVL := Lib.hid (fun (W : World) (h : Ext w W) => text_any d e (chkT e) A c W (chk_rt hc).1 (hX.ext h) hok (by have := (chk_rt hc).2; omega) (htab.ext h))
    have HEV2 := Lib.hid (show txT e = e.text by rw [HEV.out, if_pos hc])
    have HC0 := Lib.hid hc
    unfold Ex.cells at *
    clear hc hX hok HEV htab
    generalize hT : chkT e = T at *
    generalize hE' : chkE e = E at *
    clear hT hE'
    go_enter Tryd.func11, Tryd.ntmps11
    go_upto_region 1 with fail
    rw [HW.out]
    go_wp2_with fail
    refine (HCK.out _ hE0).mono ?_
    rintro r w1 ⟨rfl, hE1⟩
    obtain ⟨_, y0, y1, y2, y3, y4, y5, y6⟩ := HBx.out.ext hE1
    go_wp2_with fail
    refine (HVL.out _ (hE0.trans hE1)).mono ?_
    rintro r w2 ⟨rfl, hE2⟩
    go_wp2_with fail
    go_ret2
    exact ⟨by rw [HEV2.out, HC0.out]; rfl, (hE0.trans hE1).trans hE2⟩
  · have t1 : (chkE e != 0) = true := by simpa using hc
    have HEV2 := Lib.hid (show txT e = [] by rw [HEV.out, if_neg hc])
    clear hc hX hok HEV htab
    generalize hT : chkT e = T at *
    generalize hE' : chkE e = E at *
    clear hT hE'
    unfold Ex.cells
    go_enter Tryd.func11, Tryd.ntmps11
    go_upto_region 1 with fail
    rw [HW.out]
    go_wp2_with fail
    refine (HCK.out _ hE0).mono ?_
    rintro r w1 ⟨rfl, hE1⟩
    go_wp2_with fail
    go_ret2
    exact ⟨by rw [HEV2.out]; rfl, hE0.trans hE1⟩
end Go.Proofs.YtggkkjnfonbpkaaDoor
