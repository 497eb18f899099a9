/- Environments of things: the contracts of OfFace, OfWay, OfPlace (printed by gen_tk.py). -/
import Derived.Test.YtmiencglfhpmeaaGreatDoorSQTi
import Derived.Test.YtmiencglfhpmeaaGreatDoorSQXu

set_option linter.unusedSimpArgs false
set_option linter.unusedVariables false
namespace Go.Proofs.YtmiencglfhpmeaaGreatDoor
open Go.RowKit Hach

theorem cell_new (w : World) (C : Array Value) (T : TypeId) (i : Nat) (v : Value) (h : C[i]? = some v) : (w.alloc (.cells C T)).cell? ⟨w.heap.size, i, none⟩ = some v := by rw [World.cell?_alloc_new]; exact h
def FaceE (s1 s2 : List UInt8) (wt : Int) : En := ⟨1, s1, s2, wt, 0, false, 0, 0, 0⟩
set_option maxRecDepth 100000 in
set_option maxHeartbeats 1000000 in
theorem ofFace_any (i : Value) (s1 : List UInt8) (s2 : List UInt8) (wt : Int) (ds : Value) (w : World) : Calls Tryz.prog 30 #[.agg #[i, .string ⟨s1.toArray⟩, .string ⟨s2.toArray⟩, .int .i64 wt, ds]] w fun e w' => e = .returned (FaceE s1 s2 wt).v ∧ Ext w w' := by
  obtain ⟨w1, hw1⟩ : ∃ q, w.alloc (.cells #[i, .string ⟨s1.toArray⟩, .string ⟨s2.toArray⟩, .int .i64 wt, ds] 69) = q := ⟨_, rfl⟩
  have hE1 : Ext w w1 := by rw [← hw1]; exact Ext.alloc _ _
  have c1 : w1.cell? ⟨w.heap.size, 1, none⟩ = some (.string ⟨s1.toArray⟩) := by rw [← hw1]; exact cell_new _ _ _ 1 _ rfl
  have c2 : w1.cell? ⟨w.heap.size, 2, none⟩ = some (.string ⟨s2.toArray⟩) := by rw [← hw1]; exact cell_new _ _ _ 2 _ rfl
  have c3 : w1.cell? ⟨w.heap.size, 3, none⟩ = some (.int .i64 wt) := by rw [← hw1]; exact cell_new _ _ _ 3 _ rfl
  have hlt : w.heap.size < w1.heap.size := by rw [← hw1]; simp
  have HW1 := Lib.hid hw1
  have hz := EvZ.new w1
  obtain ⟨w2, hw2⟩ : ∃ q, w1.alloc (.cells Ev_zero 28) = q := ⟨_, rfl⟩
  have hE2 : Ext w1 w2 := by rw [← hw2]; exact Ext.alloc _ _
  rw [hw2] at hz
  obtain ⟨b0, hb0⟩ : ∃ q, w.heap.size = q := ⟨_, rfl⟩
  obtain ⟨b1, hb1⟩ : ∃ q, w1.heap.size = q := ⟨_, rfl⟩
  have hs1 : w.heap.size + 1 = b1 := by rw [← hb1, ← hw1]; simp
  rw [hb0] at hs1 hlt c1 c2 c3
  rw [hb1] at hz
  have d1 := (hE2.old (p := ⟨b0, 1, none⟩) hlt).trans c1
  have d2 := (hE2.old (p := ⟨b0, 2, none⟩) hlt).trans c2
  have d3 := (hE2.old (p := ⟨b0, 3, none⟩) hlt).trans c3
  obtain ⟨z0, z1, z2, z3, z4, z5, z6, z7, z8⟩ := hz.cells
  obtain ⟨f0, f1, f2, f3, f4, f5, f6, f7, f8⟩ := hz.free
  unfold Ev_zero at hw2
  have HW2 := Lib.hid hw2
  have HZ := Lib.hid hz
  have HB0 := Lib.hid hb0
  have HB1 := Lib.hid hb1
  have HE := Lib.hid (hE1.trans hE2)
  have HS1 := Lib.hid hs1
  have HLE : Hid (w.heap.size ≤ b1) := Lib.hid (by rw [← hs1]; omega)
  clear hw1 hw2 hE1 hE2 hz hb0 hb1 hs1 hlt c1 c2 c3
  go_enter Tryz.func30, Tryz.ntmps30
  go_upto_region 1 with fail
  rw [HW1.out, HW2.out, HB0.out, HS1.out]
  go_wp2_with fail
  exact finEvZ rfl (FaceE s1 s2 wt) HZ.out rfl ⟨rfl, ext_fresh HE.out (setEv_grown w2 b1 _) HLE.out⟩
def WayE (s1 s2 : List UInt8) (wt : Int) (lv : Int) (st : Bool) : En := ⟨2, s1, s2, wt, lv, st, 0, 0, 0⟩
set_option maxRecDepth 100000 in
set_option maxHeartbeats 1000000 in
theorem ofWay_any (i : Value) (ln : Value) (lv : Int) (s1 : List UInt8) (s2 : List UInt8) (st : Bool) (wt : Int) (ds : Value) (w : World) : Calls Tryz.prog 31 #[.agg #[i, ln, .int .i64 lv, .string ⟨s1.toArray⟩, .string ⟨s2.toArray⟩, .bool st, .int .i64 wt, ds]] w fun e w' => e = .returned (WayE s1 s2 wt lv st).v ∧ Ext w w' := by
  obtain ⟨w1, hw1⟩ : ∃ q, w.alloc (.cells #[i, ln, .int .i64 lv, .string ⟨s1.toArray⟩, .string ⟨s2.toArray⟩, .bool st, .int .i64 wt, ds] 72) = q := ⟨_, rfl⟩
  have hE1 : Ext w w1 := by rw [← hw1]; exact Ext.alloc _ _
  have c3 : w1.cell? ⟨w.heap.size, 3, none⟩ = some (.string ⟨s1.toArray⟩) := by rw [← hw1]; exact cell_new _ _ _ 3 _ rfl
  have c4 : w1.cell? ⟨w.heap.size, 4, none⟩ = some (.string ⟨s2.toArray⟩) := by rw [← hw1]; exact cell_new _ _ _ 4 _ rfl
  have c6 : w1.cell? ⟨w.heap.size, 6, none⟩ = some (.int .i64 wt) := by rw [← hw1]; exact cell_new _ _ _ 6 _ rfl
  have c2 : w1.cell? ⟨w.heap.size, 2, none⟩ = some (.int .i64 lv) := by rw [← hw1]; exact cell_new _ _ _ 2 _ rfl
  have c5 : w1.cell? ⟨w.heap.size, 5, none⟩ = some (.bool st) := by rw [← hw1]; exact cell_new _ _ _ 5 _ rfl
  have hlt : w.heap.size < w1.heap.size := by rw [← hw1]; simp
  have HW1 := Lib.hid hw1
  have hz := EvZ.new w1
  obtain ⟨w2, hw2⟩ : ∃ q, w1.alloc (.cells Ev_zero 28) = q := ⟨_, rfl⟩
  have hE2 : Ext w1 w2 := by rw [← hw2]; exact Ext.alloc _ _
  rw [hw2] at hz
  obtain ⟨b0, hb0⟩ : ∃ q, w.heap.size = q := ⟨_, rfl⟩
  obtain ⟨b1, hb1⟩ : ∃ q, w1.heap.size = q := ⟨_, rfl⟩
  have hs1 : w.heap.size + 1 = b1 := by rw [← hb1, ← hw1]; simp
  rw [hb0] at hs1 hlt c3 c4 c6 c2 c5
  rw [hb1] at hz
  have d3 := (hE2.old (p := ⟨b0, 3, none⟩) hlt).trans c3
  have d4 := (hE2.old (p := ⟨b0, 4, none⟩) hlt).trans c4
  have d6 := (hE2.old (p := ⟨b0, 6, none⟩) hlt).trans c6
  have d2 := (hE2.old (p := ⟨b0, 2, none⟩) hlt).trans c2
  have d5 := (hE2.old (p := ⟨b0, 5, none⟩) hlt).trans c5
  obtain ⟨z0, z1, z2, z3, z4, z5, z6, z7, z8⟩ := hz.cells
  obtain ⟨f0, f1, f2, f3, f4, f5, f6, f7, f8⟩ := hz.free
  unfold Ev_zero at hw2
  have HW2 := Lib.hid hw2
  have HZ := Lib.hid hz
  have HB0 := Lib.hid hb0
  have HB1 := Lib.hid hb1
  have HE := Lib.hid (hE1.trans hE2)
  have HS1 := Lib.hid hs1
  have HLE : Hid (w.heap.size ≤ b1) := Lib.hid (by rw [← hs1]; omega)
  clear hw1 hw2 hE1 hE2 hz hb0 hb1 hs1 hlt c3 c4 c6 c2 c5
  go_enter Tryz.func31, Tryz.ntmps31
  go_upto_region 1 with fail
  rw [HW1.out, HW2.out, HB0.out, HS1.out]
  go_wp2_with fail
  exact finEvZ rfl (WayE s1 s2 wt lv st) HZ.out rfl ⟨rfl, ext_fresh HE.out (setEv_grown w2 b1 _) HLE.out⟩
def PlaceE (s1 s2 : List UInt8) (wt : Int) : En := ⟨3, s1, s2, wt, 0, false, 0, 0, 0⟩
set_option maxRecDepth 100000 in
set_option maxHeartbeats 1000000 in
theorem ofPlace_any (i : Value) (px : Value) (py : Value) (s1 : List UInt8) (s2 : List UInt8) (wt : Int) (ds : Value) (w : World) : Calls Tryz.prog 32 #[.agg #[i, px, py, .string ⟨s1.toArray⟩, .string ⟨s2.toArray⟩, .int .i64 wt, ds]] w fun e w' => e = .returned (PlaceE s1 s2 wt).v ∧ Ext w w' := by
  obtain ⟨w1, hw1⟩ : ∃ q, w.alloc (.cells #[i, px, py, .string ⟨s1.toArray⟩, .string ⟨s2.toArray⟩, .int .i64 wt, ds] 76) = q := ⟨_, rfl⟩
  have hE1 : Ext w w1 := by rw [← hw1]; exact Ext.alloc _ _
  have c3 : w1.cell? ⟨w.heap.size, 3, none⟩ = some (.string ⟨s1.toArray⟩) := by rw [← hw1]; exact cell_new _ _ _ 3 _ rfl
  have c4 : w1.cell? ⟨w.heap.size, 4, none⟩ = some (.string ⟨s2.toArray⟩) := by rw [← hw1]; exact cell_new _ _ _ 4 _ rfl
  have c5 : w1.cell? ⟨w.heap.size, 5, none⟩ = some (.int .i64 wt) := by rw [← hw1]; exact cell_new _ _ _ 5 _ rfl
  have hlt : w.heap.size < w1.heap.size := by rw [← hw1]; simp
  have HW1 := Lib.hid hw1
  have hz := EvZ.new w1
  obtain ⟨w2, hw2⟩ : ∃ q, w1.alloc (.cells Ev_zero 28) = q := ⟨_, rfl⟩
  have hE2 : Ext w1 w2 := by rw [← hw2]; exact Ext.alloc _ _
  rw [hw2] at hz
  obtain ⟨b0, hb0⟩ : ∃ q, w.heap.size = q := ⟨_, rfl⟩
  obtain ⟨b1, hb1⟩ : ∃ q, w1.heap.size = q := ⟨_, rfl⟩
  have hs1 : w.heap.size + 1 = b1 := by rw [← hb1, ← hw1]; simp
  rw [hb0] at hs1 hlt c3 c4 c5
  rw [hb1] at hz
  have d3 := (hE2.old (p := ⟨b0, 3, none⟩) hlt).trans c3
  have d4 := (hE2.old (p := ⟨b0, 4, none⟩) hlt).trans c4
  have d5 := (hE2.old (p := ⟨b0, 5, none⟩) hlt).trans c5
  obtain ⟨z0, z1, z2, z3, z4, z5, z6, z7, z8⟩ := hz.cells
  obtain ⟨f0, f1, f2, f3, f4, f5, f6, f7, f8⟩ := hz.free
  unfold Ev_zero at hw2
  have HW2 := Lib.hid hw2
  have HZ := Lib.hid hz
  have HB0 := Lib.hid hb0
  have HB1 := Lib.hid hb1
  have HE := Lib.hid (hE1.trans hE2)
  have HS1 := Lib.hid hs1
  have HLE : Hid (w.heap.size ≤ b1) := Lib.hid (by rw [← hs1]; omega)
  clear hw1 hw2 hE1 hE2 hz hb0 hb1 hs1 hlt c3 c4 c5
  go_enter Tryz.func32, Tryz.ntmps32
  go_upto_region 1 with fail
  rw [HW1.out, HW2.out, HB0.out, HS1.out]
  go_wp2_with fail
  exact finEvZ rfl (PlaceE s1 s2 wt) HZ.out rfl ⟨rfl, ext_fresh HE.out (setEv_grown w2 b1 _) HLE.out⟩
end Go.Proofs.YtmiencglfhpmeaaGreatDoor
