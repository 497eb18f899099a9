/- The law ExprChecks: its walk. -/
import Derived.Test.YtggkkjnfonbpkaaGreatDoorQLk
import Derived.Test.YtggkkjnfonbpkaaGreatDoorQIh
import Derived.Test.YtggkkjnfonbpkaaGreatDoorQId
import Derived.Test.YtggkkjnfonbpkaaGreatDoorQIf
import Derived.Test.YtggkkjnfonbpkaaGreatDoorQEg

set_option linter.unusedSimpArgs false
set_option linter.unusedVariables false
namespace Go.Proofs.YtggkkjnfonbpkaaGreatDoor
open Go.RowKit Hach

mutual
theorem Ex.fit_ok : ∀ e : Ex, e.fit → e.ok
  | .mk op var ty n b s l => fun h => by
    rw [Ex.fit] at h
    rw [Ex.ok]
    have h5 := h.2.2.2.2.1
    exact ⟨h.1, h.2.1, h.2.2.1, h.2.2.2.1, by omega, Ex.fits_ok l h.2.2.2.2.2⟩
theorem Ex.fits_ok : ∀ l : List Ex, Ex.fits l → Ex.oks l
  | [] => fun _ => trivial
  | e :: l => fun h => ⟨Ex.fit_ok e h.1, Ex.fits_ok l h.2⟩
end
/- an expression that may be asked; a row of such -/
def askSP : SP := ⟨fun v W => ∃ (x : Ex) (A : Option Addr) (c d : Nat), v = .agg #[.int .i64 x.op, .int .i64 x.var, .int .i64 x.ty, .int .i64 x.n, .bool x.b, .string ⟨x.s.toArray⟩, .slice A x.l.length c] ∧ ExB W W.heap.size d A x.l ∧ x.size < 4194304 ∧ x.ok, fun h hE => by
  obtain ⟨x, A, c, d, e, h, h1, h2⟩ := h
  exact ⟨x, A, c, d, e, ExL.ext h hE, h1, h2⟩⟩
def Asks (l : List Ex) : Prop := ∀ x ∈ l, x.size < 4194304 ∧ x.ok
def askSl (n : Nat) : SP := ⟨fun v W => ∃ (g d : Nat) (l : List Ex), v = .slice (some ⟨g, 0, none⟩) n n ∧ l.length = n ∧ ExB W W.heap.size d (some ⟨g, 0, none⟩) l ∧ Asks l, fun h hE => by
  obtain ⟨g, d, l, e, hl, h, h1⟩ := h
  exact ⟨g, d, l, e, hl, ExL.ext h hE, h1⟩⟩
theorem row4 (W : World) (x0 x1 x2 x3 : Ex) (A0 A1 A2 A3 : Option Addr) (c0 c1 c2 c3 d0 d1 d2 d3 : Nat) (h0 : ExB W W.heap.size d0 A0 x0.l) (h1 : ExB W W.heap.size d1 A1 x1.l) (h2 : ExB W W.heap.size d2 A2 x2.l) (h3 : ExB W W.heap.size d3 A3 x3.l) :
    ∃ W', W' = W.alloc (.cells #[.int .i64 x0.op, .int .i64 x0.var, .int .i64 x0.ty, .int .i64 x0.n, .bool x0.b, .string ⟨x0.s.toArray⟩, .slice A0 x0.l.length c0, .int .i64 x1.op, .int .i64 x1.var, .int .i64 x1.ty, .int .i64 x1.n, .bool x1.b, .string ⟨x1.s.toArray⟩, .slice A1 x1.l.length c1, .int .i64 x2.op, .int .i64 x2.var, .int .i64 x2.ty, .int .i64 x2.n, .bool x2.b, .string ⟨x2.s.toArray⟩, .slice A2 x2.l.length c2, .int .i64 x3.op, .int .i64 x3.var, .int .i64 x3.ty, .int .i64 x3.n, .bool x3.b, .string ⟨x3.s.toArray⟩, .slice A3 x3.l.length c3] 29) ∧ ExB W' W'.heap.size (d0 + d1 + d2 + d3 + 1) (some ⟨W.heap.size, 0, none⟩) [x0, x1, x2, x3] := by
  refine ⟨_, rfl, ?_⟩
  have hE := Ext.alloc W (.cells #[.int .i64 x0.op, .int .i64 x0.var, .int .i64 x0.ty, .int .i64 x0.n, .bool x0.b, .string ⟨x0.s.toArray⟩, .slice A0 x0.l.length c0, .int .i64 x1.op, .int .i64 x1.var, .int .i64 x1.ty, .int .i64 x1.n, .bool x1.b, .string ⟨x1.s.toArray⟩, .slice A1 x1.l.length c1, .int .i64 x2.op, .int .i64 x2.var, .int .i64 x2.ty, .int .i64 x2.n, .bool x2.b, .string ⟨x2.s.toArray⟩, .slice A2 x2.l.length c2, .int .i64 x3.op, .int .i64 x3.var, .int .i64 x3.ty, .int .i64 x3.n, .bool x3.b, .string ⟨x3.s.toArray⟩, .slice A3 x3.l.length c3] 29)
  refine ExL.row (us := [⟨x0, A0, c0⟩, ⟨x1, A1, c1⟩, ⟨x2, A2, c2⟩, ⟨x3, A3, c3⟩]) (by simp) (fun u hu => ?_) (fun i v hi => ?_)
  · simp only [List.mem_cons, List.not_mem_nil, or_false] at hu
    rcases hu with rfl | rfl | rfl | rfl
    · exact (ExL.ext h0 hE).deep (by omega)
    · exact (ExL.ext h1 hE).deep (by omega)
    · exact (ExL.ext h2 hE).deep (by omega)
    · exact (ExL.ext h3 hE).deep (by omega)
  · rw [World.cell?_alloc_new]
    simpa [Nd.cells, Ex.cells] using hi
set_option maxRecDepth 100000 in
set_option maxHeartbeats 8000000 in
theorem ExprChecks_any (A0 : Option Addr) (n0 c0 : Nat) (q0 q1 q2 q3 q4 q5 : Int) (r : Ex) (Ar : Option Addr) (cr dr : Nat) (x : En) (w : World) (htab : Tabs w) (hL : LI w A0 n0) (hXr : ExB w w.heap.size dr Ar r.l) (hr : r.raw) (hx : x.raw) :
    Calls Tryz.prog 3 #[.slice A0 n0 c0, .agg #[.int .i64 q0, .int .i64 q1, .int .i64 q2, .int .i64 q3, .int .i64 q4, .int .i64 q5], .agg #[.int .i64 r.op, .int .i64 r.var, .int .i64 r.ty, .int .i64 r.n, .bool r.b, .string ⟨r.s.toArray⟩, .slice Ar r.l.length cr, .int .i64 x.kind, .string ⟨x.cls.toArray⟩, .string ⟨x.name.toArray⟩, .int .i64 x.weight, .int .i64 x.level, .bool x.stairs, .int .i64 x.scale, .int .i64 x.hour, .int .i64 x.reader]] w fun e w' => e = .returned (.bool true) ∧ Ext w w' := by
  obtain ⟨w0, hw0⟩ : ∃ w0, w.alloc (.cells #[.int .i64 q0, .int .i64 q1, .int .i64 q2, .int .i64 q3, .int .i64 q4, .int .i64 q5] 24) = w0 := ⟨_, rfl⟩
  have hE0 : Ext w w0 := by rw [← hw0]; exact Ext.alloc _ _
  have hs0 : w0.heap.size = w.heap.size + 1 := by rw [← hw0]; simp
  have hq : ∀ j v, (#[.int .i64 q0, .int .i64 q1, .int .i64 q2, .int .i64 q3, .int .i64 q4, .int .i64 q5] : Array Value)[j]? = some v → w0.cell? ⟨w.heap.size, j, none⟩ = some v := fun j v hj => by rw [← hw0, World.cell?_alloc_new]; exact hj
  obtain ⟨w1, hw1⟩ : ∃ w1, w0.alloc (.cells #[.int .i64 r.op, .int .i64 r.var, .int .i64 r.ty, .int .i64 r.n, .bool r.b, .string ⟨r.s.toArray⟩, .slice Ar r.l.length cr, .int .i64 x.kind, .string ⟨x.cls.toArray⟩, .string ⟨x.name.toArray⟩, .int .i64 x.weight, .int .i64 x.level, .bool x.stairs, .int .i64 x.scale, .int .i64 x.hour, .int .i64 x.reader] 33) = w1 := ⟨_, rfl⟩
  have hE1 : Ext w0 w1 := by rw [← hw1]; exact Ext.alloc _ _
  have hs1 : w1.heap.size = w.heap.size + 2 := by rw [← hw1]; simp; omega
  have hc : ∀ j v, (#[.int .i64 r.op, .int .i64 r.var, .int .i64 r.ty, .int .i64 r.n, .bool r.b, .string ⟨r.s.toArray⟩, .slice Ar r.l.length cr, .int .i64 x.kind, .string ⟨x.cls.toArray⟩, .string ⟨x.name.toArray⟩, .int .i64 x.weight, .int .i64 x.level, .bool x.stairs, .int .i64 x.scale, .int .i64 x.hour, .int .i64 x.reader] : Array Value)[j]? = some v → w1.cell? ⟨w.heap.size + 1, j, none⟩ = some v := fun j v hj => by rw [← hs0, ← hw1, World.cell?_alloc_new]; exact hj
  have hq1 : ∀ j v, (#[.int .i64 q0, .int .i64 q1, .int .i64 q2, .int .i64 q3, .int .i64 q4, .int .i64 q5] : Array Value)[j]? = some v → w1.cell? ⟨w.heap.size, j, none⟩ = some v := fun j v hj => (hE1.old (p := ⟨w.heap.size, j, none⟩) (by show w.heap.size < _; omega)).trans (hq j v hj)
  have hE01 := hE0.trans hE1
  have HT := Lib.hid (htab.ext hE01)
  have HL := Lib.hid (hL.ext hE01)
  have HXr := Lib.hid (ExL.ext hXr hE01)
  have HR := Lib.hid hr
  have HX := Lib.hid hx
  have HQ := Lib.hid hq1
  have HC := Lib.hid hc
  have HW0 := Lib.hid hw0
  have HW1 := Lib.hid hw1
  have HE01 := Lib.hid hE01
  have HS1 := Lib.hid hs1
  clear hw0 hw1 hs0 hs1 hE0 hE1 hE01 hq hq1 hc hL htab hXr hr hx
  go_enter Tryz.func3, Tryz.ntmps3
  go_upto_region 1 with fail
  rw [HW0.out, HW1.out]
  go_wp2_with fail
  refine (sanity_any w1 HT.out).mono ?_
  rintro e w2 ⟨rfl, hE2⟩
  go_wp2_with fail
  refine (expr_any A0 n0 c0 w2 (HL.out.ext hE2)).mono ?_
  rintro e w3 ⟨a, ta, Aa, ca, da, hRa, hSa, rfl, hXa, hE3⟩
  have hin := InBlk.new2 w3 a Aa ca
  have hE4 : Ext w3 (w3.alloc (.cells (a.cells Aa ca).toArray 29)) := Ext.alloc _ _
  have HRa := Lib.hid hRa
  have hXa4 := ExL.ext (hXa.more fun k hk => hk.2) hE4
  unfold Ex.cells at hin hE4 hXa4 ⊢
  go_upto_region 3 with fail
  obtain ⟨w4, hw4⟩ : ∃ w4, w3.alloc (.cells #[.int .i64 a.op, .int .i64 a.var, .int .i64 a.ty, .int .i64 a.n, .bool a.b, .string ⟨a.s.toArray⟩, .slice Aa a.l.length ca] 29) = w4 := ⟨_, rfl⟩
  have hEa : Ext w3 w4 := by rw [← hw4]; exact Ext.alloc _ _
  rw [hw4] at hin hXa4 ⊢
  have hE14 := (hE2.trans hE3).trans hEa
  have OD := Lib.hid (Odd_any da a Aa ca q0 q1 q2 w4 hXa4 (by omega) (rt_ok HRa.out))
  unfold Ex.cells at OD
  have hs1 : w.heap.size + 1 < w1.heap.size := by have := HS1.out; omega
  have HQ4 : Hid (∀ W, Ext w1 W → ∀ j v, (#[.int .i64 q0, .int .i64 q1, .int .i64 q2, .int .i64 q3, .int .i64 q4, .int .i64 q5] : Array Value)[j]? = some v → W.cell? ⟨w.heap.size, j, none⟩ = some v) := Lib.hid (fun W h j v hj => (h.old (p := ⟨w.heap.size, j, none⟩) (by show w.heap.size < _; omega)).trans (HQ.out j v hj))
  have HC4 : Hid (∀ W, Ext w1 W → ∀ j v, (#[.int .i64 r.op, .int .i64 r.var, .int .i64 r.ty, .int .i64 r.n, .bool r.b, .string ⟨r.s.toArray⟩, .slice Ar r.l.length cr, .int .i64 x.kind, .string ⟨x.cls.toArray⟩, .string ⟨x.name.toArray⟩, .int .i64 x.weight, .int .i64 x.level, .bool x.stairs, .int .i64 x.scale, .int .i64 x.hour, .int .i64 x.reader] : Array Value)[j]? = some v → W.cell? ⟨w.heap.size + 1, j, none⟩ = some v) := Lib.hid (fun W h j v hj => (h.old (p := ⟨w.heap.size + 1, j, none⟩) hs1).trans (HC.out j v hj))
  have v0 := HQ4.out w4 hE14 0 _ rfl
  have v1 := HQ4.out w4 hE14 1 _ rfl
  have v2 := HQ4.out w4 hE14 2 _ rfl
  obtain ⟨la0, la1, la2, la3, la4, la5, la6⟩ := hin.cells
  have HIa := Lib.hid hin
  have HXa := Lib.hid hXa4
  have HE14 := Lib.hid hE14
  clear hw4 hE4 hin hXa4 hXa hRa hE2 hE3 hEa hE14
  go_wp2_with fail
  refine OD.out.mono ?_
  rintro e w5 ⟨o, Ao, co, dd, rfl, hXo, hso, hoo, hE5⟩
  unfold Ex.cells
  clear la0 la1 la2 la3 la4 la5 la6 v0 v1 v2 OD
  go_upto_region 4 with fail
  have hio := InBlk.new2 w5 o Ao co
  obtain ⟨w6, hw6⟩ : ∃ y, w5.alloc (.cells #[.int .i64 o.op, .int .i64 o.var, .int .i64 o.ty, .int .i64 o.n, .bool o.b, .string ⟨o.s.toArray⟩, .slice Ao o.l.length co] 29) = y := ⟨_, rfl⟩
  have hE56 : Ext w5 w6 := by rw [← hw6]; exact Ext.alloc _ _
  unfold Ex.cells at hio
  rw [hw6] at hio ⊢
  have hXo6 := ExL.ext (hXo.more fun k hk => hk.2) hE56
  have hE46 := hE5.trans hE56
  have hE16 := HE14.out.trans hE46
  have HIa6 := Lib.hid (HIa.out.ext hE46)
  have HXa6 := Lib.hid (ExL.ext HXa.out hE46)
  have HIo := Lib.hid hio
  have HXo := Lib.hid hXo6
  have HSO := Lib.hid (show o.size ≤ 3007 ∧ o.ok from ⟨by omega, hoo⟩)
  have HE16 := Lib.hid hE16
  have u7 := HC4.out w6 hE16 7 _ rfl
  have u8 := HC4.out w6 hE16 8 _ rfl
  have u9 := HC4.out w6 hE16 9 _ rfl
  have u10 := HC4.out w6 hE16 10 _ rfl
  have u11 := HC4.out w6 hE16 11 _ rfl
  have u12 := HC4.out w6 hE16 12 _ rfl
  have u13 := HC4.out w6 hE16 13 _ rfl
  have u14 := HC4.out w6 hE16 14 _ rfl
  have u15 := HC4.out w6 hE16 15 _ rfl
  clear hw6 hE56 hXo hso hoo hio hXo6 hE46 hE16 hE5 HIa HXa
  go_wp2_with fail
  refine (lawEnv_any x HX.out w6).mono ?_
  rintro e w7 ⟨rfl, hE7⟩
  obtain ⟨xe, hxe⟩ : ∃ z, x.cut 30 = z := ⟨_, rfl⟩
  rw [hxe]
  unfold En.v
  clear hxe u7 u8 u9 u10 u11 u12 u13 u14 u15
  go_wp2_with fail
  refine (rEnv_any A0 n0 c0 w7 (HL.out.ext (HE16.out.trans hE7))).mono ?_
  rintro e w8 ⟨ye, rfl, _, _, hE8⟩
  unfold En.v
  go_upto_region 5 with fail
  obtain ⟨y1, hy1⟩ : ∃ y, w8.alloc (.cells #[.int .i64 xe.kind, .string ⟨xe.cls.toArray⟩, .string ⟨xe.name.toArray⟩, .int .i64 xe.weight, .int .i64 xe.level, .bool xe.stairs, .int .i64 xe.scale, .int .i64 xe.hour, .int .i64 xe.reader] 31) = y := ⟨_, rfl⟩
  obtain ⟨w9, hw9⟩ : ∃ y, y1.alloc (.cells #[.int .i64 ye.kind, .string ⟨ye.cls.toArray⟩, .string ⟨ye.name.toArray⟩, .int .i64 ye.weight, .int .i64 ye.level, .bool ye.stairs, .int .i64 ye.scale, .int .i64 ye.hour, .int .i64 ye.reader] 31) = y := ⟨_, rfl⟩
  have hX1 : Ext w8 y1 := by rw [← hy1]; exact Ext.alloc _ _
  have hX2 : Ext y1 w9 := by rw [← hw9]; exact Ext.alloc _ _
  have hsy : y1.heap.size = w8.heap.size + 1 := by rw [← hy1]; simp
  have hbx := EnBox.new w8 xe 31
  have hby := EnBox.new y1 ye 31
  unfold En.cells at hbx hby
  rw [hy1] at hbx
  rw [hw9, hsy] at hby
  have hE69 := ((hE7.trans hE8).trans hX1).trans hX2
  have HEx := Lib.hid (hbx.ext hX2)
  have HEy := Lib.hid hby
  have HIa9 := Lib.hid (HIa6.out.ext hE69)
  have HXa9 := Lib.hid (ExL.ext HXa6.out hE69)
  have HIo9 := Lib.hid (HIo.out.ext hE69)
  have HXo9 := Lib.hid (ExL.ext HXo.out hE69)
  have HE19 := Lib.hid (HE16.out.trans hE69)
  have HXr9 := Lib.hid (ExL.ext HXr.out HE19.out)
  have HT9 := Lib.hid (HT.out.ext HE19.out)
  have HY1 := Lib.hid hy1
  have HY2 := Lib.hid hw9
  rw [HY1.out, HY2.out]
  clear hy1 hw9 hX1 hX2 hsy hbx hby hE69 hE7 hE8 hs1 HIa6 HXa6 HIo HXo HXr HT HY1 HY2 HE16 HE14 HQ HC HW0 HW1 HL HX
  apply wp_region_seq (l := [_, _, _, _, _, _, _, _, _, _, _, _]) (t := []) [some 28, some 29, some 30, some 31, some 32, some 33, some 34, some 35, some 36, some 37, some 38, some 39] [[], [], [], [], [3], [2, 4], [], [6], [7], [0, 1, 5, 8], [9], []] [] [eqv _, eqv _, eqv _, eqv _, eqv _, (askSP), eqv _, eqv _, (askSP), (askSl 4), eqv _, eqv _] (by kernel_rfl) (by kernel_rfl) ⟨?o0, ?o1, ?o2, ?o3, ?o4, ?o5, ?o6, ?o7, ?o8, ?o9, ?o10, ?o11, trivial⟩ ?last
  case o0 => -- Op.load 29 (Operand.tmp 8)
    intro xv W hE _
    have hEW := (Ext.drew w9).trans hE
    obtain ⟨la0, la1, la2, la3, la4, la5, la6⟩ := (HIa9.out.ext hEW).cells
    obtain ⟨lo0, lo1, lo2, lo3, lo4, lo5, lo6⟩ := (HIo9.out.ext hEW).cells
    have u3 := HQ4.out W (HE19.out.trans hEW) 3 _ rfl
    have u4 := HQ4.out W (HE19.out.trans hEW) 4 _ rfl
    have u5 := HQ4.out W (HE19.out.trans hEW) 5 _ rfl
    have t0 := HC4.out W (HE19.out.trans hEW) 0 _ rfl
    have t1 := HC4.out W (HE19.out.trans hEW) 1 _ rfl
    have t2 := HC4.out W (HE19.out.trans hEW) 2 _ rfl
    have t3 := HC4.out W (HE19.out.trans hEW) 3 _ rfl
    have t4 := HC4.out W (HE19.out.trans hEW) 4 _ rfl
    have t5 := HC4.out W (HE19.out.trans hEW) 5 _ rfl
    have t6 := HC4.out W (HE19.out.trans hEW) 6 _ rfl
    simp only [putD, List.foldl_nil, List.getD_cons_zero]
    refine OpGoal.plain ?_
    go_wp2_with fail
    exact ⟨rfl, Ext.refl _, rfl⟩
  case o1 => -- Op.load 29 (Operand.tmp 9)
    intro xv W hE _
    have hEW := (Ext.drew w9).trans hE
    obtain ⟨la0, la1, la2, la3, la4, la5, la6⟩ := (HIa9.out.ext hEW).cells
    obtain ⟨lo0, lo1, lo2, lo3, lo4, lo5, lo6⟩ := (HIo9.out.ext hEW).cells
    have u3 := HQ4.out W (HE19.out.trans hEW) 3 _ rfl
    have u4 := HQ4.out W (HE19.out.trans hEW) 4 _ rfl
    have u5 := HQ4.out W (HE19.out.trans hEW) 5 _ rfl
    have t0 := HC4.out W (HE19.out.trans hEW) 0 _ rfl
    have t1 := HC4.out W (HE19.out.trans hEW) 1 _ rfl
    have t2 := HC4.out W (HE19.out.trans hEW) 2 _ rfl
    have t3 := HC4.out W (HE19.out.trans hEW) 3 _ rfl
    have t4 := HC4.out W (HE19.out.trans hEW) 4 _ rfl
    have t5 := HC4.out W (HE19.out.trans hEW) 5 _ rfl
    have t6 := HC4.out W (HE19.out.trans hEW) 6 _ rfl
    simp only [putD, List.foldl_nil, List.getD_cons_zero, List.getD_cons_succ]
    refine OpGoal.plain ?_
    go_wp2_with fail
    exact ⟨rfl, Ext.refl _, rfl⟩
  case o2 => -- Op.load 29 (Operand.tmp 9)
    intro xv W hE _
    have hEW := (Ext.drew w9).trans hE
    obtain ⟨la0, la1, la2, la3, la4, la5, la6⟩ := (HIa9.out.ext hEW).cells
    obtain ⟨lo0, lo1, lo2, lo3, lo4, lo5, lo6⟩ := (HIo9.out.ext hEW).cells
    have u3 := HQ4.out W (HE19.out.trans hEW) 3 _ rfl
    have u4 := HQ4.out W (HE19.out.trans hEW) 4 _ rfl
    have u5 := HQ4.out W (HE19.out.trans hEW) 5 _ rfl
    have t0 := HC4.out W (HE19.out.trans hEW) 0 _ rfl
    have t1 := HC4.out W (HE19.out.trans hEW) 1 _ rfl
    have t2 := HC4.out W (HE19.out.trans hEW) 2 _ rfl
    have t3 := HC4.out W (HE19.out.trans hEW) 3 _ rfl
    have t4 := HC4.out W (HE19.out.trans hEW) 4 _ rfl
    have t5 := HC4.out W (HE19.out.trans hEW) 5 _ rfl
    have t6 := HC4.out W (HE19.out.trans hEW) 6 _ rfl
    simp only [putD, List.foldl_nil, List.getD_cons_zero, List.getD_cons_succ]
    refine OpGoal.plain ?_
    go_wp2_with fail
    exact ⟨rfl, Ext.refl _, rfl⟩
  case o3 => -- Op.indexAddr 24 (Operand.tmp 4) (Operand.const (Value.int IntKind.i64 1))
    intro xv W hE _
    simp only [putD, List.foldl_nil, List.getD_cons_zero, List.getD_cons_succ]
    refine OpGoal.plain ?_
    go_wp2_with fail
    exact ⟨rfl, Ext.refl _, rfl⟩
  case o4 => -- Op.load 23 (Operand.tmp 31)
    intro xv W hE hp
    have r3 : xv 3 = _ := hp.1
    clear hp
    have hEW := (Ext.drew w9).trans hE
    obtain ⟨la0, la1, la2, la3, la4, la5, la6⟩ := (HIa9.out.ext hEW).cells
    obtain ⟨lo0, lo1, lo2, lo3, lo4, lo5, lo6⟩ := (HIo9.out.ext hEW).cells
    have u3 := HQ4.out W (HE19.out.trans hEW) 3 _ rfl
    have u4 := HQ4.out W (HE19.out.trans hEW) 4 _ rfl
    have u5 := HQ4.out W (HE19.out.trans hEW) 5 _ rfl
    have t0 := HC4.out W (HE19.out.trans hEW) 0 _ rfl
    have t1 := HC4.out W (HE19.out.trans hEW) 1 _ rfl
    have t2 := HC4.out W (HE19.out.trans hEW) 2 _ rfl
    have t3 := HC4.out W (HE19.out.trans hEW) 3 _ rfl
    have t4 := HC4.out W (HE19.out.trans hEW) 4 _ rfl
    have t5 := HC4.out W (HE19.out.trans hEW) 5 _ rfl
    have t6 := HC4.out W (HE19.out.trans hEW) 6 _ rfl
    simp only [putD, List.foldl_nil, List.foldl_cons, List.getD_cons_zero, List.getD_cons_succ, Act.put, List.setIfInBounds_toArray, List.set_cons_zero, List.set_cons_succ]
    refine OpGoal.plain ?_
    go_wp2_with fail
    exact ⟨rfl, Ext.refl _, rfl⟩
  case o5 => -- Op.call { callee := Callee.value (Operand.func 10), args := #[Operand.tmp 30, Op
    intro xv W hE hp
    have r2 : xv 2 = _ := hp.1
    have r4 : xv 4 = _ := hp.2.1
    clear hp
    simp only [putD, List.foldl_nil, List.foldl_cons, List.getD_cons_zero, List.getD_cons_succ, Act.put, List.setIfInBounds_toArray, List.set_cons_zero, List.set_cons_succ]
    refine OpGoal.plain ?_
    go_wp2_with fail
    have hEW := (Ext.drew w9).trans hE
    refine (Odd_any dd o Ao co q3 q4 q5 W (ExL.ext HXo9.out hEW) (by have := HSO.out.1; omega) HSO.out.2).mono ?_
    rintro e w' ⟨x2, A2, c2, d2, rfl, hX2, hs2, ho2, hE9⟩
    go_wp2_with fail
    exact ⟨rfl, hE9, x2, A2, c2, d2, rfl, hX2.more fun b hb => hb.2, by have := HSO.out.1; omega, ho2⟩
  case o6 => -- Op.fieldAddr 33 (Operand.tmp 5) 0
    intro xv W hE _
    simp only [putD, List.foldl_nil, List.getD_cons_zero, List.getD_cons_succ]
    refine OpGoal.plain ?_
    go_wp2_with fail
    exact ⟨rfl, Ext.refl _, rfl⟩
  case o7 => -- Op.load 29 (Operand.tmp 34)
    intro xv W hE hp
    have r6 : xv 6 = _ := hp.1
    clear hp
    have hEW := (Ext.drew w9).trans hE
    obtain ⟨la0, la1, la2, la3, la4, la5, la6⟩ := (HIa9.out.ext hEW).cells
    obtain ⟨lo0, lo1, lo2, lo3, lo4, lo5, lo6⟩ := (HIo9.out.ext hEW).cells
    have u3 := HQ4.out W (HE19.out.trans hEW) 3 _ rfl
    have u4 := HQ4.out W (HE19.out.trans hEW) 4 _ rfl
    have u5 := HQ4.out W (HE19.out.trans hEW) 5 _ rfl
    have t0 := HC4.out W (HE19.out.trans hEW) 0 _ rfl
    have t1 := HC4.out W (HE19.out.trans hEW) 1 _ rfl
    have t2 := HC4.out W (HE19.out.trans hEW) 2 _ rfl
    have t3 := HC4.out W (HE19.out.trans hEW) 3 _ rfl
    have t4 := HC4.out W (HE19.out.trans hEW) 4 _ rfl
    have t5 := HC4.out W (HE19.out.trans hEW) 5 _ rfl
    have t6 := HC4.out W (HE19.out.trans hEW) 6 _ rfl
    simp only [putD, List.foldl_nil, List.foldl_cons, List.getD_cons_zero, List.getD_cons_succ, Act.put, List.setIfInBounds_toArray, List.set_cons_zero, List.set_cons_succ]
    refine OpGoal.plain ?_
    go_wp2_with fail
    exact ⟨rfl, Ext.refl _, rfl⟩
  case o8 => -- Op.call { callee := Callee.value (Operand.func 13), args := #[Operand.tmp 35, Op
    intro xv W hE hp
    have r7 : xv 7 = _ := hp.1
    clear hp
    simp only [putD, List.foldl_nil, List.foldl_cons, List.getD_cons_zero, List.getD_cons_succ, Act.put, List.setIfInBounds_toArray, List.set_cons_zero, List.set_cons_succ]
    refine OpGoal.plain ?_
    go_wp2_with fail
    have hEW := (Ext.drew w9).trans hE
    refine (cut_any 4 r dr Ar cr 4 W rfl (by decide) (ExL.ext HXr9.out hEW) HR.out).mono ?_
    rintro e w' ⟨x3, A3, c3, rfl, hX3, hs3, hf3, hE9⟩
    go_wp2_with fail
    exact ⟨rfl, hE9, x3, A3, c3, 4, rfl, hX3.more fun b hb => hb.2, by have h : cutSize 4 = 341 := rfl; omega, Ex.fit_ok _ hf3⟩
  case o9 => -- Op.buildSlice 27 4 #[(0, Operand.tmp 28), (1, Operand.tmp 29), (2, Operand.tmp 3
    intro xv W hE hp
    have r0 : xv 0 = _ := hp.1
    have r1 : xv 1 = _ := hp.2.1
    obtain ⟨x5, A5, c5, d5, r5, h5, s5, o5⟩ := hp.2.2.1
    obtain ⟨x8, A8, c8, d8, r8, h8, s8, o8⟩ := hp.2.2.2.1
    clear hp
    simp only [putD, List.foldl_nil, List.foldl_cons, List.getD_cons_zero, List.getD_cons_succ, Act.put, List.setIfInBounds_toArray, List.set_cons_zero, List.set_cons_succ]
    refine OpGoal.plain ?_
    go_wp2_with fail
    have hEW := (Ext.drew w9).trans hE
    obtain ⟨W', hW', hrow⟩ := row4 W a o x5 x8 Aa Ao A5 A8 ca co c5 c8 da dd d5 d8 (ExL.ext HXa9.out hEW) (ExL.ext HXo9.out hEW) h5 h8
    refine ⟨rfl, Ext.alloc _ _, W.heap.size, da + dd + d5 + d8 + 1, [a, o, x5, x8], rfl, rfl, ?_, ?_⟩
    · rw [hW'] at hrow
      exact hrow
    · intro y hy
      simp only [List.mem_cons, List.not_mem_nil, or_false] at hy
      rcases hy with rfl | rfl | rfl | rfl
      · exact ⟨by omega, rt_ok HRa.out⟩
      · exact ⟨by have := HSO.out.1; omega, HSO.out.2⟩
      · exact ⟨s5, o5⟩
      · exact ⟨s8, o8⟩
  case o10 => -- Op.call { callee := Callee.builtin Builtin.len, args := #[Operand.tmp 37], argTy
    intro xv W hE hp
    obtain ⟨g9, d9, l9, r9, hl9, hX9, hA9⟩ := hp.1
    clear hp
    simp only [putD, List.foldl_nil, List.foldl_cons, List.getD_cons_zero, List.getD_cons_succ, Act.put, List.setIfInBounds_toArray, List.set_cons_zero, List.set_cons_succ]
    refine OpGoal.plain ?_
    go_wp2_with fail
    exact ⟨rfl, Ext.refl _, rfl⟩
  case o11 => -- Op.move (Operand.const (Value.int IntKind.i64 0))
    intro xv W hE _
    simp only [putD, List.foldl_nil, List.getD_cons_zero, List.getD_cons_succ]
    refine OpGoal.plain ?_
    go_wp2_with fail
    exact ⟨rfl, Ext.refl _, rfl⟩
  case last =>
    intro xv W hE hp
    have r0 : xv 0 = _ := hp.1
    have r1 : xv 1 = _ := hp.2.1
    have r2 : xv 2 = _ := hp.2.2.1
    have r3 : xv 3 = _ := hp.2.2.2.1
    have r4 : xv 4 = _ := hp.2.2.2.2.1
    obtain ⟨x5, A5, c5, d5, r5, h5, s5, o5⟩ := hp.2.2.2.2.2.1
    have r6 : xv 6 = _ := hp.2.2.2.2.2.2.1
    have r7 : xv 7 = _ := hp.2.2.2.2.2.2.2.1
    obtain ⟨x8, A8, c8, d8, r8, h8, s8, o8⟩ := hp.2.2.2.2.2.2.2.2.1
    obtain ⟨g9, d9, l9, r9, hl9, hX9, hA9⟩ := hp.2.2.2.2.2.2.2.2.2.1
    have r10 : xv 10 = _ := hp.2.2.2.2.2.2.2.2.2.2.1
    have r11 : xv 11 = _ := hp.2.2.2.2.2.2.2.2.2.2.2.1
    clear hp
    simp only [putD, List.foldl_nil, List.foldl_cons, List.getD_cons_zero, List.getD_cons_succ, Act.put, List.length_cons, List.length_nil, List.range_succ, List.range_zero, List.nil_append, List.cons_append, List.setIfInBounds_toArray, List.set_cons_zero, List.set_cons_succ]
    have hEW := (Ext.drew w9).trans hE
    have r9' : xv 9 = .slice (some ⟨g9, 0, none⟩) 4 4 := r9
    have r10' : xv 10 = .int .i64 4 := r10
    have r11' : xv 11 = .int .i64 0 := r11
    rw [r9', r10', r11']
    have HX9 := Lib.hid hX9
    have HA9 := Lib.hid hA9
    have HEW := Lib.hid hEW
    clear r0 r1 r2 r3 r4 r5 r6 r7 r8 r9 r10 r11 r9' r10' r11' hE hX9 hA9 hEW h5 h8 s5 s8 o5 o8 HIo9 HXo9 HXr9 HQ4 HC4
    go_wp2_with fail
    go_loopw [39] (fun kv wr => ∃ j : Nat, j ≤ 4 ∧ kv = .int .i64 j ∧ Ext W wr) (fun kv _ => 4 - (intOf kv).toNat)
    case atStart => exact ⟨0, Nat.zero_le _, rfl, Ext.refl _⟩
    case round =>
      obtain ⟨j, hj, rfl, hEr⟩ := hrel
      by_cases hlt : j < 4
      · have tj : decide ((j : Int) < 4) = true := by simp; omega
        have hjl : j < l9.length := by rw [hl9]; exact hlt
        obtain ⟨g2, o2, Ay, cy, dy, _, eg, _, hXy, n0', n1', n2', n3', n4', n5', n6'⟩ := ExL.one (HX9.out.ext hEr) hjl
        simp only [Option.some.injEq, Addr.mk.injEq] at eg
        obtain ⟨rfl, rfl, -⟩ := eg
        obtain ⟨y, hy⟩ : ∃ y, l9[j] = y := ⟨_, rfl⟩
        have hys := HA9.out y (by rw [← hy]; exact List.getElem_mem _)
        rw [hy] at hXy n0' n1' n2' n3' n4' n5' n6'
        simp only [Nat.zero_add] at n0' n1' n2' n3' n4' n5' n6'
        have hiy := InBlk.new2 wr y Ay cy
        obtain ⟨wi, hwi⟩ : ∃ z, wr.alloc (.cells #[.int .i64 y.op, .int .i64 y.var, .int .i64 y.ty, .int .i64 y.n, .bool y.b, .string ⟨y.s.toArray⟩, .slice Ay y.l.length cy] 29) = z := ⟨_, rfl⟩
        have hEi : Ext wr wi := by rw [← hwi]; exact Ext.alloc _ _
        unfold Ex.cells at hiy
        rw [hwi] at hiy
        have hXyi := ExL.ext hXy hEi
        have HIY := Lib.hid hiy
        have HEi := Lib.hid (hEr.trans hEi)
        have hE9i := HEW.out.trans (hEr.trans hEi)
        have HE9i := Lib.hid hE9i
        have HWI := Lib.hid hwi
        have SX := Lib.hid (fun (V : World) (h : Ext wi V) => lawSame_any y xe dy Ay cy V (hXyi.ext h) (by omega) hys.2 (HT9.out.ext (hE9i.trans h)))
        have SY := Lib.hid (fun (V : World) (h : Ext wi V) => lawSame_any y ye dy Ay cy V (hXyi.ext h) (by omega) hys.2 (HT9.out.ext (hE9i.trans h)))
        have SM := Lib.hid (fun (V : World) (h : Ext wi V) => Same_any (max dy da) y a Ay Aa cy ca V ((hXyi.ext h).deep (Nat.le_max_left _ _)) ((ExL.ext HXa9.out (hE9i.trans h)).deep (Nat.le_max_right _ _)) (by omega) (by omega))
        have RM := Lib.hid (fun (V : World) (h : Ext wi V) => rSame_any (max dy da) y a Ay Aa cy ca V ((hXyi.ext h).deep (Nat.le_max_left _ _)) ((ExL.ext HXa9.out (hE9i.trans h)).deep (Nat.le_max_right _ _)) (by omega) (by omega))
        unfold Ex.cells at SX SY SM RM
        unfold En.v at SX SY
        obtain ⟨bs, hbs⟩ : ∃ z, y.same a = z := ⟨_, rfl⟩
        rw [hbs] at SM RM
        clear hy hys hXy hXyi hiy hwi hbs hE9i hEi
        go_upto_region 8 with fail
        rw [HWI.out]
        clear n0' n1' n2' n3' n4' n5' n6'
        apply wp_region_seq (l := [_, _, _, _, _, _, _, _, _, _, _, _, _, _, _, _, _, _, _]) (t := []) [some 43, some 44, some 45, some 46, some 47, some 48, some 49, some 50, some 51, some 52, some 53, some 54, some 55, some 56, some 57, some 58, some 59, some 60, some 61] [[], [], [0, 1], [2], [3], [4], [4], [4, 5, 6], [4, 7], [4, 8], [9], [10], [10], [10, 11, 12], [10], [10], [10, 14, 15], [10, 13, 16], [10, 17]] [] [eqv _, eqv _, (eqv (.bool true)), eqv _, eqv _, eqv _, eqv _, (eqv (.bool true)), eqv _, eqv _, eqv _, eqv _, eqv _, (eqv (.bool bs)), eqv _, eqv _, (eqv (.bool bs)), (eqv (.bool false)), eqv _] (by kernel_rfl) (by kernel_rfl) ⟨?o0, ?o1, ?o2, ?o3, ?o4, ?o5, ?o6, ?o7, ?o8, ?o9, ?o10, ?o11, ?o12, ?o13, ?o14, ?o15, ?o16, ?o17, ?o18, trivial⟩ ?last
        case o0 => -- Op.load 29 (Operand.tmp 13)
          intro xv W2 hE _
          have hEW2 := (Ext.drew wi).trans hE
          obtain ⟨ly0, ly1, ly2, ly3, ly4, ly5, ly6⟩ := (HIY.out.ext hEW2).cells
          obtain ⟨la0, la1, la2, la3, la4, la5, la6⟩ := (HIa9.out.ext (HE9i.out.trans hEW2)).cells
          obtain ⟨_, m0, m1, m2, m3, m4, m5, m6, m7, m8⟩ := HEx.out.ext (HE9i.out.trans hEW2)
          obtain ⟨_, k0, k1, k2, k3, k4, k5, k6, k7, k8⟩ := HEy.out.ext (HE9i.out.trans hEW2)
          simp only [putD, List.foldl_nil, List.getD_cons_zero]
          refine OpGoal.plain ?_
          go_wp2_with fail
          exact ⟨rfl, Ext.refl _, rfl⟩
        case o1 => -- Op.load 31 (Operand.tmp 10)
          intro xv W2 hE _
          have hEW2 := (Ext.drew wi).trans hE
          obtain ⟨ly0, ly1, ly2, ly3, ly4, ly5, ly6⟩ := (HIY.out.ext hEW2).cells
          obtain ⟨la0, la1, la2, la3, la4, la5, la6⟩ := (HIa9.out.ext (HE9i.out.trans hEW2)).cells
          obtain ⟨_, m0, m1, m2, m3, m4, m5, m6, m7, m8⟩ := HEx.out.ext (HE9i.out.trans hEW2)
          obtain ⟨_, k0, k1, k2, k3, k4, k5, k6, k7, k8⟩ := HEy.out.ext (HE9i.out.trans hEW2)
          simp only [putD, List.foldl_nil, List.getD_cons_zero, List.getD_cons_succ]
          refine OpGoal.plain ?_
          go_wp2_with fail
          exact ⟨rfl, Ext.refl _, rfl⟩
        case o2 => -- Op.call { callee := Callee.value (Operand.func 14), args := #[Operand.tmp 43, Op
          intro xv W2 hE hp
          have r0 : xv 0 = _ := hp.1
          have r1 : xv 1 = _ := hp.2.1
          clear hp
          simp only [putD, List.foldl_nil, List.foldl_cons, List.getD_cons_zero, List.getD_cons_succ, Act.put, List.setIfInBounds_toArray, List.set_cons_zero, List.set_cons_succ]
          refine OpGoal.plain ?_
          go_wp2_with fail
          refine (SX.out W2 ((Ext.drew wi).trans hE)).mono ?_
          rintro e w' ⟨rfl, hE9⟩
          go_wp2_with fail
          exact ⟨rfl, hE9, rfl⟩
        case o3 => -- Op.unOp UnOp.not 4 (Operand.tmp 45)
          intro xv W2 hE hp
          have r2 : xv 2 = _ := hp.1
          clear hp
          simp only [putD, List.foldl_nil, List.foldl_cons, List.getD_cons_zero, List.getD_cons_succ, Act.put, List.setIfInBounds_toArray, List.set_cons_zero, List.set_cons_succ]
          refine OpGoal.plain ?_
          go_wp2_with fail
          exact ⟨rfl, Ext.refl _, rfl⟩
        case o4 => -- Op.move (Operand.tmp 46)
          intro xv W2 hE hp
          have r3 : xv 3 = _ := hp.1
          clear hp
          simp only [putD, List.foldl_nil, List.foldl_cons, List.getD_cons_zero, List.getD_cons_succ, Act.put, List.setIfInBounds_toArray, List.set_cons_zero, List.set_cons_succ]
          refine OpGoal.plain ?_
          go_wp2_with fail
          exact ⟨rfl, Ext.refl _, rfl⟩
        case o5 => -- Op.load 29 (Operand.tmp 13)  GUARD (4, 'false')
          intro xv W2 hE hp
          have r4 : xv 4 = _ := hp.1
          clear hp
          have hEW2 := (Ext.drew wi).trans hE
          obtain ⟨ly0, ly1, ly2, ly3, ly4, ly5, ly6⟩ := (HIY.out.ext hEW2).cells
          obtain ⟨la0, la1, la2, la3, la4, la5, la6⟩ := (HIa9.out.ext (HE9i.out.trans hEW2)).cells
          obtain ⟨_, m0, m1, m2, m3, m4, m5, m6, m7, m8⟩ := HEx.out.ext (HE9i.out.trans hEW2)
          obtain ⟨_, k0, k1, k2, k3, k4, k5, k6, k7, k8⟩ := HEy.out.ext (HE9i.out.trans hEW2)
          simp only [putD, List.foldl_nil, List.foldl_cons, List.getD_cons_zero, List.getD_cons_succ, Act.put, List.setIfInBounds_toArray, List.set_cons_zero, List.set_cons_succ]
          refine OpGoal.yes (by simp [yieldD, r4]) ?_
          go_wp2_with fail
          exact ⟨rfl, Ext.refl _, rfl⟩
        case o6 => -- Op.load 31 (Operand.tmp 11)  GUARD (4, 'false')
          intro xv W2 hE hp
          have r4 : xv 4 = _ := hp.1
          clear hp
          have hEW2 := (Ext.drew wi).trans hE
          obtain ⟨ly0, ly1, ly2, ly3, ly4, ly5, ly6⟩ := (HIY.out.ext hEW2).cells
          obtain ⟨la0, la1, la2, la3, la4, la5, la6⟩ := (HIa9.out.ext (HE9i.out.trans hEW2)).cells
          obtain ⟨_, m0, m1, m2, m3, m4, m5, m6, m7, m8⟩ := HEx.out.ext (HE9i.out.trans hEW2)
          obtain ⟨_, k0, k1, k2, k3, k4, k5, k6, k7, k8⟩ := HEy.out.ext (HE9i.out.trans hEW2)
          simp only [putD, List.foldl_nil, List.foldl_cons, List.getD_cons_zero, List.getD_cons_succ, Act.put, List.setIfInBounds_toArray, List.set_cons_zero, List.set_cons_succ]
          refine OpGoal.yes (by simp [yieldD, r4]) ?_
          go_wp2_with fail
          exact ⟨rfl, Ext.refl _, rfl⟩
        case o7 => -- Op.call { callee := Callee.value (Operand.func 14), args := #[Operand.tmp 48, Op
          intro xv W2 hE hp
          have r4 : xv 4 = _ := hp.1
          have r5 : xv 5 = _ := hp.2.1
          have r6 : xv 6 = _ := hp.2.2.1
          clear hp
          simp only [putD, List.foldl_nil, List.foldl_cons, List.getD_cons_zero, List.getD_cons_succ, Act.put, List.setIfInBounds_toArray, List.set_cons_zero, List.set_cons_succ]
          refine OpGoal.yes (by simp [yieldD, r4]) ?_
          go_wp2_with fail
          refine (SY.out W2 ((Ext.drew wi).trans hE)).mono ?_
          rintro e w' ⟨rfl, hE9⟩
          go_wp2_with fail
          exact ⟨rfl, hE9, rfl⟩
        case o8 => -- Op.unOp UnOp.not 4 (Operand.tmp 50)  GUARD (4, 'false')
          intro xv W2 hE hp
          have r4 : xv 4 = _ := hp.1
          have r7 : xv 7 = _ := hp.2.1
          clear hp
          simp only [putD, List.foldl_nil, List.foldl_cons, List.getD_cons_zero, List.getD_cons_succ, Act.put, List.setIfInBounds_toArray, List.set_cons_zero, List.set_cons_succ]
          refine OpGoal.yes (by simp [yieldD, r4]) ?_
          go_wp2_with fail
          exact ⟨rfl, Ext.refl _, rfl⟩
        case o9 => -- Op.pick (Operand.tmp 47) (Operand.const (Value.bool true)) (Operand.tmp 51)
          intro xv W2 hE hp
          have r4 : xv 4 = _ := hp.1
          have r8 : xv 8 = _ := hp.2.1
          clear hp
          simp only [putD, List.foldl_nil, List.foldl_cons, List.getD_cons_zero, List.getD_cons_succ, Act.put, List.setIfInBounds_toArray, List.set_cons_zero, List.set_cons_succ]
          refine OpGoal.plain ?_
          go_wp2_with fail
          exact ⟨rfl, Ext.refl _, rfl⟩
        case o10 => -- Op.move (Operand.tmp 52)
          intro xv W2 hE hp
          have r9 : xv 9 = _ := hp.1
          clear hp
          simp only [putD, List.foldl_nil, List.foldl_cons, List.getD_cons_zero, List.getD_cons_succ, Act.put, List.setIfInBounds_toArray, List.set_cons_zero, List.set_cons_succ]
          refine OpGoal.plain ?_
          go_wp2_with fail
          exact ⟨rfl, Ext.refl _, rfl⟩
        case o11 => -- Op.load 29 (Operand.tmp 13)  GUARD (10, 'false')
          intro xv W2 hE hp
          have r10 : xv 10 = _ := hp.1
          clear hp
          have hEW2 := (Ext.drew wi).trans hE
          obtain ⟨ly0, ly1, ly2, ly3, ly4, ly5, ly6⟩ := (HIY.out.ext hEW2).cells
          obtain ⟨la0, la1, la2, la3, la4, la5, la6⟩ := (HIa9.out.ext (HE9i.out.trans hEW2)).cells
          obtain ⟨_, m0, m1, m2, m3, m4, m5, m6, m7, m8⟩ := HEx.out.ext (HE9i.out.trans hEW2)
          obtain ⟨_, k0, k1, k2, k3, k4, k5, k6, k7, k8⟩ := HEy.out.ext (HE9i.out.trans hEW2)
          simp only [putD, List.foldl_nil, List.foldl_cons, List.getD_cons_zero, List.getD_cons_succ, Act.put, List.setIfInBounds_toArray, List.set_cons_zero, List.set_cons_succ]
          refine OpGoal.yes (by simp [yieldD, r10]) ?_
          go_wp2_with fail
          exact ⟨rfl, Ext.refl _, rfl⟩
        case o12 => -- Op.load 29 (Operand.tmp 8)  GUARD (10, 'false')
          intro xv W2 hE hp
          have r10 : xv 10 = _ := hp.1
          clear hp
          have hEW2 := (Ext.drew wi).trans hE
          obtain ⟨ly0, ly1, ly2, ly3, ly4, ly5, ly6⟩ := (HIY.out.ext hEW2).cells
          obtain ⟨la0, la1, la2, la3, la4, la5, la6⟩ := (HIa9.out.ext (HE9i.out.trans hEW2)).cells
          obtain ⟨_, m0, m1, m2, m3, m4, m5, m6, m7, m8⟩ := HEx.out.ext (HE9i.out.trans hEW2)
          obtain ⟨_, k0, k1, k2, k3, k4, k5, k6, k7, k8⟩ := HEy.out.ext (HE9i.out.trans hEW2)
          simp only [putD, List.foldl_nil, List.foldl_cons, List.getD_cons_zero, List.getD_cons_succ, Act.put, List.setIfInBounds_toArray, List.set_cons_zero, List.set_cons_succ]
          refine OpGoal.yes (by simp [yieldD, r10]) ?_
          go_wp2_with fail
          exact ⟨rfl, Ext.refl _, rfl⟩
        case o13 => -- Op.call { callee := Callee.value (Operand.func 15), args := #[Operand.tmp 54, Op
          intro xv W2 hE hp
          have r10 : xv 10 = _ := hp.1
          have r11 : xv 11 = _ := hp.2.1
          have r12 : xv 12 = _ := hp.2.2.1
          clear hp
          simp only [putD, List.foldl_nil, List.foldl_cons, List.getD_cons_zero, List.getD_cons_succ, Act.put, List.setIfInBounds_toArray, List.set_cons_zero, List.set_cons_succ]
          refine OpGoal.yes (by simp [yieldD, r10]) ?_
          go_wp2_with fail
          refine (SM.out W2 ((Ext.drew wi).trans hE)).mono ?_
          rintro e w' ⟨rfl, hE9⟩
          go_wp2_with fail
          exact ⟨rfl, hE9, rfl⟩
        case o14 => -- Op.load 29 (Operand.tmp 13)  GUARD (10, 'false')
          intro xv W2 hE hp
          have r10 : xv 10 = _ := hp.1
          clear hp
          have hEW2 := (Ext.drew wi).trans hE
          obtain ⟨ly0, ly1, ly2, ly3, ly4, ly5, ly6⟩ := (HIY.out.ext hEW2).cells
          obtain ⟨la0, la1, la2, la3, la4, la5, la6⟩ := (HIa9.out.ext (HE9i.out.trans hEW2)).cells
          obtain ⟨_, m0, m1, m2, m3, m4, m5, m6, m7, m8⟩ := HEx.out.ext (HE9i.out.trans hEW2)
          obtain ⟨_, k0, k1, k2, k3, k4, k5, k6, k7, k8⟩ := HEy.out.ext (HE9i.out.trans hEW2)
          simp only [putD, List.foldl_nil, List.foldl_cons, List.getD_cons_zero, List.getD_cons_succ, Act.put, List.setIfInBounds_toArray, List.set_cons_zero, List.set_cons_succ]
          refine OpGoal.yes (by simp [yieldD, r10]) ?_
          go_wp2_with fail
          exact ⟨rfl, Ext.refl _, rfl⟩
        case o15 => -- Op.load 29 (Operand.tmp 8)  GUARD (10, 'false')
          intro xv W2 hE hp
          have r10 : xv 10 = _ := hp.1
          clear hp
          have hEW2 := (Ext.drew wi).trans hE
          obtain ⟨ly0, ly1, ly2, ly3, ly4, ly5, ly6⟩ := (HIY.out.ext hEW2).cells
          obtain ⟨la0, la1, la2, la3, la4, la5, la6⟩ := (HIa9.out.ext (HE9i.out.trans hEW2)).cells
          obtain ⟨_, m0, m1, m2, m3, m4, m5, m6, m7, m8⟩ := HEx.out.ext (HE9i.out.trans hEW2)
          obtain ⟨_, k0, k1, k2, k3, k4, k5, k6, k7, k8⟩ := HEy.out.ext (HE9i.out.trans hEW2)
          simp only [putD, List.foldl_nil, List.foldl_cons, List.getD_cons_zero, List.getD_cons_succ, Act.put, List.setIfInBounds_toArray, List.set_cons_zero, List.set_cons_succ]
          refine OpGoal.yes (by simp [yieldD, r10]) ?_
          go_wp2_with fail
          exact ⟨rfl, Ext.refl _, rfl⟩
        case o16 => -- Op.call { callee := Callee.value (Operand.func 16), args := #[Operand.tmp 57, Op
          intro xv W2 hE hp
          have r10 : xv 10 = _ := hp.1
          have r14 : xv 14 = _ := hp.2.1
          have r15 : xv 15 = _ := hp.2.2.1
          clear hp
          simp only [putD, List.foldl_nil, List.foldl_cons, List.getD_cons_zero, List.getD_cons_succ, Act.put, List.setIfInBounds_toArray, List.set_cons_zero, List.set_cons_succ]
          refine OpGoal.yes (by simp [yieldD, r10]) ?_
          go_wp2_with fail
          refine (RM.out W2 ((Ext.drew wi).trans hE)).mono ?_
          rintro e w' ⟨rfl, hE9⟩
          go_wp2_with fail
          exact ⟨rfl, hE9, rfl⟩
        case o17 => -- Op.binOp BinOp.neq 4 (Operand.tmp 56) (Operand.tmp 59) 4  GUARD (10, 'false')
          intro xv W2 hE hp
          have r10 : xv 10 = _ := hp.1
          have r13 : xv 13 = _ := hp.2.1
          have r16 : xv 16 = _ := hp.2.2.1
          clear hp
          simp only [putD, List.foldl_nil, List.foldl_cons, List.getD_cons_zero, List.getD_cons_succ, Act.put, List.setIfInBounds_toArray, List.set_cons_zero, List.set_cons_succ]
          refine OpGoal.yes (by simp [yieldD, r10]) ?_
          go_wp2_with fail
          refine ⟨rfl, Ext.refl _, ?_⟩
          first | rfl | (cases bs <;> rfl)
        case o18 => -- Op.pick (Operand.tmp 53) (Operand.const (Value.bool true)) (Operand.tmp 60)
          intro xv W2 hE hp
          have r10 : xv 10 = _ := hp.1
          have r17 : xv 17 = _ := hp.2.1
          clear hp
          simp only [putD, List.foldl_nil, List.foldl_cons, List.getD_cons_zero, List.getD_cons_succ, Act.put, List.setIfInBounds_toArray, List.set_cons_zero, List.set_cons_succ]
          refine OpGoal.plain ?_
          go_wp2_with fail
          exact ⟨rfl, Ext.refl _, rfl⟩
        case last =>
          intro xv W2 hE hp
          have r0 : xv 0 = _ := hp.1
          have r1 : xv 1 = _ := hp.2.1
          have r2 : xv 2 = _ := hp.2.2.1
          have r3 : xv 3 = _ := hp.2.2.2.1
          have r4 : xv 4 = _ := hp.2.2.2.2.1
          have r5 : xv 5 = _ := hp.2.2.2.2.2.1
          have r6 : xv 6 = _ := hp.2.2.2.2.2.2.1
          have r7 : xv 7 = _ := hp.2.2.2.2.2.2.2.1
          have r8 : xv 8 = _ := hp.2.2.2.2.2.2.2.2.1
          have r9 : xv 9 = _ := hp.2.2.2.2.2.2.2.2.2.1
          have r10 : xv 10 = _ := hp.2.2.2.2.2.2.2.2.2.2.1
          have r11 : xv 11 = _ := hp.2.2.2.2.2.2.2.2.2.2.2.1
          have r12 : xv 12 = _ := hp.2.2.2.2.2.2.2.2.2.2.2.2.1
          have r13 : xv 13 = _ := hp.2.2.2.2.2.2.2.2.2.2.2.2.2.1
          have r14 : xv 14 = _ := hp.2.2.2.2.2.2.2.2.2.2.2.2.2.2.1
          have r15 : xv 15 = _ := hp.2.2.2.2.2.2.2.2.2.2.2.2.2.2.2.1
          have r16 : xv 16 = _ := hp.2.2.2.2.2.2.2.2.2.2.2.2.2.2.2.2.1
          have r17 : xv 17 = _ := hp.2.2.2.2.2.2.2.2.2.2.2.2.2.2.2.2.2.1
          have r18 : xv 18 = _ := hp.2.2.2.2.2.2.2.2.2.2.2.2.2.2.2.2.2.2.1
          clear hp
          simp only [putD, List.foldl_nil, List.foldl_cons, List.getD_cons_zero, List.getD_cons_succ, Act.put, List.length_cons, List.length_nil, List.range_succ, List.range_zero, List.nil_append, List.cons_append, List.setIfInBounds_toArray, List.set_cons_zero, List.set_cons_succ]
          have hEW2 := HEi.out.trans ((Ext.drew wi).trans hE)
          have r18' : xv 18 = .bool false := r18
          rw [r18']
          clear r0 r1 r2 r3 r4 r5 r6 r7 r8 r9 r10 r11 r12 r13 r14 r15 r16 r17 r18 r18'
          go_wp2_with fail
          go_roundw
          case rel => exact ⟨j + 1, by omega, by go_num, hEW2⟩
          case measure => simp [intOf]; omega
      · obtain rfl : j = 4 := by omega
        have CK := Lib.hid (Check_any a da Aa ca wr (ExL.ext HXa9.out (HEW.out.trans hEr)) (by omega) (rt_ok HRa.out))
        rw [(chk_of HRa.out (by omega)).1, (chk_of HRa.out (by omega)).2] at CK
        unfold Ex.cells at CK
        obtain ⟨la0, la1, la2, la3, la4, la5, la6⟩ := (HIa9.out.ext (HEW.out.trans hEr)).cells
        go_wp2_with fail
        refine CK.out.mono ?_
        rintro e wz ⟨rfl, hEz⟩
        go_wp2_with fail
        go_ret
        exact ⟨rfl, HE01.out.trans (HE19.out.trans ((HEW.out.trans hEr).trans hEz))⟩
end Go.Proofs.YtggkkjnfonbpkaaGreatDoor
