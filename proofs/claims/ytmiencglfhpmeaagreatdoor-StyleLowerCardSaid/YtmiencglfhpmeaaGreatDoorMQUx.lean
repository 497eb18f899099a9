/- Amounts that numbers make: the contract of amount (printed by gen_uc.py). -/
import Derived.Test.YtmiencglfhpmeaaGreatDoorMQUc
set_option linter.unusedSimpArgs false
set_option linter.unusedVariables false
namespace Go.Proofs.YtmiencglfhpmeaaGreatDoor
open List (foldl_nil foldl_cons getD_cons_zero getD_cons_succ setIfInBounds_toArray set_cons_zero set_cons_succ)
open Go.RowKit Hach
def AmtC (m : Nat) : Prop := ∀ (q : Int) (b : Nat) (w : World), q = (m : Int) → DrA w b → Calls Tryz.prog 66 #[dp b, .int .i64 q] w (MadeR 1 (szA m) b w)
set_option maxRecDepth 100000 in
set_option maxHeartbeats 16000000 in
theorem amount_step (m : Nat) (hm : m ≤ 2) (ih : ∀ k, m = k + 1 → AmtC k) : AmtC m := by
 intro q b w hq hD
 have hbl := hD.lt
 have hz0 := Z7.new w
 obtain ⟨w0, hw0⟩ : ∃ w0, w.alloc (.cells zero7 47) = w0 := ⟨_, rfl⟩
 have hE0 : Ext w w0 := by rw [← hw0]; exact Ext.alloc _ _
 have hs0 : w0.heap.size = w.heap.size + 1 := by rw [← hw0]; simp
 rw [hw0] at hz0
 have hD0 := hD.ext hE0
 have HW := Lib.hid hw0
 have hs0' : w.heap.size + 1 ≤ w0.heap.size := by omega
 have hG0 : w.grownBy w0 (some b) := grown_of hE0 _
 have DN := Lib.hid (fun (m : Int) (W : World) (h : DrA W b) (h1 : 0 < m) (h2 : m < 4294967296) => draw_any m b W h h1 h2)
 have NU := Lib.hid (fun (n : Int) (W : World) => number_any' n W)
 have VA := Lib.hid (fun (n : Int) (W : World) => var_any' n W)
 have WO := Lib.hid (fun (s : List UInt8) (W : World) => word_any' s W)
 unfold New0 at NU VA WO
 unfold zero7 at HW
 unfold dp at *
 have CM := Lib.hid (fun (W : World) (h : DrA W b) => compared_any b W h)
 unfold dp at CM
 clear hw0 hs0 hD
 go_enter Tryz.func66, Tryz.ntmps66
 go_upto_region 1 with fail
 rw [HW.out]
 go_wp2_with fail
 refine (DN.out 7 _ hD0 (by decide) (by decide)).mono ?_
 rintro e w1 ⟨k1, p1, q1, rfl, hD1, hg1⟩
 have hG1 := grown_trans hG0 hg1
 have hz1 := hz0.own hg1 (by simp; omega)
 have hw1 : w0.heap.size ≤ w1.heap.size := hg1.size
 by_cases hq0 : q ≤ 0
 ·have t1 : decide (q ≤ 0) = true := by simpa using hq0
  go_wp2_with fail
  refine (DN.out 30 _ hD1 (by decide) (by decide)).mono ?_
  rintro e w2 ⟨k2, p2, q2, rfl, hD2, hg2⟩
  have hG2 := grown_trans hG1 hg2
  have hz2 := hz1.own hg2 (by simp; omega)
  have hw2 : w1.heap.size ≤ w2.heap.size := hg2.size
  go_wp2_with fail
  refine (NU.out k2 _).mono ?_
  rintro e w3 ⟨rfl, hE3⟩
  have hD3 := hD2.ext hE3
  have hz3 := hz2.ext hE3
  have hG3 := grown_trans hG2 (grown_of hE3 _)
  have hw3 : w2.heap.size ≤ w3.heap.size := hE3.sz
  unfold Ex.cells
  obtain ⟨u0, u1, u2, u3, u4, u5, u6⟩ := hz3.cells
  obtain ⟨f0, f1, f2, f3, f4, f5, f6⟩ := hz3.free
  go_wp2_with fail
  exact made_leaf_fin rfl (numE k2) (num_rt (by omega)) rfl hz3 hbl hD3 hG3 (szA_pos m) rfl
 ·have t1 : decide (q ≤ 0) = false := by simpa using hq0
  obtain ⟨k, hk⟩ : ∃ k, m = k + 1 := ⟨m - 1, by omega⟩
  have hq1 : 1 ≤ q ∧ q ≤ 2 := by omega
  have IH := Lib.hid (fun (Q : Int) (W : World) (hQ : Q = (k : Int)) (h : DrA W b) => ih k hk Q b W hQ h)
  unfold dp at IH
  clear ih hq0
  by_cases h3 : k1 < 3
  ·have t2 : decide (k1 < 3) = true := by simpa using h3
   clear h3
   go_wp2_with fail
   refine (DN.out 30 _ hD1 (by decide) (by decide)).mono ?_
   rintro e w2 ⟨k2, p2, q2, rfl, hD2, hg2⟩
   have hG2 := grown_trans hG1 hg2
   have hz2 := hz1.own hg2 (by simp; omega)
   have hw2 : w1.heap.size ≤ w2.heap.size := hg2.size
   go_wp2_with fail
   refine (NU.out k2 _).mono ?_
   rintro e w3 ⟨rfl, hE3⟩
   have hD3 := hD2.ext hE3
   have hz3 := hz2.ext hE3
   have hG3 := grown_trans hG2 (grown_of hE3 _)
   have hw3 : w2.heap.size ≤ w3.heap.size := hE3.sz
   unfold Ex.cells
   obtain ⟨u0, u1, u2, u3, u4, u5, u6⟩ := hz3.cells
   obtain ⟨f0, f1, f2, f3, f4, f5, f6⟩ := hz3.free
   go_wp2_with fail
   exact made_leaf_fin rfl (numE k2) (num_rt (by omega)) rfl hz3 hbl hD3 hG3 (szA_pos m) rfl
  ·have t2 : decide (k1 < 3) = false := by simpa using h3
   clear h3
   by_cases e3 : k1 = 3
   ·subst e3
    have hEr : Ext w1 (w1.alloc (.cells #[.int .i64 4, .int .i64 7, .int .i64 8, .int .i64 5] 3)) := Ext.alloc _ _
    go_wp2_with fail
    refine (DN.out 4 _ (hD1.ext hEr) (by decide) (by decide)).mono ?_
    rintro e w2 ⟨k2, p2, q2, rfl, hD2, hg2⟩
    obtain ⟨k2, rfl⟩ := Int.eq_ofNat_of_zero_le p2
    have hG2 := grown_trans (grown_trans hG1 (grown_of hEr _)) hg2
    have hz2 := (hz1.ext hEr).own hg2 (by simp; omega)
    have hw2 : w1.heap.size ≤ w2.heap.size := Nat.le_trans hEr.sz hg2.size
    have hbr : b < w1.heap.size := by omega
    have hv : ∃ n : Int, w2.cell? ⟨w1.heap.size, k2, none⟩ = some (.int .i64 n) ∧ (1 ≤ n ∧ n ≤ 9) ∧ varTy n = 1 := by
     have key : ∀ v, (#[.int .i64 4, .int .i64 7, .int .i64 8, .int .i64 5] : Array Value)[k2]? = some v → w2.cell? ⟨w1.heap.size, k2, none⟩ = some v := fun v hv => by
      rw [grown_cell hg2 (by simp) (by simp; omega), World.cell?_alloc_new]; exact hv
     rcases (by omega : k2 = 0 ∨ k2 = 1 ∨ k2 = 2 ∨ k2 = 3) with rfl | rfl | rfl | rfl <;> exact ⟨_, key _ rfl, by decide⟩
    obtain ⟨n, hv, hn, hty⟩ := hv
    have HTY := Lib.hid hty
    clear hty
    go_wp2_with fail
    refine (VA.out n _).mono ?_
    rintro e w3 ⟨rfl, hE3⟩
    have hD3 := hD2.ext hE3
    have hz3 := hz2.ext hE3
    have hG3 := grown_trans hG2 (grown_of hE3 _)
    have hw3 : w2.heap.size ≤ w3.heap.size := hE3.sz
    unfold Ex.cells
    obtain ⟨u0, u1, u2, u3, u4, u5, u6⟩ := hz3.cells
    obtain ⟨f0, f1, f2, f3, f4, f5, f6⟩ := hz3.free
    go_wp2_with fail
    exact made_leaf_fin rfl (varE n) (var_rt hn HTY.out) rfl hz3 hbl hD3 hG3 (szA_pos m) rfl
   ·have e13 : (k1 == 3) = false := by rw [beq_eq_false_iff_ne]; omega
    by_cases e4 : k1 = 4
    ·subst e4
     go_wp2_with fail
     refine (CM.out  _ hD1).mono ?_
     rintro e w2 ⟨x0, A0, c0, d0, hR0, hs0, rfl, hX0, hD2, hg2⟩
     have hG2 := grown_trans hG1 hg2
     have hz2 := hz1.own hg2 (by simp; omega)
     have hw2 : w1.heap.size ≤ w2.heap.size := hg2.size
     unfold Ex.cells
     go_upto_region 8 with fail
     obtain ⟨w3, hwq3⟩ : ∃ q, (w2.alloc (.cells #[.int .i64 x0.op, .int .i64 x0.var, .int .i64 x0.ty, .int .i64 x0.n, .bool x0.b, .string ⟨x0.s.toArray⟩, .slice A0 x0.l.length c0] 47)) = q := ⟨_, rfl⟩
     have hE3 : Ext w2 w3 := by rw [← hwq3]; exact Ext.alloc _ _
     have hI0 : InBlk w3 w2.heap.size x0 (.slice A0 x0.l.length c0) := by rw [← hwq3]; exact InBlk.new _ _ _
     rw [hwq3]
     obtain ⟨ba0, hba0⟩ : ∃ q, w2.heap.size = q := ⟨_, rfl⟩
     rw [hba0] at hI0 ⊢
     have hD3 := hD2.ext hE3
     have hz3 := hz2.ext hE3
     have hG3 := grown_trans hG2 (grown_of hE3 _)
     have hw3 : w2.heap.size ≤ w3.heap.size := hE3.sz
     replace hX0 := exl_ext hX0 hE3
     have hbb0 : b < ba0 := by rw [← hba0]; omega
     clear hwq3
     go_wp2_with fail
     refine (IH.out _ _ (by omega) hD3).mono ?_
     rintro e w4 ⟨x1, A1, c1, d1, hR1, hs1, rfl, hX1, hD4, hg4⟩
     have hG4 := grown_trans hG3 hg4
     have hz4 := hz3.own hg4 (by simp; omega)
     have hw4 : w3.heap.size ≤ w4.heap.size := hg4.size
     replace hX0 := exl_own hX0 hg4 (by omega)
     unfold Ex.cells
     replace hI0 := hI0.own hg4 (by simp; omega)
     go_upto_region 9 with fail
     obtain ⟨w5, hwq5⟩ : ∃ q, (w4.alloc (.cells #[.int .i64 x1.op, .int .i64 x1.var, .int .i64 x1.ty, .int .i64 x1.n, .bool x1.b, .string ⟨x1.s.toArray⟩, .slice A1 x1.l.length c1] 47)) = q := ⟨_, rfl⟩
     have hE5 : Ext w4 w5 := by rw [← hwq5]; exact Ext.alloc _ _
     have hI1 : InBlk w5 w4.heap.size x1 (.slice A1 x1.l.length c1) := by rw [← hwq5]; exact InBlk.new _ _ _
     rw [hwq5]
     obtain ⟨ba1, hba1⟩ : ∃ q, w4.heap.size = q := ⟨_, rfl⟩
     rw [hba1] at hI1 ⊢
     have hD5 := hD4.ext hE5
     have hz5 := hz4.ext hE5
     have hG5 := grown_trans hG4 (grown_of hE5 _)
     have hw5 : w4.heap.size ≤ w5.heap.size := hE5.sz
     replace hX1 := exl_ext hX1 hE5
     have hbb1 : b < ba1 := by rw [← hba1]; omega
     clear hwq5
     replace hI0 := hI0.ext hE5
     replace hX0 := exl_ext hX0 hE5
     have HI0 := Lib.hid (fun (V : World) (h : DrS b w5.drew V) => ((hI0.ext (Ext.drew w5)).own h.1 (by simp; omega) : InBlk V ba0 x0 (.slice A0 x0.l.length c0)))
     have HX0 := Lib.hid (fun (V : World) (h : DrS b w5.drew V) => exl_own (exl_ext (exl_lo (lo' := w.heap.size + 1) hX0 (by omega)) (Ext.drew w5)) h.1 (show b < w.heap.size + 1 by omega))
     have HR0 := Lib.hid hR0
     have HI1 := Lib.hid (fun (V : World) (h : DrS b w5.drew V) => ((hI1.ext (Ext.drew w5)).own h.1 (by simp; omega) : InBlk V ba1 x1 (.slice A1 x1.l.length c1)))
     have HX1 := Lib.hid (fun (V : World) (h : DrS b w5.drew V) => exl_own (exl_ext (exl_lo (lo' := w.heap.size + 1) hX1 (by omega)) (Ext.drew w5)) h.1 (show b < w.heap.size + 1 by omega))
     have HR1 := Lib.hid hR1
     have HD := Lib.hid (fun (V : World) (h : DrS b w5.drew V) => h.2 (hD5.ext (Ext.drew w5)))
     have HZ := Lib.hid (fun (V : World) (h : DrS b w5.drew V) => ((hz5.ext (Ext.drew w5)).own h.1 (by simp; omega) : Z7 V w.heap.size))
     have HG := Lib.hid (fun (V : World) (h : DrS b w5.drew V) => grown_trans (grown_trans hG5 (grown_of (Ext.drew w5) _)) h.1)
     have HSZ := Lib.hid (fun (V : World) (h : DrS b w5.drew V) => (by have h1 := (HG.out V h).size; have h2 : w5.heap.size ≤ V.heap.size := h.1.size; omega : w.heap.size + 1 ≤ V.heap.size))
     clear hI0 hX0 hR0 hI1 hX1 hR1 hD5 hz5 hG5
     apply wp_region_rel (E := DrS b) (DrS.refl b) (@DrS.trans b) (l := [_, _, _, _, _, _, _, _]) (t := [_]) [some 36, some 37, some 38, some 39, some 40, some 41, some 42, some 43, none] [[], [], [], [], [3], [2, 4], [0, 1, 5], [6], [7]] [8, 8, 8, 8, 8, 8, 8, 8] [eqr _, eqr _, eqr _, eqr _, eqr _, (kidP b (w.heap.size + 1) (show b < w.heap.size + 1 by omega) 1 (szA k)), (rowP b (w.heap.size + 1) (show b < w.heap.size + 1 by omega) (fun l => ∃ y, l = [x0, x1, y] ∧ Rt y 1 ∧ y.size ≤ szA k) 3), (opP b (w.heap.size + 1) (show b < w.heap.size + 1 by omega) (fun o => o = 13) (fun l => ∃ y, l = [x0, x1, y] ∧ Rt y 1 ∧ y.size ≤ szA k) 3)] (by kernel_rfl) (by kernel_rfl) ⟨?o0, ?o1, ?o2, ?o3, ?o4, ?o5, ?o6, ?o7, trivial⟩ ?last
     case o0 =>
      intro xv W hE _
      obtain ⟨i0, i1, i2, i3, i4, i5, i6⟩ := (HI0.out W hE).cells
      obtain ⟨j0, j1, j2, j3, j4, j5, j6⟩ := (HI1.out W hE).cells
      simp only [putD, List.foldl_nil, List.getD_cons_zero]
      refine OpGoal.plain ?_
      go_wp2_with fail
      exact ⟨rfl, (DrS.refl b) _, rfl⟩
     case o1 =>
      intro xv W hE _
      obtain ⟨i0, i1, i2, i3, i4, i5, i6⟩ := (HI0.out W hE).cells
      obtain ⟨j0, j1, j2, j3, j4, j5, j6⟩ := (HI1.out W hE).cells
      simp only [putD, List.foldl_nil, List.getD_cons_zero, List.getD_cons_succ]
      refine OpGoal.plain ?_
      go_wp2_with fail
      exact ⟨rfl, (DrS.refl b) _, rfl⟩
     case o2 =>
      intro xv W hE _
      simp only [putD, List.foldl_nil, List.getD_cons_zero, List.getD_cons_succ]
      refine OpGoal.plain ?_
      go_wp2_with fail
      exact ⟨rfl, (DrS.refl b) _, rfl⟩
     case o3 =>
      intro xv W hE _
      simp only [putD, List.foldl_nil, List.getD_cons_zero, List.getD_cons_succ]
      refine OpGoal.plain ?_
      go_wp2_with fail
      exact ⟨rfl, (DrS.refl b) _, rfl⟩
     case o4 =>
      intro xv W hE hp
      have r3 : xv 3 = _ := hp.1
      clear hp
      simp only [putD, foldl_nil, foldl_cons, getD_cons_zero, getD_cons_succ, Act.put, setIfInBounds_toArray, set_cons_zero, set_cons_succ]
      refine OpGoal.plain ?_
      go_wp2_with fail
      exact ⟨rfl, (DrS.refl b) _, rfl⟩
     case o5 =>
      intro xv W hE hp
      have r2 : xv 2 = _ := hp.1
      have r4 : xv 4 = _ := hp.2.1
      clear hp
      simp only [putD, foldl_nil, foldl_cons, getD_cons_zero, getD_cons_succ, Act.put, setIfInBounds_toArray, set_cons_zero, set_cons_succ]
      refine OpGoal.plain ?_
      go_wp2_with fail
      refine (IH.out _ W (by omega) (HD.out W hE)).mono ?_
      rintro e w' ⟨x, A, c, d, hR, hs, rfl, hX, hD', hg'⟩
      have hsz := HSZ.out W hE
      unfold Ex.cells
      go_wp2_with fail
      exact ⟨rfl, ⟨hg', fun _ => hD'⟩, x, A, c, d, rfl, hR, hs, exl_lo hX hsz⟩
     case o6 =>
      intro xv W hE hp
      have r0 : xv 0 = _ := hp.1
      have r1 : xv 1 = _ := hp.2.1
      obtain ⟨y5, A5, c5, d5, r5, hR5, hs5, hX5⟩ := hp.2.2.1
      clear hp
      simp only [putD, foldl_nil, foldl_cons, getD_cons_zero, getD_cons_succ, Act.put, setIfInBounds_toArray, set_cons_zero, set_cons_succ]
      refine OpGoal.plain ?_
      go_wp2_with fail
      have hx0 := HX0.out W hE
      have hx1 := HX1.out W hE
      exact ⟨rfl, DrS.ext (Ext.alloc _ _), W.heap.size, [x0, x1, y5], _, rfl, ⟨y5, rfl, hR5, hs5⟩, rfl, row3L W _ (HSZ.out W hE) x0 A0 c0 d0 x1 A1 c1 d1 y5 A5 c5 d5 hx0 hx1 hX5⟩
     case o7 =>
      intro xv W hE hp
      obtain ⟨g6, l6, d6, r6, hP6, hn6, hX6⟩ := hp.1
      clear hp
      simp only [putD, foldl_nil, foldl_cons, getD_cons_zero, getD_cons_succ, Act.put, setIfInBounds_toArray, set_cons_zero, set_cons_succ]
      refine OpGoal.plain ?_
      go_wp2_with fail
      exact ⟨rfl, DrS.refl b _, _, g6, l6, d6, rfl, rfl, hP6, hn6, hX6⟩
     case last =>
      intro xv W hE hp
      have r0 : xv 0 = _ := hp.1
      have r1 : xv 1 = _ := hp.2.1
      have r2 : xv 2 = _ := hp.2.2.1
      have r3 : xv 3 = _ := hp.2.2.2.1
      have r4 : xv 4 = _ := hp.2.2.2.2.1
      obtain ⟨y5, A5, c5, d5, r5, hR5, hs5, hX5⟩ := hp.2.2.2.2.2.1
      obtain ⟨g6, l6, d6, r6, hP6, hn6, hX6⟩ := hp.2.2.2.2.2.2.1
      obtain ⟨o7, g7, l7, d7, r7, hQ7, hP7, hn7, hX7⟩ := hp.2.2.2.2.2.2.2.1
      clear hp
      simp only [putD, List.foldl_nil, List.foldl_cons, List.getD_cons_zero, List.getD_cons_succ, Act.put, List.length_cons, List.length_nil, List.range_succ, List.range_zero, List.nil_append, List.cons_append, List.setIfInBounds_toArray, List.set_cons_zero, List.set_cons_succ]
      obtain ⟨y, rfl, hRy, hsy⟩ := hP7
      subst hQ7
      rw [r7]
      have hzf := HZ.out W hE
      have HXF := Lib.hid hX7
      obtain ⟨u0, u1, u2, u3, u4, u5, u6⟩ := hzf.cells
      obtain ⟨f0, f1, f2, f3, f4, f5, f6⟩ := hzf.free
      have HZF := Lib.hid hzf
      have HDF := Lib.hid (HD.out W hE)
      have HGF := Lib.hid (HG.out W hE)
      clear hzf hX7
      go_wp2_with fail
      exact made_ret_fin rfl (.mk 13 0 0 0 false [] [x0, x1, y]) (some ⟨g7, 0, none⟩) _ d7 (Rt.ite 1 x0 x1 y HR0.out HR1.out hRy) (by rw [size_3']; (try rw [hk]); show _ ≤ 5 + 2 * szA k; omega) HXF.out HZF.out hbl HDF.out HGF.out _ hn7.symm rfl
    ·have e14 : (k1 == 4) = false := by rw [beq_eq_false_iff_ne]; omega
     clear e3 e4
     go_wp2_with fail
     refine (IH.out _ _ (by omega) hD1).mono ?_
     rintro e w2 ⟨x0, A0, c0, d0, hR0, hs0, rfl, hX0, hD2, hg2⟩
     have hG2 := grown_trans hG1 hg2
     have hz2 := hz1.own hg2 (by simp; omega)
     have hw2 : w1.heap.size ≤ w2.heap.size := hg2.size
     unfold Ex.cells
     go_upto_region 11 with fail
     obtain ⟨w3, hwq3⟩ : ∃ q, (w2.alloc (.cells #[.int .i64 x0.op, .int .i64 x0.var, .int .i64 x0.ty, .int .i64 x0.n, .bool x0.b, .string ⟨x0.s.toArray⟩, .slice A0 x0.l.length c0] 47)) = q := ⟨_, rfl⟩
     have hE3 : Ext w2 w3 := by rw [← hwq3]; exact Ext.alloc _ _
     have hI0 : InBlk w3 w2.heap.size x0 (.slice A0 x0.l.length c0) := by rw [← hwq3]; exact InBlk.new _ _ _
     rw [hwq3]
     obtain ⟨ba0, hba0⟩ : ∃ q, w2.heap.size = q := ⟨_, rfl⟩
     rw [hba0] at hI0 ⊢
     have hD3 := hD2.ext hE3
     have hz3 := hz2.ext hE3
     have hG3 := grown_trans hG2 (grown_of hE3 _)
     have hw3 : w2.heap.size ≤ w3.heap.size := hE3.sz
     replace hX0 := exl_ext hX0 hE3
     have hbb0 : b < ba0 := by rw [← hba0]; omega
     clear hwq3
     have HI0 := Lib.hid (fun (V : World) (h : DrS b w3.drew V) => ((hI0.ext (Ext.drew w3)).own h.1 (by simp; omega) : InBlk V ba0 x0 (.slice A0 x0.l.length c0)))
     have HX0 := Lib.hid (fun (V : World) (h : DrS b w3.drew V) => exl_own (exl_ext (exl_lo (lo' := w.heap.size + 1) hX0 (by omega)) (Ext.drew w3)) h.1 (show b < w.heap.size + 1 by omega))
     have HR0 := Lib.hid hR0
     have HD := Lib.hid (fun (V : World) (h : DrS b w3.drew V) => h.2 (hD3.ext (Ext.drew w3)))
     have HZ := Lib.hid (fun (V : World) (h : DrS b w3.drew V) => ((hz3.ext (Ext.drew w3)).own h.1 (by simp; omega) : Z7 V w.heap.size))
     have HG := Lib.hid (fun (V : World) (h : DrS b w3.drew V) => grown_trans (grown_trans hG3 (grown_of (Ext.drew w3) _)) h.1)
     have HSZ := Lib.hid (fun (V : World) (h : DrS b w3.drew V) => (by have h1 := (HG.out V h).size; have h2 : w3.heap.size ≤ V.heap.size := h.1.size; omega : w.heap.size + 1 ≤ V.heap.size))
     clear hI0 hX0 hR0 hD3 hz3 hG3
     apply wp_region_rel (E := DrS b) (DrS.refl b) (@DrS.trans b) (l := [_, _, _, _, _, _, _, _, _, _, _, _]) (t := [_]) [some 48, some 49, some 50, some 51, some 52, some 53, some 54, some 55, some 56, some 57, some 58, some 59, none] [[], [], [1], [0, 2], [3], [], [], [], [7], [6, 8], [5, 9], [4, 10], [11]] [12, 12, 12, 12, 12, 12, 12, 12, 12, 12, 12, 12] [(intsP b [8, 9, 10, 11, 12] 5), eqr _, (numP b 0 5), (atIP b (fun o => 8 ≤ o ∧ o ≤ 12)), (intP b (fun o => 8 ≤ o ∧ o ≤ 12)), eqr _, eqr _, eqr _, eqr _, (kidP b (w.heap.size + 1) (show b < w.heap.size + 1 by omega) 1 (szA k)), (rowP b (w.heap.size + 1) (show b < w.heap.size + 1 by omega) (fun l => ∃ y, l = [x0, y] ∧ Rt y 1 ∧ y.size ≤ szA k) 2), (opP b (w.heap.size + 1) (show b < w.heap.size + 1 by omega) (fun o => 8 ≤ o ∧ o ≤ 12) (fun l => ∃ y, l = [x0, y] ∧ Rt y 1 ∧ y.size ≤ szA k) 2)] (by kernel_rfl) (by kernel_rfl) ⟨?o0, ?o1, ?o2, ?o3, ?o4, ?o5, ?o6, ?o7, ?o8, ?o9, ?o10, ?o11, trivial⟩ ?last
     case o0 =>
      intro xv W hE _
      simp only [putD, List.foldl_nil, List.getD_cons_zero]
      refine OpGoal.plain ?_
      go_wp2_with fail
      exact ⟨rfl, DrS.ext (Ext.alloc _ _), W.heap.size, rfl, by have := HSZ.out W hE; omega, by simp, fun j x hj => by rw [World.cell?_alloc_new]; match j, hj with | 0, h => cases h; rfl | 1, h => cases h; rfl | 2, h => cases h; rfl | 3, h => cases h; rfl | 4, h => cases h; rfl⟩
     case o1 =>
      intro xv W hE _
      simp only [putD, List.foldl_nil, List.getD_cons_zero, List.getD_cons_succ]
      refine OpGoal.plain ?_
      go_wp2_with fail
      exact ⟨rfl, (DrS.refl b) _, rfl⟩
     case o2 =>
      intro xv W hE hp
      have r1 : xv 1 = _ := hp.1
      clear hp
      simp only [putD, foldl_nil, foldl_cons, getD_cons_zero, getD_cons_succ, Act.put, setIfInBounds_toArray, set_cons_zero, set_cons_succ]
      refine OpGoal.plain ?_
      go_wp2_with fail
      refine (DN.out 5 W (HD.out W hE) (by decide) (by decide)).mono ?_
      rintro e w' ⟨k, ka, kb, rfl, hD', hg⟩
      go_wp2_with fail
      exact ⟨rfl, ⟨hg, fun _ => hD'⟩, k, rfl, ka, kb⟩
     case o3 =>
      intro xv W hE hp
      obtain ⟨g0, r0, lb0, lt0, hc0⟩ := hp.1
      obtain ⟨k2, r2, lo2, hi2⟩ := hp.2.1
      clear hp
      obtain ⟨jj, rfl⟩ : ∃ jj : Nat, k2 = (jj : Int) := ⟨k2.toNat, by omega⟩
      simp only [putD, foldl_nil, foldl_cons, getD_cons_zero, getD_cons_succ, Act.put, setIfInBounds_toArray, set_cons_zero, set_cons_succ]
      refine OpGoal.plain ?_
      go_wp2_with fail
      obtain ⟨x, hx, hQx⟩ : ∃ x : Int, [8, 9, 10, 11, 12][jj]? = some x ∧ 8 ≤ x ∧ x ≤ 12 := by
       rcases (by omega : jj = 0 ∨ jj = 1 ∨ jj = 2 ∨ jj = 3 ∨ jj = 4) with rfl | rfl | rfl | rfl | rfl <;> exact ⟨_, rfl, by decide⟩
      exact ⟨rfl, DrS.refl b _, g0, jj, x, rfl, lb0, lt0, hQx, hc0 jj x hx⟩
     case o4 =>
      intro xv W hE hp
      obtain ⟨g3, j3, x3, r3, lb3, lt3, hQ3, hc3⟩ := hp.1
      clear hp
      obtain ⟨j0, j1, j2, j3, j4, j5, j6⟩ := (HI0.out W hE).cells
      simp only [putD, foldl_nil, foldl_cons, getD_cons_zero, getD_cons_succ, Act.put, setIfInBounds_toArray, set_cons_zero, set_cons_succ]
      refine OpGoal.plain ?_
      go_wp2_with fail
      exact ⟨rfl, DrS.refl b _, x3, rfl, hQ3⟩
     case o5 =>
      intro xv W hE _
      obtain ⟨j0, j1, j2, j3, j4, j5, j6⟩ := (HI0.out W hE).cells
      simp only [putD, List.foldl_nil, List.getD_cons_zero, List.getD_cons_succ]
      refine OpGoal.plain ?_
      go_wp2_with fail
      exact ⟨rfl, (DrS.refl b) _, rfl⟩
     case o6 =>
      intro xv W hE _
      simp only [putD, List.foldl_nil, List.getD_cons_zero, List.getD_cons_succ]
      refine OpGoal.plain ?_
      go_wp2_with fail
      exact ⟨rfl, (DrS.refl b) _, rfl⟩
     case o7 =>
      intro xv W hE _
      simp only [putD, List.foldl_nil, List.getD_cons_zero, List.getD_cons_succ]
      refine OpGoal.plain ?_
      go_wp2_with fail
      exact ⟨rfl, (DrS.refl b) _, rfl⟩
     case o8 =>
      intro xv W hE hp
      have r7 : xv 7 = _ := hp.1
      clear hp
      simp only [putD, foldl_nil, foldl_cons, getD_cons_zero, getD_cons_succ, Act.put, setIfInBounds_toArray, set_cons_zero, set_cons_succ]
      refine OpGoal.plain ?_
      go_wp2_with fail
      exact ⟨rfl, (DrS.refl b) _, rfl⟩
     case o9 =>
      intro xv W hE hp
      have r6 : xv 6 = _ := hp.1
      have r8 : xv 8 = _ := hp.2.1
      clear hp
      simp only [putD, foldl_nil, foldl_cons, getD_cons_zero, getD_cons_succ, Act.put, setIfInBounds_toArray, set_cons_zero, set_cons_succ]
      refine OpGoal.plain ?_
      go_wp2_with fail
      refine (IH.out _ W (by omega) (HD.out W hE)).mono ?_
      rintro e w' ⟨x, A, c, d, hR, hs, rfl, hX, hD', hg'⟩
      have hsz := HSZ.out W hE
      unfold Ex.cells
      go_wp2_with fail
      exact ⟨rfl, ⟨hg', fun _ => hD'⟩, x, A, c, d, rfl, hR, hs, exl_lo hX hsz⟩
     case o10 =>
      intro xv W hE hp
      have r5 : xv 5 = _ := hp.1
      obtain ⟨y9, A9, c9, d9, r9, hR9, hs9, hX9⟩ := hp.2.1
      clear hp
      simp only [putD, foldl_nil, foldl_cons, getD_cons_zero, getD_cons_succ, Act.put, setIfInBounds_toArray, set_cons_zero, set_cons_succ]
      refine OpGoal.plain ?_
      go_wp2_with fail
      have hx0 := HX0.out W hE
      exact ⟨rfl, DrS.ext (Ext.alloc _ _), W.heap.size, [x0, y9], _, rfl, ⟨y9, rfl, hR9, hs9⟩, rfl, row2L W _ (HSZ.out W hE) x0 A0 c0 d0 y9 A9 c9 d9 hx0 hX9⟩
     case o11 =>
      intro xv W hE hp
      obtain ⟨o4, r4, hQ4⟩ := hp.1
      obtain ⟨g10, l10, d10, r10, hP10, hn10, hX10⟩ := hp.2.1
      clear hp
      simp only [putD, foldl_nil, foldl_cons, getD_cons_zero, getD_cons_succ, Act.put, setIfInBounds_toArray, set_cons_zero, set_cons_succ]
      refine OpGoal.plain ?_
      go_wp2_with fail
      exact ⟨rfl, DrS.refl b _, o4, g10, l10, d10, rfl, hQ4, hP10, hn10, hX10⟩
     case last =>
      intro xv W hE hp
      obtain ⟨g0, r0, lb0, lt0, hc0⟩ := hp.1
      have r1 : xv 1 = _ := hp.2.1
      obtain ⟨k2, r2, lo2, hi2⟩ := hp.2.2.1
      obtain ⟨g3, j3, x3, r3, lb3, lt3, hQ3, hc3⟩ := hp.2.2.2.1
      obtain ⟨o4, r4, hQ4⟩ := hp.2.2.2.2.1
      have r5 : xv 5 = _ := hp.2.2.2.2.2.1
      have r6 : xv 6 = _ := hp.2.2.2.2.2.2.1
      have r7 : xv 7 = _ := hp.2.2.2.2.2.2.2.1
      have r8 : xv 8 = _ := hp.2.2.2.2.2.2.2.2.1
      obtain ⟨y9, A9, c9, d9, r9, hR9, hs9, hX9⟩ := hp.2.2.2.2.2.2.2.2.2.1
      obtain ⟨g10, l10, d10, r10, hP10, hn10, hX10⟩ := hp.2.2.2.2.2.2.2.2.2.2.1
      obtain ⟨o11, g11, l11, d11, r11, hQ11, hP11, hn11, hX11⟩ := hp.2.2.2.2.2.2.2.2.2.2.2.1
      clear hp
      simp only [putD, List.foldl_nil, List.foldl_cons, List.getD_cons_zero, List.getD_cons_succ, Act.put, List.length_cons, List.length_nil, List.range_succ, List.range_zero, List.nil_append, List.cons_append, List.setIfInBounds_toArray, List.set_cons_zero, List.set_cons_succ]
      obtain ⟨y, rfl, hRy, hsy⟩ := hP11
      rw [r11]
      have hzf := HZ.out W hE
      have HXF := Lib.hid hX11
      obtain ⟨u0, u1, u2, u3, u4, u5, u6⟩ := hzf.cells
      obtain ⟨f0, f1, f2, f3, f4, f5, f6⟩ := hzf.free
      have HZF := Lib.hid hzf
      have HDF := Lib.hid (HD.out W hE)
      have HGF := Lib.hid (HG.out W hE)
      clear hzf hX11
      go_wp2_with fail
      exact made_ret_fin rfl (.mk o11 0 0 0 false [] [x0, y]) (some ⟨g11, 0, none⟩) _ d11 (Rt.sum o11 hQ11 x0 y HR0.out hRy) (by rw [size_2']; (try rw [hk]); show _ ≤ 5 + 2 * szA k; omega) HXF.out HZF.out hbl HDF.out HGF.out _ hn11.symm rfl
theorem amount_all : ∀ m : Nat, m ≤ 2 → AmtC m
 | 0, h => amount_step 0 h fun k hk => by omega
 | m + 1, h => amount_step (m + 1) h fun k hk => by
  obtain rfl : k = m := by omega
  exact amount_all k (by omega)
end Go.Proofs.YtmiencglfhpmeaaGreatDoor
