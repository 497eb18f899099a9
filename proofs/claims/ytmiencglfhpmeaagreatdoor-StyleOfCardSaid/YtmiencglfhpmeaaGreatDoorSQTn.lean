/- The law StyleOf: its walk (printed by gen_tn.py). -/
import Derived.Test.YtmiencglfhpmeaaGreatDoorSQTk

set_option linter.unusedSimpArgs false
set_option linter.unusedVariables false
namespace Go.Proofs.YtmiencglfhpmeaaGreatDoor
open Go.RowKit Hach

theorem three_boxes (w : World) (C0 C1 C2 : Array Value) (T0 T1 T2 : TypeId) : ∃ W, ((w.alloc (.cells C0 T0)).alloc (.cells C1 T1)).alloc (.cells C2 T2) = W ∧ Ext w W ∧ W.heap.size = w.heap.size + 3 ∧
    (∀ (V : World), Ext W V → ∀ (i : Nat) (v : Value), C0[i]? = some v → V.cell? ⟨w.heap.size, i, none⟩ = some v) ∧ (∀ (V : World), Ext W V → ∀ (i : Nat) (v : Value), C1[i]? = some v → V.cell? ⟨w.heap.size + 1, i, none⟩ = some v) ∧ (∀ (V : World), Ext W V → ∀ (i : Nat) (v : Value), C2[i]? = some v → V.cell? ⟨w.heap.size + 2, i, none⟩ = some v) := by
  have h0 := Ext.alloc w (.cells C0 T0)
  have h1 := Ext.alloc (w.alloc (.cells C0 T0)) (.cells C1 T1)
  have h2 := Ext.alloc ((w.alloc (.cells C0 T0)).alloc (.cells C1 T1)) (.cells C2 T2)
  refine ⟨_, rfl, (h0.trans h1).trans h2, by simp, fun V h i v hi => ?_, fun V h i v hi => ?_, fun V h i v hi => ?_⟩
  · rw [((h1.trans h2).trans h).old (p := ⟨w.heap.size, i, none⟩) (by simp), World.cell?_alloc_new]; exact hi
  · rw [(h2.trans h).old (p := ⟨w.heap.size + 1, i, none⟩) (by simp)]
    have := World.cell?_alloc_new (w.alloc (.cells C0 T0)) C1 T1 i
    simp only [World.size_alloc] at this
    rw [this]; exact hi
  · rw [h.old (p := ⟨w.heap.size + 2, i, none⟩) (by simp)]
    have := World.cell?_alloc_new ((w.alloc (.cells C0 T0)).alloc (.cells C1 T1)) C2 T2 i
    simp only [World.size_alloc] at this
    rw [show w.heap.size + 2 = w.heap.size + 1 + 1 by omega, this]; exact hi
set_option maxRecDepth 100000 in
set_option maxHeartbeats 4000000 in
theorem StyleOf_any (i0 : Value) (f1 f2 : List UInt8) (fw : Int) (fd i1 vl : Value) (lv : Int) (s1 s2 : List UInt8) (st : Bool) (ww : Int) (wd i2 px py : Value) (p1 p2 : List UInt8) (pw : Int) (pd : Value) (w : World) (hT : Wr.Tabs w) :
    Calls Tryz.prog 9 #[.agg #[i0, .string ⟨f1.toArray⟩, .string ⟨f2.toArray⟩, .int .i64 fw, fd], .agg #[i1, vl, .int .i64 lv, .string ⟨s1.toArray⟩, .string ⟨s2.toArray⟩, .bool st, .int .i64 ww, wd], .agg #[i2, px, py, .string ⟨p1.toArray⟩, .string ⟨p2.toArray⟩, .int .i64 pw, pd]] w fun e w' => e = .returned (.bool true) ∧ Ext w w' := by
  have HT := Lib.hid hT
  clear hT
  obtain ⟨w3, hw3, hE3, hs3, k0, k1, k2⟩ := three_boxes w #[i0, .string ⟨f1.toArray⟩, .string ⟨f2.toArray⟩, .int .i64 fw, fd] #[i1, vl, .int .i64 lv, .string ⟨s1.toArray⟩, .string ⟨s2.toArray⟩, .bool st, .int .i64 ww, wd] #[i2, px, py, .string ⟨p1.toArray⟩, .string ⟨p2.toArray⟩, .int .i64 pw, pd] 69 72 76
  have HF : Hid (∀ V : World, Ext w3 V → V.cell? ⟨w.heap.size, 0, none⟩ = some (i0) ∧ V.cell? ⟨w.heap.size, 1, none⟩ = some (.string ⟨f1.toArray⟩) ∧ V.cell? ⟨w.heap.size, 2, none⟩ = some (.string ⟨f2.toArray⟩) ∧ V.cell? ⟨w.heap.size, 3, none⟩ = some (.int .i64 fw) ∧ V.cell? ⟨w.heap.size, 4, none⟩ = some (fd)) := Lib.hid fun V h => ⟨k0 V h 0 _ rfl, k0 V h 1 _ rfl, k0 V h 2 _ rfl, k0 V h 3 _ rfl, k0 V h 4 _ rfl⟩
  have HWY : Hid (∀ V : World, Ext w3 V → V.cell? ⟨w.heap.size + 1, 0, none⟩ = some (i1) ∧ V.cell? ⟨w.heap.size + 1, 1, none⟩ = some (vl) ∧ V.cell? ⟨w.heap.size + 1, 2, none⟩ = some (.int .i64 lv) ∧ V.cell? ⟨w.heap.size + 1, 3, none⟩ = some (.string ⟨s1.toArray⟩) ∧ V.cell? ⟨w.heap.size + 1, 4, none⟩ = some (.string ⟨s2.toArray⟩) ∧ V.cell? ⟨w.heap.size + 1, 5, none⟩ = some (.bool st) ∧ V.cell? ⟨w.heap.size + 1, 6, none⟩ = some (.int .i64 ww) ∧ V.cell? ⟨w.heap.size + 1, 7, none⟩ = some (wd)) := Lib.hid fun V h => ⟨k1 V h 0 _ rfl, k1 V h 1 _ rfl, k1 V h 2 _ rfl, k1 V h 3 _ rfl, k1 V h 4 _ rfl, k1 V h 5 _ rfl, k1 V h 6 _ rfl, k1 V h 7 _ rfl⟩
  have HP : Hid (∀ V : World, Ext w3 V → V.cell? ⟨w.heap.size + 1 + 1, 0, none⟩ = some (i2) ∧ V.cell? ⟨w.heap.size + 1 + 1, 1, none⟩ = some (px) ∧ V.cell? ⟨w.heap.size + 1 + 1, 2, none⟩ = some (py) ∧ V.cell? ⟨w.heap.size + 1 + 1, 3, none⟩ = some (.string ⟨p1.toArray⟩) ∧ V.cell? ⟨w.heap.size + 1 + 1, 4, none⟩ = some (.string ⟨p2.toArray⟩) ∧ V.cell? ⟨w.heap.size + 1 + 1, 5, none⟩ = some (.int .i64 pw) ∧ V.cell? ⟨w.heap.size + 1 + 1, 6, none⟩ = some (pd)) := Lib.hid fun V h => ⟨k2 V h 0 _ rfl, k2 V h 1 _ rfl, k2 V h 2 _ rfl, k2 V h 3 _ rfl, k2 V h 4 _ rfl, k2 V h 5 _ rfl, k2 V h 6 _ rfl⟩
  have HE3 := Lib.hid hE3
  have HW3 := Lib.hid hw3
  have HS3 := Lib.hid hs3
  clear hw3 hE3 hs3 k0 k1 k2
  go_enter Tryz.func9, Tryz.ntmps9
  go_upto_region 1 with fail
  rw [HW3.out]
  have SA := Lib.hid (sanity_any w3 (HT.out.ext HE3.out))
  go_wp2_with fail
  refine SA.out.mono ?_
  rintro e w4 ⟨rfl, hE4⟩
  have HE4 := Lib.hid hE4
  clear hE4 SA
  go_upto_region 2 with fail
  apply wp_region_seq (l := [_, _, _, _, _, _, _, _, _, _]) (t := [_]) [some 11, some 12, some 13, some 14, some 15, some 16, some 17, some 18, some 19, some 20, some 8] [[], [0], [], [2], [], [4], [], [6], [3, 5, 7], [1, 8], [9]] [10, 10, 10, 10, 10, 10, 10, 10, 10, 10] [(eqv (.agg #[i0, .string ⟨f1.toArray⟩, .string ⟨f2.toArray⟩, .int .i64 fw, fd])), (eqv (FaceE f1 f2 fw).v), eqv _, eqv _, eqv _, eqv _, eqv _, eqv _, (eqv (FaceE f1 f2 fw).v), (eqv (.bool true))] (by kernel_rfl) (by kernel_rfl) ⟨?o0, ?o1, ?o2, ?o3, ?o4, ?o5, ?o6, ?o7, ?o8, ?o9, trivial⟩ ?last
  case o0 =>
    intro xv W hE _
    obtain ⟨j0, j1, j2, j3, j4⟩ := HF.out W (HE4.out.trans ((Ext.drew w4).trans hE))
    simp only [putD, List.foldl_nil, List.getD_cons_zero]
    refine OpGoal.plain ?_
    go_wp2_with fail
    exact ⟨rfl, Ext.refl _, rfl⟩
  case o1 =>
    intro xv W hE hp
    have r0 : xv 0 = _ := hp.1
    clear hp
    simp only [putD, List.foldl_nil, List.foldl_cons, List.getD_cons_zero, List.getD_cons_succ, Act.put, List.setIfInBounds_toArray, List.set_cons_zero, List.set_cons_succ]
    refine OpGoal.plain ?_
    go_wp2_with fail
    refine (ofFace_any i0 f1 f2 fw fd W).mono ?_
    rintro e w' ⟨rfl, hE9⟩
    go_wp2_with fail
    exact ⟨rfl, hE9, rfl⟩
  case o2 =>
    intro xv W hE _
    simp only [putD, List.foldl_nil, List.getD_cons_zero, List.getD_cons_succ]
    refine OpGoal.plain ?_
    go_wp2_with fail
    exact ⟨rfl, Ext.refl _, rfl⟩
  case o3 =>
    intro xv W hE hp
    have r2 : xv 2 = _ := hp.1
    clear hp
    obtain ⟨j0, j1, j2, j3, j4⟩ := HF.out W (HE4.out.trans ((Ext.drew w4).trans hE))
    simp only [putD, List.foldl_nil, List.foldl_cons, List.getD_cons_zero, List.getD_cons_succ, Act.put, List.setIfInBounds_toArray, List.set_cons_zero, List.set_cons_succ]
    refine OpGoal.plain ?_
    go_wp2_with fail
    exact ⟨rfl, Ext.refl _, rfl⟩
  case o4 =>
    intro xv W hE _
    simp only [putD, List.foldl_nil, List.getD_cons_zero, List.getD_cons_succ]
    refine OpGoal.plain ?_
    go_wp2_with fail
    exact ⟨rfl, Ext.refl _, rfl⟩
  case o5 =>
    intro xv W hE hp
    have r4 : xv 4 = _ := hp.1
    clear hp
    obtain ⟨j0, j1, j2, j3, j4⟩ := HF.out W (HE4.out.trans ((Ext.drew w4).trans hE))
    simp only [putD, List.foldl_nil, List.foldl_cons, List.getD_cons_zero, List.getD_cons_succ, Act.put, List.setIfInBounds_toArray, List.set_cons_zero, List.set_cons_succ]
    refine OpGoal.plain ?_
    go_wp2_with fail
    exact ⟨rfl, Ext.refl _, rfl⟩
  case o6 =>
    intro xv W hE _
    simp only [putD, List.foldl_nil, List.getD_cons_zero, List.getD_cons_succ]
    refine OpGoal.plain ?_
    go_wp2_with fail
    exact ⟨rfl, Ext.refl _, rfl⟩
  case o7 =>
    intro xv W hE hp
    have r6 : xv 6 = _ := hp.1
    clear hp
    obtain ⟨j0, j1, j2, j3, j4⟩ := HF.out W (HE4.out.trans ((Ext.drew w4).trans hE))
    simp only [putD, List.foldl_nil, List.foldl_cons, List.getD_cons_zero, List.getD_cons_succ, Act.put, List.setIfInBounds_toArray, List.set_cons_zero, List.set_cons_succ]
    refine OpGoal.plain ?_
    go_wp2_with fail
    exact ⟨rfl, Ext.refl _, rfl⟩
  case o8 =>
    intro xv W hE hp
    have r3 : xv 3 = _ := hp.1
    have r5 : xv 5 = _ := hp.2.1
    have r7 : xv 7 = _ := hp.2.2.1
    clear hp
    simp only [putD, List.foldl_nil, List.foldl_cons, List.getD_cons_zero, List.getD_cons_succ, Act.put, List.setIfInBounds_toArray, List.set_cons_zero, List.set_cons_succ]
    refine OpGoal.plain ?_
    go_wp2_with fail
    exact ⟨rfl, Ext.refl _, rfl⟩
  case o9 =>
    intro xv W hE hp
    have r1 : xv 1 = _ := hp.1
    have r8 : xv 8 = _ := hp.2.1
    clear hp
    simp only [putD, List.foldl_nil, List.foldl_cons, List.getD_cons_zero, List.getD_cons_succ, Act.put, List.setIfInBounds_toArray, List.set_cons_zero, List.set_cons_succ]
    refine OpGoal.plain ?_
    unfold FaceE En.v at r1 r8
    go_wp2_with fail
    exact ⟨rfl, Ext.refl _, rfl⟩
  case last =>
    intro xv W hE hp
    have r0 : xv 0 = _ := hp.1
    have r1 : xv 1 = _ := hp.2.1
    have r2 : xv 2 = _ := hp.2.2.1
    have r3 : xv 3 = _ := hp.2.2.2.1
    have r4 : xv 4 = _ := hp.2.2.2.2.1
    have r5 : xv 5 = _ := hp.2.2.2.2.2.1
    have r6 : xv 6 = _ := hp.2.2.2.2.2.2.1
    have r7 : xv 7 = _ := hp.2.2.2.2.2.2.2.1
    have r8 : xv 8 = _ := hp.2.2.2.2.2.2.2.2.1
    have r9 : xv 9 = _ := hp.2.2.2.2.2.2.2.2.2.1
    clear hp
    simp only [putD, List.foldl_nil, List.foldl_cons, List.getD_cons_zero, List.getD_cons_succ, Act.put, List.length_cons, List.length_nil, List.range_succ, List.range_zero, List.nil_append, List.cons_append, List.setIfInBounds_toArray, List.set_cons_zero, List.set_cons_succ]
    have HE5 := Lib.hid (HE4.out.trans ((Ext.drew w4).trans hE))
    rw [r9]
    clear hE HE4
    go_upto_region 3 with fail
    apply wp_region_seq (l := [_, _, _, _, _, _, _, _, _, _, _, _, _, _]) (t := [_]) [some 21, some 22, some 23, some 24, some 25, some 26, some 27, some 28, some 29, some 30, some 31, some 32, some 33, some 34, some 9] [[], [0], [], [2], [], [4], [], [6], [], [8], [], [10], [3, 5, 7, 9, 11], [1, 12], [13]] [14, 14, 14, 14, 14, 14, 14, 14, 14, 14, 14, 14, 14, 14] [(eqv (.agg #[i1, vl, .int .i64 lv, .string ⟨s1.toArray⟩, .string ⟨s2.toArray⟩, .bool st, .int .i64 ww, wd])), (eqv (WayE s1 s2 ww lv st).v), eqv _, eqv _, eqv _, eqv _, eqv _, eqv _, eqv _, eqv _, eqv _, eqv _, (eqv (WayE s1 s2 ww lv st).v), (eqv (.bool true))] (by kernel_rfl) (by kernel_rfl) ⟨?o0, ?o1, ?o2, ?o3, ?o4, ?o5, ?o6, ?o7, ?o8, ?o9, ?o10, ?o11, ?o12, ?o13, trivial⟩ ?last
    case o0 =>
      intro xv W2 hE _
      obtain ⟨j0, j1, j2, j3, j4, j5, j6, j7⟩ := HWY.out W2 (HE5.out.trans ((Ext.drew W).trans hE))
      simp only [putD, List.foldl_nil, List.getD_cons_zero]
      refine OpGoal.plain ?_
      go_wp2_with fail
      exact ⟨rfl, Ext.refl _, rfl⟩
    case o1 =>
      intro xv W2 hE hp
      have r0 : xv 0 = _ := hp.1
      clear hp
      simp only [putD, List.foldl_nil, List.foldl_cons, List.getD_cons_zero, List.getD_cons_succ, Act.put, List.setIfInBounds_toArray, List.set_cons_zero, List.set_cons_succ]
      refine OpGoal.plain ?_
      go_wp2_with fail
      refine (ofWay_any i1 vl lv s1 s2 st ww wd W2).mono ?_
      rintro e w' ⟨rfl, hE9⟩
      go_wp2_with fail
      exact ⟨rfl, hE9, rfl⟩
    case o2 =>
      intro xv W2 hE _
      simp only [putD, List.foldl_nil, List.getD_cons_zero, List.getD_cons_succ]
      refine OpGoal.plain ?_
      go_wp2_with fail
      exact ⟨rfl, Ext.refl _, rfl⟩
    case o3 =>
      intro xv W2 hE hp
      have r2 : xv 2 = _ := hp.1
      clear hp
      obtain ⟨j0, j1, j2, j3, j4, j5, j6, j7⟩ := HWY.out W2 (HE5.out.trans ((Ext.drew W).trans hE))
      simp only [putD, List.foldl_nil, List.foldl_cons, List.getD_cons_zero, List.getD_cons_succ, Act.put, List.setIfInBounds_toArray, List.set_cons_zero, List.set_cons_succ]
      refine OpGoal.plain ?_
      go_wp2_with fail
      exact ⟨rfl, Ext.refl _, rfl⟩
    case o4 =>
      intro xv W2 hE _
      simp only [putD, List.foldl_nil, List.getD_cons_zero, List.getD_cons_succ]
      refine OpGoal.plain ?_
      go_wp2_with fail
      exact ⟨rfl, Ext.refl _, rfl⟩
    case o5 =>
      intro xv W2 hE hp
      have r4 : xv 4 = _ := hp.1
      clear hp
      obtain ⟨j0, j1, j2, j3, j4, j5, j6, j7⟩ := HWY.out W2 (HE5.out.trans ((Ext.drew W).trans hE))
      simp only [putD, List.foldl_nil, List.foldl_cons, List.getD_cons_zero, List.getD_cons_succ, Act.put, List.setIfInBounds_toArray, List.set_cons_zero, List.set_cons_succ]
      refine OpGoal.plain ?_
      go_wp2_with fail
      exact ⟨rfl, Ext.refl _, rfl⟩
    case o6 =>
      intro xv W2 hE _
      simp only [putD, List.foldl_nil, List.getD_cons_zero, List.getD_cons_succ]
      refine OpGoal.plain ?_
      go_wp2_with fail
      exact ⟨rfl, Ext.refl _, rfl⟩
    case o7 =>
      intro xv W2 hE hp
      have r6 : xv 6 = _ := hp.1
      clear hp
      obtain ⟨j0, j1, j2, j3, j4, j5, j6, j7⟩ := HWY.out W2 (HE5.out.trans ((Ext.drew W).trans hE))
      simp only [putD, List.foldl_nil, List.foldl_cons, List.getD_cons_zero, List.getD_cons_succ, Act.put, List.setIfInBounds_toArray, List.set_cons_zero, List.set_cons_succ]
      refine OpGoal.plain ?_
      go_wp2_with fail
      exact ⟨rfl, Ext.refl _, rfl⟩
    case o8 =>
      intro xv W2 hE _
      simp only [putD, List.foldl_nil, List.getD_cons_zero, List.getD_cons_succ]
      refine OpGoal.plain ?_
      go_wp2_with fail
      exact ⟨rfl, Ext.refl _, rfl⟩
    case o9 =>
      intro xv W2 hE hp
      have r8 : xv 8 = _ := hp.1
      clear hp
      obtain ⟨j0, j1, j2, j3, j4, j5, j6, j7⟩ := HWY.out W2 (HE5.out.trans ((Ext.drew W).trans hE))
      simp only [putD, List.foldl_nil, List.foldl_cons, List.getD_cons_zero, List.getD_cons_succ, Act.put, List.setIfInBounds_toArray, List.set_cons_zero, List.set_cons_succ]
      refine OpGoal.plain ?_
      go_wp2_with fail
      exact ⟨rfl, Ext.refl _, rfl⟩
    case o10 =>
      intro xv W2 hE _
      simp only [putD, List.foldl_nil, List.getD_cons_zero, List.getD_cons_succ]
      refine OpGoal.plain ?_
      go_wp2_with fail
      exact ⟨rfl, Ext.refl _, rfl⟩
    case o11 =>
      intro xv W2 hE hp
      have r10 : xv 10 = _ := hp.1
      clear hp
      obtain ⟨j0, j1, j2, j3, j4, j5, j6, j7⟩ := HWY.out W2 (HE5.out.trans ((Ext.drew W).trans hE))
      simp only [putD, List.foldl_nil, List.foldl_cons, List.getD_cons_zero, List.getD_cons_succ, Act.put, List.setIfInBounds_toArray, List.set_cons_zero, List.set_cons_succ]
      refine OpGoal.plain ?_
      go_wp2_with fail
      exact ⟨rfl, Ext.refl _, rfl⟩
    case o12 =>
      intro xv W2 hE hp
      have r3 : xv 3 = _ := hp.1
      have r5 : xv 5 = _ := hp.2.1
      have r7 : xv 7 = _ := hp.2.2.1
      have r9 : xv 9 = _ := hp.2.2.2.1
      have r11 : xv 11 = _ := hp.2.2.2.2.1
      clear hp
      simp only [putD, List.foldl_nil, List.foldl_cons, List.getD_cons_zero, List.getD_cons_succ, Act.put, List.setIfInBounds_toArray, List.set_cons_zero, List.set_cons_succ]
      refine OpGoal.plain ?_
      go_wp2_with fail
      exact ⟨rfl, Ext.refl _, rfl⟩
    case o13 =>
      intro xv W2 hE hp
      have r1 : xv 1 = _ := hp.1
      have r12 : xv 12 = _ := hp.2.1
      clear hp
      simp only [putD, List.foldl_nil, List.foldl_cons, List.getD_cons_zero, List.getD_cons_succ, Act.put, List.setIfInBounds_toArray, List.set_cons_zero, List.set_cons_succ]
      refine OpGoal.plain ?_
      unfold WayE En.v at r1 r12
      go_wp2_with fail
      exact ⟨rfl, Ext.refl _, rfl⟩
    case last =>
      intro xv W2 hE hp
      have r0 : xv 0 = _ := hp.1
      have r1 : xv 1 = _ := hp.2.1
      have r2 : xv 2 = _ := hp.2.2.1
      have r3 : xv 3 = _ := hp.2.2.2.1
      have r4 : xv 4 = _ := hp.2.2.2.2.1
      have r5 : xv 5 = _ := hp.2.2.2.2.2.1
      have r6 : xv 6 = _ := hp.2.2.2.2.2.2.1
      have r7 : xv 7 = _ := hp.2.2.2.2.2.2.2.1
      have r8 : xv 8 = _ := hp.2.2.2.2.2.2.2.2.1
      have r9 : xv 9 = _ := hp.2.2.2.2.2.2.2.2.2.1
      have r10 : xv 10 = _ := hp.2.2.2.2.2.2.2.2.2.2.1
      have r11 : xv 11 = _ := hp.2.2.2.2.2.2.2.2.2.2.2.1
      have r12 : xv 12 = _ := hp.2.2.2.2.2.2.2.2.2.2.2.2.1
      have r13 : xv 13 = _ := hp.2.2.2.2.2.2.2.2.2.2.2.2.2.1
      clear hp
      simp only [putD, List.foldl_nil, List.foldl_cons, List.getD_cons_zero, List.getD_cons_succ, Act.put, List.length_cons, List.length_nil, List.range_succ, List.range_zero, List.nil_append, List.cons_append, List.setIfInBounds_toArray, List.set_cons_zero, List.set_cons_succ]
      have HE6 := Lib.hid (HE5.out.trans ((Ext.drew W).trans hE))
      rw [r13]
      clear hE HE5
      go_upto_region 4 with fail
      apply wp_region_seq (l := [_, _, _, _, _, _, _, _, _, _, _, _, _, _, _, _, _, _, _]) (t := [_]) [some 35, some 36, some 37, some 38, some 39, some 40, some 41, some 42, some 43, some 44, some 45, some 46, some 47, some 48, some 49, some 50, some 51, some 52, some 53, some 6] [[], [0], [1], [1, 2], [3], [4], [4, 5], [6], [7], [7, 8], [7], [7, 10], [7], [7, 12], [7], [7, 14], [7, 11, 13, 15], [7, 9, 16], [7, 17], [18]] [19, 19, 19, 19, 19, 19, 19, 19, 19, 19, 19, 19, 19, 19, 19, 19, 19, 19, 19] [eqv _, eqv _, eqv _, eqv _, eqv _, eqv _, eqv _, eqv _, (eqv (.agg #[i2, px, py, .string ⟨p1.toArray⟩, .string ⟨p2.toArray⟩, .int .i64 pw, pd])), (eqv (PlaceE p1 p2 pw).v), eqv _, eqv _, eqv _, eqv _, eqv _, eqv _, (eqv (PlaceE p1 p2 pw).v), (eqv (.bool true)), eqv _] (by kernel_rfl) (by kernel_rfl) ⟨?o0, ?o1, ?o2, ?o3, ?o4, ?o5, ?o6, ?o7, ?o8, ?o9, ?o10, ?o11, ?o12, ?o13, ?o14, ?o15, ?o16, ?o17, ?o18, trivial⟩ ?last
      case o0 =>
        intro xv W3 hE _
        simp only [putD, List.foldl_nil, List.getD_cons_zero]
        refine OpGoal.plain ?_
        go_wp2_with fail
        exact ⟨rfl, Ext.refl _, rfl⟩
      case o1 =>
        intro xv W3 hE hp
        have r0 : xv 0 = _ := hp.1
        clear hp
        simp only [putD, List.foldl_nil, List.foldl_cons, List.getD_cons_zero, List.getD_cons_succ, Act.put, List.setIfInBounds_toArray, List.set_cons_zero, List.set_cons_succ]
        refine OpGoal.plain ?_
        go_wp2_with fail
        exact ⟨rfl, Ext.refl _, rfl⟩
      case o2 =>
        intro xv W3 hE hp
        have r1 : xv 1 = _ := hp.1
        clear hp
        simp only [putD, List.foldl_nil, List.foldl_cons, List.getD_cons_zero, List.getD_cons_succ, Act.put, List.setIfInBounds_toArray, List.set_cons_zero, List.set_cons_succ]
        refine OpGoal.yes (by simp [yieldD, r1]) ?_
        go_wp2_with fail
        exact ⟨rfl, Ext.refl _, rfl⟩
      case o3 =>
        intro xv W3 hE hp
        have r1 : xv 1 = _ := hp.1
        have r2 : xv 2 = _ := hp.2.1
        clear hp
        simp only [putD, List.foldl_nil, List.foldl_cons, List.getD_cons_zero, List.getD_cons_succ, Act.put, List.setIfInBounds_toArray, List.set_cons_zero, List.set_cons_succ]
        refine OpGoal.plain ?_
        go_wp2_with fail
        exact ⟨rfl, Ext.refl _, rfl⟩
      case o4 =>
        intro xv W3 hE hp
        have r3 : xv 3 = _ := hp.1
        clear hp
        simp only [putD, List.foldl_nil, List.foldl_cons, List.getD_cons_zero, List.getD_cons_succ, Act.put, List.setIfInBounds_toArray, List.set_cons_zero, List.set_cons_succ]
        refine OpGoal.plain ?_
        go_wp2_with fail
        exact ⟨rfl, Ext.refl _, rfl⟩
      case o5 =>
        intro xv W3 hE hp
        have r4 : xv 4 = _ := hp.1
        clear hp
        simp only [putD, List.foldl_nil, List.foldl_cons, List.getD_cons_zero, List.getD_cons_succ, Act.put, List.setIfInBounds_toArray, List.set_cons_zero, List.set_cons_succ]
        refine OpGoal.yes (by simp [yieldD, r4]) ?_
        go_wp2_with fail
        exact ⟨rfl, Ext.refl _, rfl⟩
      case o6 =>
        intro xv W3 hE hp
        have r4 : xv 4 = _ := hp.1
        have r5 : xv 5 = _ := hp.2.1
        clear hp
        simp only [putD, List.foldl_nil, List.foldl_cons, List.getD_cons_zero, List.getD_cons_succ, Act.put, List.setIfInBounds_toArray, List.set_cons_zero, List.set_cons_succ]
        refine OpGoal.plain ?_
        go_wp2_with fail
        exact ⟨rfl, Ext.refl _, rfl⟩
      case o7 =>
        intro xv W3 hE hp
        have r6 : xv 6 = _ := hp.1
        clear hp
        simp only [putD, List.foldl_nil, List.foldl_cons, List.getD_cons_zero, List.getD_cons_succ, Act.put, List.setIfInBounds_toArray, List.set_cons_zero, List.set_cons_succ]
        refine OpGoal.plain ?_
        go_wp2_with fail
        exact ⟨rfl, Ext.refl _, rfl⟩
      case o8 =>
        intro xv W3 hE hp
        have r7 : xv 7 = _ := hp.1
        clear hp
        obtain ⟨j0, j1, j2, j3, j4, j5, j6⟩ := HP.out W3 (HE6.out.trans ((Ext.drew W2).trans hE))
        simp only [putD, List.foldl_nil, List.foldl_cons, List.getD_cons_zero, List.getD_cons_succ, Act.put, List.setIfInBounds_toArray, List.set_cons_zero, List.set_cons_succ]
        refine OpGoal.yes (by simp [yieldD, r7]) ?_
        go_wp2_with fail
        exact ⟨rfl, Ext.refl _, rfl⟩
      case o9 =>
        intro xv W3 hE hp
        have r7 : xv 7 = _ := hp.1
        have r8 : xv 8 = _ := hp.2.1
        clear hp
        simp only [putD, List.foldl_nil, List.foldl_cons, List.getD_cons_zero, List.getD_cons_succ, Act.put, List.setIfInBounds_toArray, List.set_cons_zero, List.set_cons_succ]
        refine OpGoal.yes (by simp [yieldD, r7]) ?_
        go_wp2_with fail
        refine (ofPlace_any i2 px py p1 p2 pw pd W3).mono ?_
        rintro e w' ⟨rfl, hE9⟩
        go_wp2_with fail
        exact ⟨rfl, hE9, rfl⟩
      case o10 =>
        intro xv W3 hE hp
        have r7 : xv 7 = _ := hp.1
        clear hp
        simp only [putD, List.foldl_nil, List.foldl_cons, List.getD_cons_zero, List.getD_cons_succ, Act.put, List.setIfInBounds_toArray, List.set_cons_zero, List.set_cons_succ]
        refine OpGoal.yes (by simp [yieldD, r7]) ?_
        go_wp2_with fail
        exact ⟨rfl, Ext.refl _, rfl⟩
      case o11 =>
        intro xv W3 hE hp
        have r7 : xv 7 = _ := hp.1
        have r10 : xv 10 = _ := hp.2.1
        clear hp
        obtain ⟨j0, j1, j2, j3, j4, j5, j6⟩ := HP.out W3 (HE6.out.trans ((Ext.drew W2).trans hE))
        simp only [putD, List.foldl_nil, List.foldl_cons, List.getD_cons_zero, List.getD_cons_succ, Act.put, List.setIfInBounds_toArray, List.set_cons_zero, List.set_cons_succ]
        refine OpGoal.yes (by simp [yieldD, r7]) ?_
        go_wp2_with fail
        exact ⟨rfl, Ext.refl _, rfl⟩
      case o12 =>
        intro xv W3 hE hp
        have r7 : xv 7 = _ := hp.1
        clear hp
        simp only [putD, List.foldl_nil, List.foldl_cons, List.getD_cons_zero, List.getD_cons_succ, Act.put, List.setIfInBounds_toArray, List.set_cons_zero, List.set_cons_succ]
        refine OpGoal.yes (by simp [yieldD, r7]) ?_
        go_wp2_with fail
        exact ⟨rfl, Ext.refl _, rfl⟩
      case o13 =>
        intro xv W3 hE hp
        have r7 : xv 7 = _ := hp.1
        have r12 : xv 12 = _ := hp.2.1
        clear hp
        obtain ⟨j0, j1, j2, j3, j4, j5, j6⟩ := HP.out W3 (HE6.out.trans ((Ext.drew W2).trans hE))
        simp only [putD, List.foldl_nil, List.foldl_cons, List.getD_cons_zero, List.getD_cons_succ, Act.put, List.setIfInBounds_toArray, List.set_cons_zero, List.set_cons_succ]
        refine OpGoal.yes (by simp [yieldD, r7]) ?_
        go_wp2_with fail
        exact ⟨rfl, Ext.refl _, rfl⟩
      case o14 =>
        intro xv W3 hE hp
        have r7 : xv 7 = _ := hp.1
        clear hp
        simp only [putD, List.foldl_nil, List.foldl_cons, List.getD_cons_zero, List.getD_cons_succ, Act.put, List.setIfInBounds_toArray, List.set_cons_zero, List.set_cons_succ]
        refine OpGoal.yes (by simp [yieldD, r7]) ?_
        go_wp2_with fail
        exact ⟨rfl, Ext.refl _, rfl⟩
      case o15 =>
        intro xv W3 hE hp
        have r7 : xv 7 = _ := hp.1
        have r14 : xv 14 = _ := hp.2.1
        clear hp
        obtain ⟨j0, j1, j2, j3, j4, j5, j6⟩ := HP.out W3 (HE6.out.trans ((Ext.drew W2).trans hE))
        simp only [putD, List.foldl_nil, List.foldl_cons, List.getD_cons_zero, List.getD_cons_succ, Act.put, List.setIfInBounds_toArray, List.set_cons_zero, List.set_cons_succ]
        refine OpGoal.yes (by simp [yieldD, r7]) ?_
        go_wp2_with fail
        exact ⟨rfl, Ext.refl _, rfl⟩
      case o16 =>
        intro xv W3 hE hp
        have r7 : xv 7 = _ := hp.1
        have r11 : xv 11 = _ := hp.2.1
        have r13 : xv 13 = _ := hp.2.2.1
        have r15 : xv 15 = _ := hp.2.2.2.1
        clear hp
        simp only [putD, List.foldl_nil, List.foldl_cons, List.getD_cons_zero, List.getD_cons_succ, Act.put, List.setIfInBounds_toArray, List.set_cons_zero, List.set_cons_succ]
        refine OpGoal.yes (by simp [yieldD, r7]) ?_
        go_wp2_with fail
        exact ⟨rfl, Ext.refl _, rfl⟩
      case o17 =>
        intro xv W3 hE hp
        have r7 : xv 7 = _ := hp.1
        have r9 : xv 9 = _ := hp.2.1
        have r16 : xv 16 = _ := hp.2.2.1
        clear hp
        simp only [putD, List.foldl_nil, List.foldl_cons, List.getD_cons_zero, List.getD_cons_succ, Act.put, List.setIfInBounds_toArray, List.set_cons_zero, List.set_cons_succ]
        refine OpGoal.yes (by simp [yieldD, r7]) ?_
        unfold PlaceE En.v at r9 r16
        go_wp2_with fail
        exact ⟨rfl, Ext.refl _, rfl⟩
      case o18 =>
        intro xv W3 hE hp
        have r7 : xv 7 = _ := hp.1
        have r17 : xv 17 = _ := hp.2.1
        clear hp
        simp only [putD, List.foldl_nil, List.foldl_cons, List.getD_cons_zero, List.getD_cons_succ, Act.put, List.setIfInBounds_toArray, List.set_cons_zero, List.set_cons_succ]
        refine OpGoal.plain ?_
        go_wp2_with fail
        exact ⟨rfl, Ext.refl _, rfl⟩
      case last =>
        intro xv W3 hE hp
        have r0 : xv 0 = _ := hp.1
        have r1 : xv 1 = _ := hp.2.1
        have r2 : xv 2 = _ := hp.2.2.1
        have r3 : xv 3 = _ := hp.2.2.2.1
        have r4 : xv 4 = _ := hp.2.2.2.2.1
        have r5 : xv 5 = _ := hp.2.2.2.2.2.1
        have r6 : xv 6 = _ := hp.2.2.2.2.2.2.1
        have r7 : xv 7 = _ := hp.2.2.2.2.2.2.2.1
        have r8 : xv 8 = _ := hp.2.2.2.2.2.2.2.2.1
        have r9 : xv 9 = _ := hp.2.2.2.2.2.2.2.2.2.1
        have r10 : xv 10 = _ := hp.2.2.2.2.2.2.2.2.2.2.1
        have r11 : xv 11 = _ := hp.2.2.2.2.2.2.2.2.2.2.2.1
        have r12 : xv 12 = _ := hp.2.2.2.2.2.2.2.2.2.2.2.2.1
        have r13 : xv 13 = _ := hp.2.2.2.2.2.2.2.2.2.2.2.2.2.1
        have r14 : xv 14 = _ := hp.2.2.2.2.2.2.2.2.2.2.2.2.2.2.1
        have r15 : xv 15 = _ := hp.2.2.2.2.2.2.2.2.2.2.2.2.2.2.2.1
        have r16 : xv 16 = _ := hp.2.2.2.2.2.2.2.2.2.2.2.2.2.2.2.2.1
        have r17 : xv 17 = _ := hp.2.2.2.2.2.2.2.2.2.2.2.2.2.2.2.2.2.1
        have r18 : xv 18 = _ := hp.2.2.2.2.2.2.2.2.2.2.2.2.2.2.2.2.2.2.1
        clear hp
        simp only [putD, List.foldl_nil, List.foldl_cons, List.getD_cons_zero, List.getD_cons_succ, Act.put, List.length_cons, List.length_nil, List.range_succ, List.range_zero, List.nil_append, List.cons_append, List.setIfInBounds_toArray, List.set_cons_zero, List.set_cons_succ]
        have HE7 := Lib.hid (HE3.out.trans (HE6.out.trans ((Ext.drew W2).trans hE)))
        rw [r18]
        clear hE HE6
        go_wp2_with fail
        go_ret
        exact ⟨rfl, HE7.out⟩
end Go.Proofs.YtmiencglfhpmeaaGreatDoor
