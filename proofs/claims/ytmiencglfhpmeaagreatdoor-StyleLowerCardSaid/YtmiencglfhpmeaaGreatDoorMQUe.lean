/- Made rules: the contract of the reference's Made (printed by gen_ud.py). -/
import Derived.Test.YtmiencglfhpmeaaGreatDoorMQUd
set_option linter.unusedSimpArgs false
set_option linter.unusedVariables false
namespace Go.Proofs.YtmiencglfhpmeaaGreatDoor
open List (foldl_nil foldl_cons getD_cons_zero getD_cons_succ setIfInBounds_toArray set_cons_zero set_cons_succ)
open Go.RowKit Hach
set_option maxRecDepth 100000 in
set_option maxHeartbeats 16000000 in
theorem rMade_any (A : Option Addr) (n c : Nat) (w : World) (hL : LI w A n) : Calls Tryz.prog 25 #[.slice A n c] w (MadeL w) := by
 have hD1 := DrA.new c hL
 have hE1 : Ext w (w.alloc (.cells #[.slice A n c, .int .i64 0] 86)) := Ext.alloc _ _
 obtain ⟨w1, hw1⟩ : ∃ q, w.alloc (.cells #[.slice A n c, .int .i64 0] 86) = q := ⟨_, rfl⟩
 obtain ⟨b, hb⟩ : ∃ q, w.heap.size = q := ⟨_, rfl⟩
 have hb1 : b < w1.heap.size := by rw [← hw1, ← hb]; simp
 rw [hw1] at hD1 hE1
 rw [hb] at hD1
 have hbw : w.heap.size ≤ b := Nat.le_of_eq hb
 have HBW := Lib.hid hbw
 have HW1 := Lib.hid hw1
 have HB1 := Lib.hid hb
 have HE1 := Lib.hid hE1
 obtain ⟨w2, hw2⟩ : ∃ q, w1.alloc (.cells #[.int .i64 1, .int .i64 0, .int .i64 2, .int .i64 0, .bool true, .string ⟨#[]⟩, .slice none 0 0] 47) = q := ⟨_, rfl⟩
 have hI2 : InBlk w2 w1.heap.size yesE (.slice none 0 0) := by rw [← hw2]; exact InBlk.new w1 yesE _
 have hE2 : Ext w1 w2 := by rw [← hw2]; exact Ext.alloc _ _
 have hD2 := hD1.ext hE2
 have HW2 := Lib.hid hw2
 have HI := Lib.hid (fun (V : World) (h : DrS b w2.drew V) => ((hI2.ext (Ext.drew w2)).own h.1 (by simp; omega) : InBlk V w1.heap.size yesE (.slice none 0 0)))
 have HD := Lib.hid (fun (V : World) (h : DrS b w2.drew V) => h.2 (hD2.ext (Ext.drew w2)))
 have HSZ := Lib.hid (fun (V : World) (h : DrS b w2.drew V) => (Nat.le_trans hE2.sz h.1.size : w1.heap.size ≤ V.heap.size))
 have HG := Lib.hid (fun (V : World) (h : DrS b w2.drew V) => (grown_trans (grown_of (hE2.trans (Ext.drew w2)) (some b)) h.1 : w1.grownBy V (some b)))
 have DN := Lib.hid (fun (m : Int) (W : World) (h : DrA W b) (h1 : 0 < m) (h2 : m < 4294967296) => draw_any m b W h h1 h2)
 have NU := Lib.hid (fun (n : Int) (W : World) => number_any' n W)
 have AM1 := Lib.hid (fun (W : World) (h : DrA W b) => amount_all 1 (by decide) 1 b W rfl h)
 have AM2 := Lib.hid (fun (W : World) (h : DrA W b) => amount_all 2 (by decide) 2 b W rfl h)
 have CO2 := Lib.hid (fun (W : World) (h : DrA W b) => cond_all 2 (by decide) 2 b W rfl h)
 unfold New0 at NU
 unfold dp at DN AM1 AM2 CO2
 clear hw1 hb hE1 hw2 hI2 hE2 hD2 hD1 hL hbw
 go_enter Tryz.func25, Tryz.ntmps25
 go_upto_region 2 with fail
 rw [HW1.out, HB1.out]
 go_upto_region 3 with fail
 rw [HW2.out]
 apply wp_region_rel (E := DrS b) (DrS.refl b) (@DrS.trans b) (l := [_, _, _, _, _, _, _, _, _, _, _, _]) (t := [_, _]) [some 14, some 15, some 16, some 17, some 18, some 19, some 20, some 21, some 22, some 23, some 24, some 25, some 26, some 5] [[], [], [1], [], [3], [4], [5], [], [7], [8], [9], [0, 2, 6, 10], [11], [12]] [11, 2, 11, 4, 6, 6, 11, 8, 10, 10, 11, 12] [eqr _, eqr _, (kidP b w1.heap.size hb1 1 (szA 1)), eqr _, (numP b 0 3), (numP b 1 4), (kidP b w1.heap.size hb1 1 1), eqr _, (numP b 0 4), (numP b 1 5), (kidP b w1.heap.size hb1 1 1), (rlvP b w1.heap.size hb1 (fun r => r.nm = [97, 108, 108] ∧ r.pr = 0 ∧ r.e1 = yesE ∧ Mk1 r))] (by kernel_rfl) (by kernel_rfl) ⟨?o0, ?o1, ?o2, ?o3, ?o4, ?o5, ?o6, ?o7, ?o8, ?o9, ?o10, ?o11, trivial⟩ ?last
 case o0 =>
  intro xv W hE _
  obtain ⟨j0, j1, j2, j3, j4, j5, j6⟩ := (HI.out W hE).cells
  simp only [putD, List.foldl_nil, List.getD_cons_zero]
  refine OpGoal.plain ?_
  go_wp2_with fail
  exact ⟨rfl, (DrS.refl b) _, rfl⟩
 case o1 =>
  intro xv W hE _
  simp only [putD, List.foldl_nil, List.getD_cons_zero, List.getD_cons_succ]
  refine OpGoal.plain ?_
  go_wp2_with fail
  exact ⟨rfl, (DrS.refl b) _, rfl⟩
 case o2 =>
  intro xv W hE hp
  have r1 : xv 1 = _ := hp.1
  clear hp
  simp only [putD, foldl_nil, foldl_cons, getD_cons_zero, getD_cons_succ, Act.put, setIfInBounds_toArray, set_cons_zero, set_cons_succ]
  refine OpGoal.plain ?_
  go_wp2_with fail
  refine (AM1.out W (HD.out W hE)).mono ?_
  rintro e w' ⟨x, A, c, d, hR, hs, rfl, hX, hD', hg'⟩
  have hsz := HSZ.out W hE
  unfold Ex.cells
  go_wp2_with fail
  exact ⟨rfl, ⟨hg', fun _ => hD'⟩, x, A, c, d, rfl, hR, hs, exl_lo hX hsz⟩
 case o3 =>
  intro xv W hE _
  simp only [putD, List.foldl_nil, List.getD_cons_zero, List.getD_cons_succ]
  refine OpGoal.plain ?_
  go_wp2_with fail
  exact ⟨rfl, (DrS.refl b) _, rfl⟩
 case o4 =>
  intro xv W hE hp
  have r3 : xv 3 = _ := hp.1
  clear hp
  simp only [putD, foldl_nil, foldl_cons, getD_cons_zero, getD_cons_succ, Act.put, setIfInBounds_toArray, set_cons_zero, set_cons_succ]
  refine OpGoal.plain ?_
  go_wp2_with fail
  refine (DN.out 3 W (HD.out W hE) (by decide) (by decide)).mono ?_
  rintro e w' ⟨k, ka, kb, rfl, hD', hg⟩
  go_wp2_with fail
  exact ⟨rfl, ⟨hg, fun _ => hD'⟩, k, rfl, ka, kb⟩
 case o5 =>
  intro xv W hE hp
  obtain ⟨k4, r4, lo4, hi4⟩ := hp.1
  clear hp
  simp only [putD, foldl_nil, foldl_cons, getD_cons_zero, getD_cons_succ, Act.put, setIfInBounds_toArray, set_cons_zero, set_cons_succ]
  refine OpGoal.plain ?_
  go_wp2_with fail
  exact ⟨rfl, DrS.refl b _, 1 + k4, rfl, by omega, by omega⟩
 case o6 =>
  intro xv W hE hp
  obtain ⟨k5, r5, lo5, hi5⟩ := hp.1
  clear hp
  simp only [putD, foldl_nil, foldl_cons, getD_cons_zero, getD_cons_succ, Act.put, setIfInBounds_toArray, set_cons_zero, set_cons_succ]
  refine OpGoal.plain ?_
  go_wp2_with fail
  refine (NU.out k5 W).mono ?_
  rintro e w' ⟨rfl, hE9⟩
  unfold Ex.cells
  go_wp2_with fail
  exact ⟨rfl, DrS.ext hE9, numE k5, none, 0, 0, rfl, num_rt (by omega), Nat.le_of_eq (num_size _), ExL.nil _ _ _ _⟩
 case o7 =>
  intro xv W hE _
  simp only [putD, List.foldl_nil, List.getD_cons_zero, List.getD_cons_succ]
  refine OpGoal.plain ?_
  go_wp2_with fail
  exact ⟨rfl, (DrS.refl b) _, rfl⟩
 case o8 =>
  intro xv W hE hp
  have r7 : xv 7 = _ := hp.1
  clear hp
  simp only [putD, foldl_nil, foldl_cons, getD_cons_zero, getD_cons_succ, Act.put, setIfInBounds_toArray, set_cons_zero, set_cons_succ]
  refine OpGoal.plain ?_
  go_wp2_with fail
  refine (DN.out 4 W (HD.out W hE) (by decide) (by decide)).mono ?_
  rintro e w' ⟨k, ka, kb, rfl, hD', hg⟩
  go_wp2_with fail
  exact ⟨rfl, ⟨hg, fun _ => hD'⟩, k, rfl, ka, kb⟩
 case o9 =>
  intro xv W hE hp
  obtain ⟨k8, r8, lo8, hi8⟩ := hp.1
  clear hp
  simp only [putD, foldl_nil, foldl_cons, getD_cons_zero, getD_cons_succ, Act.put, setIfInBounds_toArray, set_cons_zero, set_cons_succ]
  refine OpGoal.plain ?_
  go_wp2_with fail
  exact ⟨rfl, DrS.refl b _, 1 + k8, rfl, by omega, by omega⟩
 case o10 =>
  intro xv W hE hp
  obtain ⟨k9, r9, lo9, hi9⟩ := hp.1
  clear hp
  simp only [putD, foldl_nil, foldl_cons, getD_cons_zero, getD_cons_succ, Act.put, setIfInBounds_toArray, set_cons_zero, set_cons_succ]
  refine OpGoal.plain ?_
  go_wp2_with fail
  refine (NU.out k9 W).mono ?_
  rintro e w' ⟨rfl, hE9⟩
  unfold Ex.cells
  go_wp2_with fail
  exact ⟨rfl, DrS.ext hE9, numE k9, none, 0, 0, rfl, num_rt (by omega), Nat.le_of_eq (num_size _), ExL.nil _ _ _ _⟩
 case o11 =>
  intro xv W hE hp
  have r0 : xv 0 = _ := hp.1
  obtain ⟨x2, A2, c2, d2, r2, hR2, hs2, hX2⟩ := hp.2.1
  obtain ⟨x6, A6, c6, d6, r6, hR6, hs6, hX6⟩ := hp.2.2.1
  obtain ⟨x10, A10, c10, d10, r10, hR10, hs10, hX10⟩ := hp.2.2.2.1
  clear hp
  simp only [putD, foldl_nil, foldl_cons, getD_cons_zero, getD_cons_succ, Act.put, setIfInBounds_toArray, set_cons_zero, set_cons_succ]
  refine OpGoal.plain ?_
  go_wp2_with fail
  exact ⟨rfl, DrS.refl b _, ⟨⟨[97, 108, 108], 0, yesE, x2, x6, x10⟩, none, A2, A6, A10, 0, c2, c6, c10⟩, d2 + d6 + d10, rfl, ⟨rfl, rfl, rfl, Mk1.of ⟨(by show (0 : Int) ≤ 0; decide), (by show (0 : Int) ≤ 1000; decide)⟩ yes_rt (by show yesE.size ≤ 60; decide) hR2 (Nat.le_trans hs2 (by decide)) hR6 (Nat.le_trans hs6 (by decide)) hR10 (Nat.le_trans hs10 (by decide))⟩, ⟨ExL.nil _ _ _ _, hX2.deep (by omega), hX6.deep (by omega), hX10.deep (by omega)⟩⟩
 case last =>
  intro xv W hE hp
  have r0 : xv 0 = _ := hp.1
  have r1 : xv 1 = _ := hp.2.1
  obtain ⟨x2, A2, c2, d2, r2, hR2, hs2, hX2⟩ := hp.2.2.1
  have r3 : xv 3 = _ := hp.2.2.2.1
  obtain ⟨k4, r4, lo4, hi4⟩ := hp.2.2.2.2.1
  obtain ⟨k5, r5, lo5, hi5⟩ := hp.2.2.2.2.2.1
  obtain ⟨x6, A6, c6, d6, r6, hR6, hs6, hX6⟩ := hp.2.2.2.2.2.2.1
  have r7 : xv 7 = _ := hp.2.2.2.2.2.2.2.1
  obtain ⟨k8, r8, lo8, hi8⟩ := hp.2.2.2.2.2.2.2.2.1
  obtain ⟨k9, r9, lo9, hi9⟩ := hp.2.2.2.2.2.2.2.2.2.1
  obtain ⟨x10, A10, c10, d10, r10, hR10, hs10, hX10⟩ := hp.2.2.2.2.2.2.2.2.2.2.1
  obtain ⟨u11, d11, r11, hP11, hk11⟩ := hp.2.2.2.2.2.2.2.2.2.2.2.1
  clear hp
  simp only [putD, List.foldl_nil, List.foldl_cons, List.getD_cons_zero, List.getD_cons_succ, Act.put, List.length_cons, List.length_nil, List.range_succ, List.range_zero, List.nil_append, List.cons_append, List.setIfInBounds_toArray, List.set_cons_zero, List.set_cons_succ]
  rw [r11]
  have HDW := HD.out W hE
  have HGW := HG.out W hE
  have HS4 := Lib.hid (MdSt.first HDW HGW hk11 (Mk.first hP11.1 hP11.2.1 hP11.2.2.1 hP11.2.2.2))
  clear HDW HGW hP11 hk11 hE HI HD HSZ HG hR2 hs2 hX2 hR6 hs6 hX6 hR10 hs10 hX10 lo4 hi4 lo5 hi5 lo8 hi8 lo9 hi9
  go_upto_region 4 with fail
  show Code.wp _ _ _ _ (W.alloc (.cells u11.cells.toArray 49))
  obtain ⟨w4, hw4⟩ : ∃ q, W.alloc (.cells u11.cells.toArray 49) = q := ⟨_, rfl⟩
  rw [hw4] at HS4 ⊢
  clear hw4 r0 r1 r2 r3 r4 r5 r6 r7 r8 r9 r10 r11
  go_wp2_with fail
  refine (DN.out 4 _ HS4.out.r (by decide) (by decide)).mono ?_
  rintro e w5 ⟨many, m0, m4, rfl, hD5, hg5⟩
  obtain ⟨m, rfl⟩ := Int.eq_ofNat_of_zero_le m0
  have HS5 := Lib.hid (HS4.out.draw hb1 hg5 hD5)
  clear hD5 hg5 HS4
  have hm4 : m < 4 := by omega
  go_wp2_with fail
  go_loopw [5, 7] (fun ov kv wr => ∃ (k : Nat) (us : List Rn) (d : Nat), k ≤ m ∧ kv = .int .i64 (k : Int) ∧ Hid (MdSt w1 wr b ov us d) ∧ us.length = k + 1) (fun _ kv _ => m - (intOf kv).toNat)
  case atStart => exact ⟨0, [u11], d11, Nat.zero_le _, rfl, HS5, rfl⟩
  case round =>
   obtain ⟨k, us, d, hk, rfl, HS, hlen⟩ := hrel
   have HLEN := Lib.hid hlen
   have hus4 : us.length ≤ 4 := by omega
   clear hlen
   obtain ⟨wo, hwo⟩ : ∃ q, q = wr := ⟨_, rfl⟩
   subst hwo
   obtain ⟨A0, c0, e, _⟩ := HS.out.o.form
   subst e
   by_cases hlt : k < m
   ·have t1 : decide (k < m) = true := by simpa using hlt
    have hk3 : k < 3 := by omega
    have hb2 : b < wo.heap.size := HS.out.r.lt
    have HD := Lib.hid (fun (V : World) (h : DrS b wo.drew V) => h.2 (HS.out.r.ext (Ext.drew wo)))
    have HSZ := Lib.hid (fun (V : World) (h : DrS b wo.drew V) => (show wo.heap.size ≤ V.heap.size from h.1.size))
    go_upto_region 8 with fail
    apply wp_region_rel (E := DrS b) (DrS.refl b) (@DrS.trans b) (l := [_, _, _, _, _, _, _, _, _, _, _, _, _, _, _, _, _]) (t := [_]) [some 34, some 35, some 36, some 37, some 38, some 39, some 40, some 41, some 42, some 43, some 44, some 45, some 46, some 47, some 48, some 49, some 8, none] [[], [], [0, 1], [2], [], [4], [5], [], [7], [], [9], [], [11], [], [13], [3, 6, 8, 10, 12, 14], [], [15, 16]] [17, 17, 17, 17, 17, 17, 17, 17, 17, 17, 17, 17, 17, 17, 17, 17, 17] [(strsP b (nmsL.drop 1) 3), eqr _, (atSP b (fun s => s = nmsL.getD (k + 1) [])), (strP b (fun s => s = nmsL.getD (k + 1) [])), eqr _, (numP b 0 3), (numP b 1 4), eqr _, (kidP b wo.heap.size hb2 2 (szC 2)), eqr _, (kidP b wo.heap.size hb2 1 (szA 2)), eqr _, (kidP b wo.heap.size hb2 1 (szA 1)), eqr _, (kidP b wo.heap.size hb2 1 (szA 1)), (rlvP b wo.heap.size hb2 (fun r => r.nm = nmsL.getD (k + 1) [] ∧ Mk1 r)), (zrP b wo.heap.size hb2)] (by kernel_rfl) (by kernel_rfl) ⟨?o0, ?o1, ?o2, ?o3, ?o4, ?o5, ?o6, ?o7, ?o8, ?o9, ?o10, ?o11, ?o12, ?o13, ?o14, ?o15, ?o16, trivial⟩ ?last
    case o0 =>
     intro xv V hE _
     simp only [putD, List.foldl_nil, List.getD_cons_zero]
     refine OpGoal.plain ?_
     go_wp2_with fail
     exact ⟨rfl, DrS.ext (Ext.alloc _ _), V.heap.size, rfl, by have := HSZ.out V hE; omega, by simp, fun j hj => by rw [World.cell?_alloc_new]; rcases (by omega : j = 0 ∨ j = 1 ∨ j = 2) with rfl | rfl | rfl <;> rfl⟩
    case o1 =>
     intro xv V hE _
     simp only [putD, List.foldl_nil, List.getD_cons_zero, List.getD_cons_succ]
     refine OpGoal.plain ?_
     go_wp2_with fail
     exact ⟨rfl, (DrS.refl b) _, rfl⟩
    case o2 =>
     intro xv V hE hp
     obtain ⟨g0, r0, lb0, lt0, hc0⟩ := hp.1
     have r1 : xv 1 = _ := hp.2.1
     clear hp
     simp only [putD, foldl_nil, foldl_cons, getD_cons_zero, getD_cons_succ, Act.put, setIfInBounds_toArray, set_cons_zero, set_cons_succ]
     refine OpGoal.plain ?_
     go_wp2_with fail
     exact ⟨rfl, DrS.refl b _, g0, k, nmsL.getD (k + 1) [], rfl, lb0, lt0, rfl, by rw [hc0 k hk3]; simp [List.getD_eq_getElem?_getD, Nat.add_comm]⟩
    case o3 =>
     intro xv V hE hp
     obtain ⟨g2, j2, s2, r2, lb2, lt2, hQ2, hc2⟩ := hp.1
     clear hp
     have HQ2 := Lib.hid hQ2
     clear hQ2
     simp only [putD, foldl_nil, foldl_cons, getD_cons_zero, getD_cons_succ, Act.put, setIfInBounds_toArray, set_cons_zero, set_cons_succ]
     refine OpGoal.plain ?_
     go_wp2_with fail
     exact ⟨rfl, DrS.refl b _, s2, rfl, HQ2.out⟩
    case o4 =>
     intro xv V hE _
     simp only [putD, List.foldl_nil, List.getD_cons_zero, List.getD_cons_succ]
     refine OpGoal.plain ?_
     go_wp2_with fail
     exact ⟨rfl, (DrS.refl b) _, rfl⟩
    case o5 =>
     intro xv V hE hp
     have r4 : xv 4 = _ := hp.1
     clear hp
     simp only [putD, foldl_nil, foldl_cons, getD_cons_zero, getD_cons_succ, Act.put, setIfInBounds_toArray, set_cons_zero, set_cons_succ]
     refine OpGoal.plain ?_
     go_wp2_with fail
     refine (DN.out 3 V (HD.out V hE) (by decide) (by decide)).mono ?_
     rintro e w' ⟨k, ka, kb, rfl, hD', hg⟩
     go_wp2_with fail
     exact ⟨rfl, ⟨hg, fun _ => hD'⟩, k, rfl, ka, kb⟩
    case o6 =>
     intro xv V hE hp
     obtain ⟨k5, r5, lo5, hi5⟩ := hp.1
     clear hp
     simp only [putD, foldl_nil, foldl_cons, getD_cons_zero, getD_cons_succ, Act.put, setIfInBounds_toArray, set_cons_zero, set_cons_succ]
     refine OpGoal.plain ?_
     go_wp2_with fail
     exact ⟨rfl, DrS.refl b _, 1 + k5, rfl, by omega, by omega⟩
    case o7 =>
     intro xv V hE _
     simp only [putD, List.foldl_nil, List.getD_cons_zero, List.getD_cons_succ]
     refine OpGoal.plain ?_
     go_wp2_with fail
     exact ⟨rfl, (DrS.refl b) _, rfl⟩
    case o8 =>
     intro xv V hE hp
     have r7 : xv 7 = _ := hp.1
     clear hp
     simp only [putD, foldl_nil, foldl_cons, getD_cons_zero, getD_cons_succ, Act.put, setIfInBounds_toArray, set_cons_zero, set_cons_succ]
     refine OpGoal.plain ?_
     go_wp2_with fail
     refine (CO2.out V (HD.out V hE)).mono ?_
     rintro e w' ⟨x, A, c, d, hR, hs, rfl, hX, hD', hg'⟩
     have hsz := HSZ.out V hE
     unfold Ex.cells
     go_wp2_with fail
     exact ⟨rfl, ⟨hg', fun _ => hD'⟩, x, A, c, d, rfl, hR, hs, exl_lo hX hsz⟩
    case o9 =>
     intro xv V hE _
     simp only [putD, List.foldl_nil, List.getD_cons_zero, List.getD_cons_succ]
     refine OpGoal.plain ?_
     go_wp2_with fail
     exact ⟨rfl, (DrS.refl b) _, rfl⟩
    case o10 =>
     intro xv V hE hp
     have r9 : xv 9 = _ := hp.1
     clear hp
     simp only [putD, foldl_nil, foldl_cons, getD_cons_zero, getD_cons_succ, Act.put, setIfInBounds_toArray, set_cons_zero, set_cons_succ]
     refine OpGoal.plain ?_
     go_wp2_with fail
     refine (AM2.out V (HD.out V hE)).mono ?_
     rintro e w' ⟨x, A, c, d, hR, hs, rfl, hX, hD', hg'⟩
     have hsz := HSZ.out V hE
     unfold Ex.cells
     go_wp2_with fail
     exact ⟨rfl, ⟨hg', fun _ => hD'⟩, x, A, c, d, rfl, hR, hs, exl_lo hX hsz⟩
    case o11 =>
     intro xv V hE _
     simp only [putD, List.foldl_nil, List.getD_cons_zero, List.getD_cons_succ]
     refine OpGoal.plain ?_
     go_wp2_with fail
     exact ⟨rfl, (DrS.refl b) _, rfl⟩
    case o12 =>
     intro xv V hE hp
     have r11 : xv 11 = _ := hp.1
     clear hp
     simp only [putD, foldl_nil, foldl_cons, getD_cons_zero, getD_cons_succ, Act.put, setIfInBounds_toArray, set_cons_zero, set_cons_succ]
     refine OpGoal.plain ?_
     go_wp2_with fail
     refine (AM1.out V (HD.out V hE)).mono ?_
     rintro e w' ⟨x, A, c, d, hR, hs, rfl, hX, hD', hg'⟩
     have hsz := HSZ.out V hE
     unfold Ex.cells
     go_wp2_with fail
     exact ⟨rfl, ⟨hg', fun _ => hD'⟩, x, A, c, d, rfl, hR, hs, exl_lo hX hsz⟩
    case o13 =>
     intro xv V hE _
     simp only [putD, List.foldl_nil, List.getD_cons_zero, List.getD_cons_succ]
     refine OpGoal.plain ?_
     go_wp2_with fail
     exact ⟨rfl, (DrS.refl b) _, rfl⟩
    case o14 =>
     intro xv V hE hp
     have r13 : xv 13 = _ := hp.1
     clear hp
     simp only [putD, foldl_nil, foldl_cons, getD_cons_zero, getD_cons_succ, Act.put, setIfInBounds_toArray, set_cons_zero, set_cons_succ]
     refine OpGoal.plain ?_
     go_wp2_with fail
     refine (AM1.out V (HD.out V hE)).mono ?_
     rintro e w' ⟨x, A, c, d, hR, hs, rfl, hX, hD', hg'⟩
     have hsz := HSZ.out V hE
     unfold Ex.cells
     go_wp2_with fail
     exact ⟨rfl, ⟨hg', fun _ => hD'⟩, x, A, c, d, rfl, hR, hs, exl_lo hX hsz⟩
    case o15 =>
     intro xv V hE hp
     obtain ⟨s3, r3, hQ3⟩ := hp.1
     obtain ⟨k6, r6, lo6, hi6⟩ := hp.2.1
     obtain ⟨x8, A8, c8, d8, r8, hR8, hs8, hX8⟩ := hp.2.2.1
     obtain ⟨x10, A10, c10, d10, r10, hR10, hs10, hX10⟩ := hp.2.2.2.1
     obtain ⟨x12, A12, c12, d12, r12, hR12, hs12, hX12⟩ := hp.2.2.2.2.1
     obtain ⟨x14, A14, c14, d14, r14, hR14, hs14, hX14⟩ := hp.2.2.2.2.2.1
     clear hp
     have HQ3 := Lib.hid hQ3
     clear hQ3
     simp only [putD, foldl_nil, foldl_cons, getD_cons_zero, getD_cons_succ, Act.put, setIfInBounds_toArray, set_cons_zero, set_cons_succ]
     refine OpGoal.plain ?_
     go_wp2_with fail
     exact ⟨rfl, DrS.refl b _, ⟨⟨s3, k6, x8, x10, x12, x14⟩, A8, A10, A12, A14, c8, c10, c12, c14⟩, d8 + d10 + d12 + d14, rfl, ⟨HQ3.out, Mk1.of ⟨(by omega : 0 ≤ k6), (by omega : k6 ≤ 1000)⟩ hR8 (Nat.le_trans hs8 (by decide)) hR10 (Nat.le_trans hs10 (by decide)) hR12 (Nat.le_trans hs12 (by decide)) hR14 (Nat.le_trans hs14 (by decide))⟩, ⟨hX8.deep (by omega), hX10.deep (by omega), hX12.deep (by omega), hX14.deep (by omega)⟩⟩
    case o16 =>
     intro xv V hE _
     simp only [putD, List.foldl_nil, List.getD_cons_zero, List.getD_cons_succ]
     refine OpGoal.plain ?_
     go_wp2_with fail
     exact ⟨rfl, DrS.ext (Ext.alloc _ _), V.heap.size, rfl, HSZ.out V hE, Go.heap_alloc_new _ _⟩
    case last =>
     intro xv V hE hp
     obtain ⟨g0, r0, lb0, lt0, hc0⟩ := hp.1
     have r1 : xv 1 = _ := hp.2.1
     obtain ⟨g2, j2, s2, r2, lb2, lt2, hQ2, hc2⟩ := hp.2.2.1
     obtain ⟨s3, r3, hQ3⟩ := hp.2.2.2.1
     have r4 : xv 4 = _ := hp.2.2.2.2.1
     obtain ⟨k5, r5, lo5, hi5⟩ := hp.2.2.2.2.2.1
     obtain ⟨k6, r6, lo6, hi6⟩ := hp.2.2.2.2.2.2.1
     have r7 : xv 7 = _ := hp.2.2.2.2.2.2.2.1
     obtain ⟨x8, A8, c8, d8, r8, hR8, hs8, hX8⟩ := hp.2.2.2.2.2.2.2.2.1
     have r9 : xv 9 = _ := hp.2.2.2.2.2.2.2.2.2.1
     obtain ⟨x10, A10, c10, d10, r10, hR10, hs10, hX10⟩ := hp.2.2.2.2.2.2.2.2.2.2.1
     have r11 : xv 11 = _ := hp.2.2.2.2.2.2.2.2.2.2.2.1
     obtain ⟨x12, A12, c12, d12, r12, hR12, hs12, hX12⟩ := hp.2.2.2.2.2.2.2.2.2.2.2.2.1
     have r13 : xv 13 = _ := hp.2.2.2.2.2.2.2.2.2.2.2.2.2.1
     obtain ⟨x14, A14, c14, d14, r14, hR14, hs14, hX14⟩ := hp.2.2.2.2.2.2.2.2.2.2.2.2.2.2.1
     obtain ⟨u15, d15, r15, hP15, hk15⟩ := hp.2.2.2.2.2.2.2.2.2.2.2.2.2.2.2.1
     obtain ⟨g16, r16, lo16, hz16⟩ := hp.2.2.2.2.2.2.2.2.2.2.2.2.2.2.2.2.1
     clear hp
     simp only [putD, List.foldl_nil, List.foldl_cons, List.getD_cons_zero, List.getD_cons_succ, Act.put, List.length_cons, List.length_nil, List.range_succ, List.range_zero, List.nil_append, List.cons_append, List.setIfInBounds_toArray, List.set_cons_zero, List.set_cons_succ]
     rw [r15, r16]
     have hgV : wo.grownBy V (some b) := grown_trans (grown_of (Ext.drew wo) _) hE.1
     have hDV := HD.out V hE
     have hkn := kids_ne hz16 hP15.2 hk15
     have hltg : g16 < V.heap.size := (Array.getElem?_eq_some_iff.1 hz16).1
     have HDV := Lib.hid hDV
     have HGV := Lib.hid hgV
     have HKN := Lib.hid hkn
     have HP15 := Lib.hid hP15
     clear hE hDV hgV hkn hk15 hP15 HD HSZ lb0 lt0 hc0 lb2 lt2 hQ2 hc2 hQ3 hR8 hs8 hX8 hR10 hs10 hX10 hR12 hs12 hX12 hR14 hs14 hX14 lo5 hi5 lo6 hi6
     go_upto_region 9 with (refine store_Rb g16 zero30.toList u15 hz16 rfl rfl _ _ rfl rfl rfl ?_; intro wS hBS hgS)
     have HGS := Lib.hid (grown_fresh HGV.out lo16 hgS)
     have HDS := Lib.hid (HDV.out.own hgS fun g e => by simp only [Option.some.injEq] at e; omega)
     have HK : Hid (u15.kids wS (fun k => wo.heap.size ≤ k ∧ k < wS.heap.size) d15) := Lib.hid ((HKN.out.keep fun k hk o => grown_cell hgS hk.1.2 (by have := hk.2; simp; omega) o).more fun k hk => ⟨hk.1.1, Nat.lt_of_lt_of_le hk.1.2 hgS.size⟩)
     have hrx := hBS.range
     unfold Rn.cells at hrx
     have HOWN : Hid (OwnR (wS.alloc (.cells u15.cells.toArray 49)) w1.heap.size (.slice A0 us.length c0) us) := Lib.hid ((HS.out.o.keep HGS.out (by by_cases e : (Value.slice A0 us.length c0).ownBlock = none; exact .inl e; exact .inr (fun h => by have := (HS.out.o.lt b h).1; omega))).ext (Ext.alloc _ _))
     have HCG : Hid (∀ (j : Nat) (t : Rn), [u15][j]? = some t → (wS.alloc (.cells u15.cells.toArray 49)).rangeAt wS.heap.size (0 + j * 30) t.cells) := Lib.hid (fun j t ht => by
      match j, ht with
      | 0, ht => simp only [List.getElem?_cons_zero, Option.some.injEq] at ht; subst ht; exact range_new wS u15.cells _
      | j + 1, ht => simp at ht)
     have hu2 : us.length + [u15].length < 4294967296 := by simp; omega
     have hb3 : w1.heap.size ≤ (wS.alloc (.cells u15.cells.toArray 49)).heap.size := Nat.le_trans HS.out.g.size (Nat.le_trans HGS.out.size (by simp))
     clear hz16 HKN HGV HDV hgS hBS
     go_wp2_with (first | (refine load_R rfl _ rfl g16 0 _ hrx rfl rfl ?_) | (at_builtin; refine app_R rfl 50 52 rfl w1.heap.size (.slice A0 us.length c0) us rfl HOWN.out wS.heap.size 0 1 [u15] rfl HCG.out hu2 hb3 ?_; intro v' wz ho hgz hnz))
     have HE5 : Ext wS (wS.alloc (.cells u15.cells.toArray 49)) := Ext.alloc _ _
     have HKF := (HK.out.keep (w' := wS.alloc (.cells u15.cells.toArray 49)) (fun b hb o => HE5.old (p := ⟨b, o, none⟩) hb.2)).more (S' := fun k => wo.heap.size ≤ k ∧ k < (wS.alloc (.cells u15.cells.toArray 49)).heap.size) (fun b hb => ⟨hb.1, Nat.lt_of_lt_of_le hb.2 HE5.sz⟩)
     have hmk : Mk ((us ++ [u15]).map (·.r)) := by
      rw [List.map_append]
      exact HS.out.m.snoc (r := u15.r) (by rw [List.length_map, HLEN.out]; omega) (by rw [List.length_map, HLEN.out]; exact HP15.out.1) HP15.out.2
     have HNX := Lib.hid (HS.out.next hb1 (grown_trans HGS.out (grown_of HE5 _)) (HDS.out.ext HE5) (Nat.le_add_right d d15) (HKF.deep (Nat.le_add_left _ _)) (Nat.le_refl _) hmk ho hgz hnz)
     clear HE5 HKF hmk ho hgz hnz hrx HOWN HCG hu2 hb3 HK HGS HDS HS
     go_roundw
     case rel => exact ⟨k + 1, us ++ [u15], _, by omega, by go_num, HNX, by have := HLEN.out; simp; omega⟩
     case measure => simp [intOf]; omega
   ·have t1 : decide (k < m) = false := by simpa using hlt
    clear hk hlt
    go_wp2_with fail
    go_ret
    exact HS.out.fin HE1.out HBW.out
end Go.Proofs.YtmiencglfhpmeaaGreatDoor
