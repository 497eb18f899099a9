/- Environments that numbers make: the contract of the reference's Env (printed by gen_uf.py). -/
import Derived.Test.YtmiencglfhpmeaaGreatDoorMQUd
import Derived.Test.YtmiencglfhpmeaaGreatDoorMQXu
set_option linter.unusedSimpArgs false
set_option linter.unusedVariables false
namespace Go.Proofs.YtmiencglfhpmeaaGreatDoor
open List (foldl_nil foldl_cons getD_cons_zero getD_cons_succ setIfInBounds_toArray set_cons_zero set_cons_succ)
open Go.RowKit Hach
def boolP (b : Nat) : SPr (DrS b) := ⟨fun v _ => ∃ q : Bool, v = .bool q, fun h _ => h⟩
def evVP (b : Nat) : SPr (DrS b) := ⟨fun v _ => ∃ x : En, v = .agg #[.int .i64 x.kind, .string ⟨x.cls.toArray⟩, .string ⟨x.name.toArray⟩, .int .i64 x.weight, .int .i64 x.level, .bool x.stairs, .int .i64 x.scale, .int .i64 x.hour, .int .i64 x.reader], fun h _ => h⟩
def EvR (w : World) (e : Ending) (w' : World) : Prop := ∃ x : En, e = .returned x.v ∧ Ext w w'
set_option maxRecDepth 100000 in
set_option maxHeartbeats 4000000 in
theorem rEnv_any (A : Option Addr) (n c : Nat) (w : World) (hL : LI w A n) : Calls Tryz.prog 12 #[.slice A n c] w (EvR w) := by
 have hz := EvZ.new w
 obtain ⟨w0, hw0⟩ : ∃ w0, w.alloc (.cells Ev_zero 28) = w0 := ⟨_, rfl⟩
 have hE0 : Ext w w0 := by rw [← hw0]; exact Ext.alloc _ _
 have hs0 : w0.heap.size = w.heap.size + 1 := by rw [← hw0]; simp
 rw [hw0] at hz
 have HW := Lib.hid hw0
 have hs0' : w.heap.size + 1 ≤ w0.heap.size := by omega
 have hs0'' : w0.heap.size ≤ w.heap.size + 1 := by omega
 have hD1 := DrA.new c (hL.ext hE0)
 have hE1 : Ext w0 (w0.alloc (.cells #[.slice A n c, .int .i64 0] 86)) := Ext.alloc _ _
 have hz1 := hz.ext hE1
 unfold Ev_zero at HW
 clear hw0 hs0 hL
 go_enter Tryz.func12, Tryz.ntmps12
 go_upto_region 1 with fail
 rw [HW.out]
 go_upto_region 2 with fail
 obtain ⟨b, hb⟩ : ∃ b, w0.heap.size = b := ⟨_, rfl⟩
 obtain ⟨w1, hw1⟩ : ∃ w1, w0.alloc (.cells #[.slice A n c, .int .i64 0] 86) = w1 := ⟨_, rfl⟩
 have hs1 : w1.heap.size = w0.heap.size + 1 := by rw [← hw1]; simp
 rw [hw1] at hE1 hz1 hD1 ⊢
 rw [hb] at hD1 hs1 hs0' hs0'' ⊢
 have HE01 := Lib.hid (hE0.trans hE1)
 have hs1' : b < w1.heap.size := by omega
 clear hw1 hE1 hE0 hz hb hs1
 have DN := Lib.hid (fun (m : Int) (W : World) (h : DrA W b) (h1 : 0 < m) (h2 : m < 4294967296) => draw_any m b W h h1 h2)
 have HD := Lib.hid (fun (V : World) (h : DrS b w1.drew V) => h.2 (hD1.ext (Ext.drew _)))
 have HSZ := Lib.hid (fun (V : World) (h : DrS b w1.drew V) => (Nat.lt_of_lt_of_le hs1' h.1.size : b < V.heap.size))
 unfold dp at DN
 apply wp_region_rel (E := DrS b) (DrS.refl b) (@DrS.trans b) (l := [_, _, _, _, _, _, _, _, _, _, _, _, _, _, _, _, _, _, _, _, _, _, _, _, _, _, _, _, _, _]) (t := [_]) [some 7, some 8, some 9, some 10, some 11, some 12, some 13, some 14, some 15, some 16, some 17, some 18, some 19, some 20, some 21, some 22, some 23, some 24, some 25, some 26, some 27, some 28, some 29, some 30, some 31, some 32, some 33, some 34, some 35, some 36, none] [[], [0], [1], [], [], [4], [3, 5], [6], [], [], [9], [8, 10], [11], [], [13], [14], [], [16], [17], [], [19], [20], [], [22], [], [24], [], [26], [27], [2, 7, 12, 15, 18, 21, 23, 25, 28], [29]] [30, 30, 30, 30, 30, 30, 30, 30, 30, 30, 30, 30, 30, 30, 30, 30, 30, 30, 30, 30, 30, 30, 30, 30, 30, 30, 30, 30, 30, 30] [eqr _, (numP b 0 3), (numP b 1 4), (strsP b [[112, 97, 114, 107], [112, 97, 116, 104], [116, 114, 101, 101], [112, 111, 110, 100]] 4), eqr _, (numP b 0 4), (atSP b (fun _ => True)), (strP b (fun _ => True)), (strsP b [[], [71, 114, 101, 101, 110]] 2), eqr _, (numP b 0 2), (atSP b (fun _ => True)), (strP b (fun _ => True)), eqr _, (numP b 0 25), (numP b 1 26), eqr _, (numP b 0 3), (numP b (-1) 2), eqr _, (numP b 0 2), (boolP b), eqr _, (numP b 0 120), eqr _, (numP b 0 24), eqr _, (numP b 0 3), (numP b 1 4), (evVP b)] (by kernel_rfl) (by kernel_rfl) ⟨?o0, ?o1, ?o2, ?o3, ?o4, ?o5, ?o6, ?o7, ?o8, ?o9, ?o10, ?o11, ?o12, ?o13, ?o14, ?o15, ?o16, ?o17, ?o18, ?o19, ?o20, ?o21, ?o22, ?o23, ?o24, ?o25, ?o26, ?o27, ?o28, ?o29, trivial⟩ ?last
 case o0 =>
  intro xv W hE _
  simp only [putD, List.foldl_nil, List.getD_cons_zero]
  refine OpGoal.plain ?_
  go_wp2_with fail
  exact ⟨rfl, (DrS.refl b) _, rfl⟩
 case o1 =>
  intro xv W hE hp
  have r0 : xv 0 = _ := hp.1
  clear hp
  simp only [putD, foldl_nil, foldl_cons, getD_cons_zero, getD_cons_succ, Act.put, setIfInBounds_toArray, set_cons_zero, set_cons_succ]
  refine OpGoal.plain ?_
  go_wp2_with fail
  refine (DN.out 3 W (HD.out W hE) (by decide) (by decide)).mono ?_
  rintro e w' ⟨k, ka, kb, rfl, hD', hg⟩
  go_wp2_with fail
  exact ⟨rfl, ⟨hg, fun _ => hD'⟩, k, rfl, ka, kb⟩
 case o2 =>
  intro xv W hE hp
  obtain ⟨k1, r1, lo1, hi1⟩ := hp.1
  clear hp
  simp only [putD, foldl_nil, foldl_cons, getD_cons_zero, getD_cons_succ, Act.put, setIfInBounds_toArray, set_cons_zero, set_cons_succ]
  refine OpGoal.plain ?_
  go_wp2_with fail
  exact ⟨rfl, DrS.refl b _, 1 + k1, rfl, by omega, by omega⟩
 case o3 =>
  intro xv W hE _
  simp only [putD, List.foldl_nil, List.getD_cons_zero, List.getD_cons_succ]
  refine OpGoal.plain ?_
  go_wp2_with fail
  exact ⟨rfl, DrS.ext (Ext.alloc _ _), W.heap.size, rfl, HSZ.out W hE, by simp, fun j hj => by rw [World.cell?_alloc_new]; rcases (by omega : j = 0 ∨ j = 1 ∨ j = 2 ∨ j = 3) with rfl | rfl | rfl | rfl <;> rfl⟩
 case o4 =>
  intro xv W hE _
  simp only [putD, List.foldl_nil, List.getD_cons_zero, List.getD_cons_succ]
  refine OpGoal.plain ?_
  go_wp2_with fail
  exact ⟨rfl, (DrS.refl b) _, rfl⟩
 case o5 =>
  intro xv W hE hp
  have r4 : xv 4 = _ := hp.1
  clear hp
  simp only [putD, foldl_nil, foldl_cons, getD_cons_zero, getD_cons_succ, Act.put, setIfInBounds_toArray, set_cons_zero, set_cons_succ]
  refine OpGoal.plain ?_
  go_wp2_with fail
  refine (DN.out 4 W (HD.out W hE) (by decide) (by decide)).mono ?_
  rintro e w' ⟨k, ka, kb, rfl, hD', hg⟩
  go_wp2_with fail
  exact ⟨rfl, ⟨hg, fun _ => hD'⟩, k, rfl, ka, kb⟩
 case o6 =>
  intro xv W hE hp
  obtain ⟨g3, r3, lb3, lt3, hc3⟩ := hp.1
  obtain ⟨k5, r5, lo5, hi5⟩ := hp.2.1
  clear hp
  obtain ⟨jj, rfl⟩ : ∃ jj : Nat, k5 = (jj : Int) := ⟨k5.toNat, by omega⟩
  simp only [putD, foldl_nil, foldl_cons, getD_cons_zero, getD_cons_succ, Act.put, setIfInBounds_toArray, set_cons_zero, set_cons_succ]
  refine OpGoal.plain ?_
  go_wp2_with fail
  exact ⟨rfl, DrS.refl b _, g3, jj, _, rfl, lb3, lt3, trivial, hc3 jj (by omega)⟩
 case o7 =>
  intro xv W hE hp
  obtain ⟨g6, j6, s6, r6, lb6, lt6, hQ6, hc6⟩ := hp.1
  clear hp
  simp only [putD, foldl_nil, foldl_cons, getD_cons_zero, getD_cons_succ, Act.put, setIfInBounds_toArray, set_cons_zero, set_cons_succ]
  refine OpGoal.plain ?_
  go_wp2_with fail
  exact ⟨rfl, DrS.refl b _, s6, rfl, trivial⟩
 case o8 =>
  intro xv W hE _
  simp only [putD, List.foldl_nil, List.getD_cons_zero, List.getD_cons_succ]
  refine OpGoal.plain ?_
  go_wp2_with fail
  exact ⟨rfl, DrS.ext (Ext.alloc _ _), W.heap.size, rfl, HSZ.out W hE, by simp, fun j hj => by rw [World.cell?_alloc_new]; rcases (by omega : j = 0 ∨ j = 1) with rfl | rfl <;> rfl⟩
 case o9 =>
  intro xv W hE _
  simp only [putD, List.foldl_nil, List.getD_cons_zero, List.getD_cons_succ]
  refine OpGoal.plain ?_
  go_wp2_with fail
  exact ⟨rfl, (DrS.refl b) _, rfl⟩
 case o10 =>
  intro xv W hE hp
  have r9 : xv 9 = _ := hp.1
  clear hp
  simp only [putD, foldl_nil, foldl_cons, getD_cons_zero, getD_cons_succ, Act.put, setIfInBounds_toArray, set_cons_zero, set_cons_succ]
  refine OpGoal.plain ?_
  go_wp2_with fail
  refine (DN.out 2 W (HD.out W hE) (by decide) (by decide)).mono ?_
  rintro e w' ⟨k, ka, kb, rfl, hD', hg⟩
  go_wp2_with fail
  exact ⟨rfl, ⟨hg, fun _ => hD'⟩, k, rfl, ka, kb⟩
 case o11 =>
  intro xv W hE hp
  obtain ⟨g8, r8, lb8, lt8, hc8⟩ := hp.1
  obtain ⟨k10, r10, lo10, hi10⟩ := hp.2.1
  clear hp
  obtain ⟨jj, rfl⟩ : ∃ jj : Nat, k10 = (jj : Int) := ⟨k10.toNat, by omega⟩
  simp only [putD, foldl_nil, foldl_cons, getD_cons_zero, getD_cons_succ, Act.put, setIfInBounds_toArray, set_cons_zero, set_cons_succ]
  refine OpGoal.plain ?_
  go_wp2_with fail
  exact ⟨rfl, DrS.refl b _, g8, jj, _, rfl, lb8, lt8, trivial, hc8 jj (by omega)⟩
 case o12 =>
  intro xv W hE hp
  obtain ⟨g11, j11, s11, r11, lb11, lt11, hQ11, hc11⟩ := hp.1
  clear hp
  simp only [putD, foldl_nil, foldl_cons, getD_cons_zero, getD_cons_succ, Act.put, setIfInBounds_toArray, set_cons_zero, set_cons_succ]
  refine OpGoal.plain ?_
  go_wp2_with fail
  exact ⟨rfl, DrS.refl b _, s11, rfl, trivial⟩
 case o13 =>
  intro xv W hE _
  simp only [putD, List.foldl_nil, List.getD_cons_zero, List.getD_cons_succ]
  refine OpGoal.plain ?_
  go_wp2_with fail
  exact ⟨rfl, (DrS.refl b) _, rfl⟩
 case o14 =>
  intro xv W hE hp
  have r13 : xv 13 = _ := hp.1
  clear hp
  simp only [putD, foldl_nil, foldl_cons, getD_cons_zero, getD_cons_succ, Act.put, setIfInBounds_toArray, set_cons_zero, set_cons_succ]
  refine OpGoal.plain ?_
  go_wp2_with fail
  refine (DN.out 25 W (HD.out W hE) (by decide) (by decide)).mono ?_
  rintro e w' ⟨k, ka, kb, rfl, hD', hg⟩
  go_wp2_with fail
  exact ⟨rfl, ⟨hg, fun _ => hD'⟩, k, rfl, ka, kb⟩
 case o15 =>
  intro xv W hE hp
  obtain ⟨k14, r14, lo14, hi14⟩ := hp.1
  clear hp
  simp only [putD, foldl_nil, foldl_cons, getD_cons_zero, getD_cons_succ, Act.put, setIfInBounds_toArray, set_cons_zero, set_cons_succ]
  refine OpGoal.plain ?_
  go_wp2_with fail
  exact ⟨rfl, DrS.refl b _, 1 + k14, rfl, by omega, by omega⟩
 case o16 =>
  intro xv W hE _
  simp only [putD, List.foldl_nil, List.getD_cons_zero, List.getD_cons_succ]
  refine OpGoal.plain ?_
  go_wp2_with fail
  exact ⟨rfl, (DrS.refl b) _, rfl⟩
 case o17 =>
  intro xv W hE hp
  have r16 : xv 16 = _ := hp.1
  clear hp
  simp only [putD, foldl_nil, foldl_cons, getD_cons_zero, getD_cons_succ, Act.put, setIfInBounds_toArray, set_cons_zero, set_cons_succ]
  refine OpGoal.plain ?_
  go_wp2_with fail
  refine (DN.out 3 W (HD.out W hE) (by decide) (by decide)).mono ?_
  rintro e w' ⟨k, ka, kb, rfl, hD', hg⟩
  go_wp2_with fail
  exact ⟨rfl, ⟨hg, fun _ => hD'⟩, k, rfl, ka, kb⟩
 case o18 =>
  intro xv W hE hp
  obtain ⟨k17, r17, lo17, hi17⟩ := hp.1
  clear hp
  simp only [putD, foldl_nil, foldl_cons, getD_cons_zero, getD_cons_succ, Act.put, setIfInBounds_toArray, set_cons_zero, set_cons_succ]
  refine OpGoal.plain ?_
  go_wp2_with fail
  exact ⟨rfl, DrS.refl b _, k17 - 1, rfl, by omega, by omega⟩
 case o19 =>
  intro xv W hE _
  simp only [putD, List.foldl_nil, List.getD_cons_zero, List.getD_cons_succ]
  refine OpGoal.plain ?_
  go_wp2_with fail
  exact ⟨rfl, (DrS.refl b) _, rfl⟩
 case o20 =>
  intro xv W hE hp
  have r19 : xv 19 = _ := hp.1
  clear hp
  simp only [putD, foldl_nil, foldl_cons, getD_cons_zero, getD_cons_succ, Act.put, setIfInBounds_toArray, set_cons_zero, set_cons_succ]
  refine OpGoal.plain ?_
  go_wp2_with fail
  refine (DN.out 2 W (HD.out W hE) (by decide) (by decide)).mono ?_
  rintro e w' ⟨k, ka, kb, rfl, hD', hg⟩
  go_wp2_with fail
  exact ⟨rfl, ⟨hg, fun _ => hD'⟩, k, rfl, ka, kb⟩
 case o21 =>
  intro xv W hE hp
  obtain ⟨k20, r20, lo20, hi20⟩ := hp.1
  clear hp
  simp only [putD, foldl_nil, foldl_cons, getD_cons_zero, getD_cons_succ, Act.put, setIfInBounds_toArray, set_cons_zero, set_cons_succ]
  refine OpGoal.plain ?_
  go_wp2_with fail
  exact ⟨rfl, DrS.refl b _, _, rfl⟩
 case o22 =>
  intro xv W hE _
  simp only [putD, List.foldl_nil, List.getD_cons_zero, List.getD_cons_succ]
  refine OpGoal.plain ?_
  go_wp2_with fail
  exact ⟨rfl, (DrS.refl b) _, rfl⟩
 case o23 =>
  intro xv W hE hp
  have r22 : xv 22 = _ := hp.1
  clear hp
  simp only [putD, foldl_nil, foldl_cons, getD_cons_zero, getD_cons_succ, Act.put, setIfInBounds_toArray, set_cons_zero, set_cons_succ]
  refine OpGoal.plain ?_
  go_wp2_with fail
  refine (DN.out 120 W (HD.out W hE) (by decide) (by decide)).mono ?_
  rintro e w' ⟨k, ka, kb, rfl, hD', hg⟩
  go_wp2_with fail
  exact ⟨rfl, ⟨hg, fun _ => hD'⟩, k, rfl, ka, kb⟩
 case o24 =>
  intro xv W hE _
  simp only [putD, List.foldl_nil, List.getD_cons_zero, List.getD_cons_succ]
  refine OpGoal.plain ?_
  go_wp2_with fail
  exact ⟨rfl, (DrS.refl b) _, rfl⟩
 case o25 =>
  intro xv W hE hp
  have r24 : xv 24 = _ := hp.1
  clear hp
  simp only [putD, foldl_nil, foldl_cons, getD_cons_zero, getD_cons_succ, Act.put, setIfInBounds_toArray, set_cons_zero, set_cons_succ]
  refine OpGoal.plain ?_
  go_wp2_with fail
  refine (DN.out 24 W (HD.out W hE) (by decide) (by decide)).mono ?_
  rintro e w' ⟨k, ka, kb, rfl, hD', hg⟩
  go_wp2_with fail
  exact ⟨rfl, ⟨hg, fun _ => hD'⟩, k, rfl, ka, kb⟩
 case o26 =>
  intro xv W hE _
  simp only [putD, List.foldl_nil, List.getD_cons_zero, List.getD_cons_succ]
  refine OpGoal.plain ?_
  go_wp2_with fail
  exact ⟨rfl, (DrS.refl b) _, rfl⟩
 case o27 =>
  intro xv W hE hp
  have r26 : xv 26 = _ := hp.1
  clear hp
  simp only [putD, foldl_nil, foldl_cons, getD_cons_zero, getD_cons_succ, Act.put, setIfInBounds_toArray, set_cons_zero, set_cons_succ]
  refine OpGoal.plain ?_
  go_wp2_with fail
  refine (DN.out 3 W (HD.out W hE) (by decide) (by decide)).mono ?_
  rintro e w' ⟨k, ka, kb, rfl, hD', hg⟩
  go_wp2_with fail
  exact ⟨rfl, ⟨hg, fun _ => hD'⟩, k, rfl, ka, kb⟩
 case o28 =>
  intro xv W hE hp
  obtain ⟨k27, r27, lo27, hi27⟩ := hp.1
  clear hp
  simp only [putD, foldl_nil, foldl_cons, getD_cons_zero, getD_cons_succ, Act.put, setIfInBounds_toArray, set_cons_zero, set_cons_succ]
  refine OpGoal.plain ?_
  go_wp2_with fail
  exact ⟨rfl, DrS.refl b _, 1 + k27, rfl, by omega, by omega⟩
 case o29 =>
  intro xv W hE hp
  obtain ⟨k2, r2, lo2, hi2⟩ := hp.1
  obtain ⟨s7, r7, hQ7⟩ := hp.2.1
  obtain ⟨s12, r12, hQ12⟩ := hp.2.2.1
  obtain ⟨k15, r15, lo15, hi15⟩ := hp.2.2.2.1
  obtain ⟨k18, r18, lo18, hi18⟩ := hp.2.2.2.2.1
  obtain ⟨q21, r21⟩ := hp.2.2.2.2.2.1
  obtain ⟨k23, r23, lo23, hi23⟩ := hp.2.2.2.2.2.2.1
  obtain ⟨k25, r25, lo25, hi25⟩ := hp.2.2.2.2.2.2.2.1
  obtain ⟨k28, r28, lo28, hi28⟩ := hp.2.2.2.2.2.2.2.2.1
  clear hp
  simp only [putD, foldl_nil, foldl_cons, getD_cons_zero, getD_cons_succ, Act.put, setIfInBounds_toArray, set_cons_zero, set_cons_succ]
  refine OpGoal.plain ?_
  go_wp2_with fail
  exact ⟨rfl, DrS.refl b _, ⟨k2, s7, s12, k15, k18, q21, k23, k25, k28⟩, rfl⟩
 case last =>
  intro xv W hE hp
  have r0 : xv 0 = _ := hp.1
  obtain ⟨k1, r1, lo1, hi1⟩ := hp.2.1
  obtain ⟨k2, r2, lo2, hi2⟩ := hp.2.2.1
  obtain ⟨g3, r3, lb3, lt3, hc3⟩ := hp.2.2.2.1
  have r4 : xv 4 = _ := hp.2.2.2.2.1
  obtain ⟨k5, r5, lo5, hi5⟩ := hp.2.2.2.2.2.1
  obtain ⟨g6, j6, s6, r6, lb6, lt6, hQ6, hc6⟩ := hp.2.2.2.2.2.2.1
  obtain ⟨s7, r7, hQ7⟩ := hp.2.2.2.2.2.2.2.1
  obtain ⟨g8, r8, lb8, lt8, hc8⟩ := hp.2.2.2.2.2.2.2.2.1
  have r9 : xv 9 = _ := hp.2.2.2.2.2.2.2.2.2.1
  obtain ⟨k10, r10, lo10, hi10⟩ := hp.2.2.2.2.2.2.2.2.2.2.1
  obtain ⟨g11, j11, s11, r11, lb11, lt11, hQ11, hc11⟩ := hp.2.2.2.2.2.2.2.2.2.2.2.1
  obtain ⟨s12, r12, hQ12⟩ := hp.2.2.2.2.2.2.2.2.2.2.2.2.1
  have r13 : xv 13 = _ := hp.2.2.2.2.2.2.2.2.2.2.2.2.2.1
  obtain ⟨k14, r14, lo14, hi14⟩ := hp.2.2.2.2.2.2.2.2.2.2.2.2.2.2.1
  obtain ⟨k15, r15, lo15, hi15⟩ := hp.2.2.2.2.2.2.2.2.2.2.2.2.2.2.2.1
  have r16 : xv 16 = _ := hp.2.2.2.2.2.2.2.2.2.2.2.2.2.2.2.2.1
  obtain ⟨k17, r17, lo17, hi17⟩ := hp.2.2.2.2.2.2.2.2.2.2.2.2.2.2.2.2.2.1
  obtain ⟨k18, r18, lo18, hi18⟩ := hp.2.2.2.2.2.2.2.2.2.2.2.2.2.2.2.2.2.2.1
  have r19 : xv 19 = _ := hp.2.2.2.2.2.2.2.2.2.2.2.2.2.2.2.2.2.2.2.1
  obtain ⟨k20, r20, lo20, hi20⟩ := hp.2.2.2.2.2.2.2.2.2.2.2.2.2.2.2.2.2.2.2.2.1
  obtain ⟨q21, r21⟩ := hp.2.2.2.2.2.2.2.2.2.2.2.2.2.2.2.2.2.2.2.2.2.1
  have r22 : xv 22 = _ := hp.2.2.2.2.2.2.2.2.2.2.2.2.2.2.2.2.2.2.2.2.2.2.1
  obtain ⟨k23, r23, lo23, hi23⟩ := hp.2.2.2.2.2.2.2.2.2.2.2.2.2.2.2.2.2.2.2.2.2.2.2.1
  have r24 : xv 24 = _ := hp.2.2.2.2.2.2.2.2.2.2.2.2.2.2.2.2.2.2.2.2.2.2.2.2.1
  obtain ⟨k25, r25, lo25, hi25⟩ := hp.2.2.2.2.2.2.2.2.2.2.2.2.2.2.2.2.2.2.2.2.2.2.2.2.2.1
  have r26 : xv 26 = _ := hp.2.2.2.2.2.2.2.2.2.2.2.2.2.2.2.2.2.2.2.2.2.2.2.2.2.2.1
  obtain ⟨k27, r27, lo27, hi27⟩ := hp.2.2.2.2.2.2.2.2.2.2.2.2.2.2.2.2.2.2.2.2.2.2.2.2.2.2.2.1
  obtain ⟨k28, r28, lo28, hi28⟩ := hp.2.2.2.2.2.2.2.2.2.2.2.2.2.2.2.2.2.2.2.2.2.2.2.2.2.2.2.2.1
  obtain ⟨x, r29⟩ := hp.2.2.2.2.2.2.2.2.2.2.2.2.2.2.2.2.2.2.2.2.2.2.2.2.2.2.2.2.2.1
  clear hp
  simp only [putD, List.foldl_nil, List.foldl_cons, List.getD_cons_zero, List.getD_cons_succ, Act.put, List.length_cons, List.length_nil, List.range_succ, List.range_zero, List.nil_append, List.cons_append, List.setIfInBounds_toArray, List.set_cons_zero, List.set_cons_succ]
  have hE2 : Ext w W := ext_fresh (HE01.out.trans (Ext.drew w1)) hE.1 (by omega)
  have hzW : EvZ W w.heap.size := (hz1.ext (Ext.drew w1)).own hE.1 (by simp; omega)
  rw [r29]
  have hGf := setEv_grown W w.heap.size x
  have hEf : Ext w (setEv W w.heap.size x) := Below.trans hE2 (below_row' hGf hE2.sz (fun g e => by simp only [Option.some.injEq] at e; omega))
  have HEf := Lib.hid hEf
  have HZb := Lib.hid hzW
  obtain ⟨u0, u1, u2, u3, u4, u5, u6, u7, u8⟩ := hzW.cells
  obtain ⟨f0, f1, f2, f3, f4, f5, f6, f7, f8⟩ := hzW.free
  clear hGf hEf hE2 hE hzW HD HSZ hD1 hz1 HE01
  go_wp2_with fail
  exact finEvZ rfl x HZb.out rfl ⟨x, rfl, HEf.out⟩
end Go.Proofs.YtmiencglfhpmeaaGreatDoor
