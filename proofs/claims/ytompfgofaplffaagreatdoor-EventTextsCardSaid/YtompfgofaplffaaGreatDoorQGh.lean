/- event.compare; events put in order. -/
import Derived.Test.YtompfgofaplffaaGreatDoorQFc
import Derived.Deep.Upon
import Derived.Test.YtompfgofaplffaaGreatDoorQEq
set_option linter.unusedSimpArgs false
set_option linter.unusedVariables false
namespace Go.Proofs.YtompfgofaplffaaGreatDoor
open Go.RowKit Hach Go.Sort

def cmpE (a b : Ev) : Int := orL [cmpI a.at_ b.at_, cmpI a.kind b.kind, cmpI a.id b.id, cmpI a.other b.other, cmpI a.n b.n]
theorem or5s (s1 s2 s3 s4 s5 : Int) (W : World) : Calls Tryz.prog 64 #[.slice (some ⟨W.heap.size, 0, none⟩) 5 5] (W.alloc (.cells #[.int .i64 s1, .int .i64 s2, .int .i64 s3, .int .i64 s4, .int .i64 s5] 3)) fun e w' => e = .returned (.int .i64 (orL [s1, s2, s3, s4, s5])) ∧ w' = W.alloc (.cells #[.int .i64 s1, .int .i64 s2, .int .i64 s3, .int .i64 s4, .int .i64 s5] 3) :=
  or_any [s1, s2, s3, s4, s5] (some ⟨W.heap.size, 0, none⟩) 5 _ (fun j hj => ⟨W.heap.size, 0, rfl, by
    rw [Nat.zero_add]
    have hb := Go.heap_alloc_new W (.cells #[.int .i64 s1, .int .i64 s2, .int .i64 s3, .int .i64 s4, .int .i64 s5] 3)
    have hj : j < 5 := hj
    obtain rfl | rfl | rfl | rfl | rfl : j = 0 ∨ j = 1 ∨ j = 2 ∨ j = 3 ∨ j = 4 := by omega
    all_goals exact cells_of hb _ _ rfl⟩) (by simp)
set_option maxRecDepth 100000 in
set_option maxHeartbeats 4000000 in
theorem ecompareG (a b : Ev) (w : World) : Calls Tryz.prog 31 #[.agg #[.int .i64 a.kind, .int .i64 a.at_, .int .i64 a.id, .int .i64 a.other, .int .i64 a.n], .agg #[.int .i64 b.kind, .int .i64 b.at_, .int .i64 b.id, .int .i64 b.other, .int .i64 b.n]] w fun e w' => e = .returned (.int .i64 (cmpE a b)) ∧ Gr w w' := by
  have H1 := Lib.hid (cmpi_any a.at_ b.at_)
  have H2 := Lib.hid (cmpi_any a.kind b.kind)
  have H3 := Lib.hid (cmpi_any a.id b.id)
  have H4 := Lib.hid (cmpi_any a.other b.other)
  have H5 := Lib.hid (cmpi_any a.n b.n)
  have HO := Lib.hid (fun W => or5s (cmpI a.at_ b.at_) (cmpI a.kind b.kind) (cmpI a.id b.id) (cmpI a.other b.other) (cmpI a.n b.n) W)
  have hA : EvBlk (w.alloc (.cells #[.int .i64 a.kind, .int .i64 a.at_, .int .i64 a.id, .int .i64 a.other, .int .i64 a.n] 23)) w.heap.size a := Go.heap_alloc_new _ _
  have hB : EvBlk ((w.alloc (.cells #[.int .i64 a.kind, .int .i64 a.at_, .int .i64 a.id, .int .i64 a.other, .int .i64 a.n] 23)).alloc (.cells #[.int .i64 b.kind, .int .i64 b.at_, .int .i64 b.id, .int .i64 b.other, .int .i64 b.n] 23)) (w.heap.size + 1) b := by
    have := Go.heap_alloc_new (w.alloc (.cells #[.int .i64 a.kind, .int .i64 a.at_, .int .i64 a.id, .int .i64 a.other, .int .i64 a.n] 23)) (.cells #[.int .i64 b.kind, .int .i64 b.at_, .int .i64 b.id, .int .i64 b.other, .int .i64 b.n] 23)
    rw [World.size_alloc] at this
    exact this
  have hA2 := hA.ext (Ext.alloc _ (.cells #[.int .i64 b.kind, .int .i64 b.at_, .int .i64 b.id, .int .i64 b.other, .int .i64 b.n] 23))
  have hG : Gr w ((w.alloc (.cells #[.int .i64 a.kind, .int .i64 a.at_, .int .i64 a.id, .int .i64 a.other, .int .i64 a.n] 23)).alloc (.cells #[.int .i64 b.kind, .int .i64 b.at_, .int .i64 b.id, .int .i64 b.other, .int .i64 b.n] 23)) := Gr.trans (Gr.alloc _ _) (Gr.alloc _ _)
  obtain ⟨w3, hw⟩ : ∃ w3, (w.alloc (.cells #[.int .i64 a.kind, .int .i64 a.at_, .int .i64 a.id, .int .i64 a.other, .int .i64 a.n] 23)).alloc (.cells #[.int .i64 b.kind, .int .i64 b.at_, .int .i64 b.id, .int .i64 b.other, .int .i64 b.n] 23) = w3 := ⟨_, rfl⟩
  rw [hw] at hA2 hB hG
  have HW := Lib.hid hw
  have HQ := Lib.hid (fun W (h : Gr w3.drew W) => And.intro (hA2.ext (Ext.trans (Ext.drew w3) h.ext)).get (hB.ext (Ext.trans (Ext.drew w3) h.ext)).get)
  have HG := Lib.hid (Gr.trans hG (Gr.drew w3))
  unfold cmpE
  clear hw hA hA2 hB hG
  generalize cmpI a.at_ b.at_ = s1 at *
  generalize cmpI a.kind b.kind = s2 at *
  generalize cmpI a.id b.id = s3 at *
  generalize cmpI a.other b.other = s4 at *
  generalize cmpI a.n b.n = s5 at *
  generalize orL [s1, s2, s3, s4, s5] = R at *
  go_enter Tryz.func31, Tryz.ntmps31
  go_wp2_with fail
  rw [HW.out]
  generalize w.heap.size = k at *
  apply wp_region_rel (E := Gr) Gr.refl @Gr.trans (l := [_, _, _, _, _, _, _, _, _, _, _, _, _, _, _, _, _, _, _, _, _, _, _, _, _]) (t := [_, _, _]) [some 5, some 6, some 7, some 8, some 9, some 10, some 11, some 12, some 13, some 14, some 15, some 16, some 17, some 18, some 19, some 20, some 21, some 22, some 23, some 24, some 25, some 26, some 27, some 28, some 29, some 30, some 31, some 4] [[], [0], [], [2], [1, 3], [], [5], [], [7], [6, 8], [], [10], [], [12], [11, 13], [], [15], [], [17], [16, 18], [], [20], [], [22], [21, 23], [4, 9, 14, 19, 24], [25], [26]] [1, 4, 3, 4, 25, 6, 9, 8, 9, 25, 11, 14, 13, 14, 25, 16, 19, 18, 19, 25, 21, 24, 23, 24, 25] [eqr _, eqr _, eqr _, eqr _, (eqr (.int .i64 s1)), eqr _, eqr _, eqr _, eqr _, (eqr (.int .i64 s2)), eqr _, eqr _, eqr _, eqr _, (eqr (.int .i64 s3)), eqr _, eqr _, eqr _, eqr _, (eqr (.int .i64 s4)), eqr _, eqr _, eqr _, eqr _, (eqr (.int .i64 s5))] (by kernel_rfl) (by kernel_rfl) ⟨?o0, ?o1, ?o2, ?o3, ?o4, ?o5, ?o6, ?o7, ?o8, ?o9, ?o10, ?o11, ?o12, ?o13, ?o14, ?o15, ?o16, ?o17, ?o18, ?o19, ?o20, ?o21, ?o22, ?o23, ?o24, trivial⟩ ?last
  case o0 => -- Op.fieldAddr 23 (Operand.tmp 2) 1
    intro xv W hE _
    simp only [putD, List.foldl_nil, List.getD_cons_zero]
    refine OpGoal.plain ?_
    go_wp2_with fail
    exact ⟨rfl, Gr.refl _, rfl⟩
  case o1 => -- Op.load 3 (Operand.tmp 5)
    intro xv W hE hp
    have r0 : xv 0 = _ := hp.1
    clear hp
    obtain ⟨⟨c0, c1, c2, c3, c4⟩, ⟨d0, d1, d2, d3, d4⟩⟩ := HQ.out W hE
    simp only [putD, List.foldl_nil, List.foldl_cons, List.getD_cons_zero, List.getD_cons_succ, Act.put, List.setIfInBounds_toArray, List.set_cons_zero, List.set_cons_succ]
    refine OpGoal.plain ?_
    go_wp2_with fail
    exact ⟨rfl, Gr.refl _, rfl⟩
  case o2 => -- Op.fieldAddr 23 (Operand.tmp 3) 1
    intro xv W hE _
    simp only [putD, List.foldl_nil, List.getD_cons_zero, List.getD_cons_succ]
    refine OpGoal.plain ?_
    go_wp2_with fail
    exact ⟨rfl, Gr.refl _, rfl⟩
  case o3 => -- Op.load 3 (Operand.tmp 7)
    intro xv W hE hp
    have r2 : xv 2 = _ := hp.1
    clear hp
    obtain ⟨⟨c0, c1, c2, c3, c4⟩, ⟨d0, d1, d2, d3, d4⟩⟩ := HQ.out W hE
    simp only [putD, List.foldl_nil, List.foldl_cons, List.getD_cons_zero, List.getD_cons_succ, Act.put, List.setIfInBounds_toArray, List.set_cons_zero, List.set_cons_succ]
    refine OpGoal.plain ?_
    go_wp2_with fail
    exact ⟨rfl, Gr.refl _, rfl⟩
  case o4 => -- Op.call { callee := Callee.value (Operand.func 65), args := #[Operand.tmp 6, Ope
    intro xv W hE hp
    have r1 : xv 1 = _ := hp.1
    have r3 : xv 3 = _ := hp.2.1
    clear hp
    simp only [putD, List.foldl_nil, List.foldl_cons, List.getD_cons_zero, List.getD_cons_succ, Act.put, List.setIfInBounds_toArray, List.set_cons_zero, List.set_cons_succ]
    refine OpGoal.plain ?_
    go_wp2_with fail
    refine (H1.out W).mono ?_
    rintro e w' ⟨rfl, rfl⟩
    go_wp2_with fail
    exact ⟨rfl, Gr.refl _, rfl⟩
  case o5 => -- Op.fieldAddr 23 (Operand.tmp 2) 0
    intro xv W hE _
    simp only [putD, List.foldl_nil, List.getD_cons_zero, List.getD_cons_succ]
    refine OpGoal.plain ?_
    go_wp2_with fail
    exact ⟨rfl, Gr.refl _, rfl⟩
  case o6 => -- Op.load 3 (Operand.tmp 10)
    intro xv W hE hp
    have r5 : xv 5 = _ := hp.1
    clear hp
    obtain ⟨⟨c0, c1, c2, c3, c4⟩, ⟨d0, d1, d2, d3, d4⟩⟩ := HQ.out W hE
    simp only [putD, List.foldl_nil, List.foldl_cons, List.getD_cons_zero, List.getD_cons_succ, Act.put, List.setIfInBounds_toArray, List.set_cons_zero, List.set_cons_succ]
    refine OpGoal.plain ?_
    go_wp2_with fail
    exact ⟨rfl, Gr.refl _, rfl⟩
  case o7 => -- Op.fieldAddr 23 (Operand.tmp 3) 0
    intro xv W hE _
    simp only [putD, List.foldl_nil, List.getD_cons_zero, List.getD_cons_succ]
    refine OpGoal.plain ?_
    go_wp2_with fail
    exact ⟨rfl, Gr.refl _, rfl⟩
  case o8 => -- Op.load 3 (Operand.tmp 12)
    intro xv W hE hp
    have r7 : xv 7 = _ := hp.1
    clear hp
    obtain ⟨⟨c0, c1, c2, c3, c4⟩, ⟨d0, d1, d2, d3, d4⟩⟩ := HQ.out W hE
    simp only [putD, List.foldl_nil, List.foldl_cons, List.getD_cons_zero, List.getD_cons_succ, Act.put, List.setIfInBounds_toArray, List.set_cons_zero, List.set_cons_succ]
    refine OpGoal.plain ?_
    go_wp2_with fail
    exact ⟨rfl, Gr.refl _, rfl⟩
  case o9 => -- Op.call { callee := Callee.value (Operand.func 65), args := #[Operand.tmp 11, Op
    intro xv W hE hp
    have r6 : xv 6 = _ := hp.1
    have r8 : xv 8 = _ := hp.2.1
    clear hp
    simp only [putD, List.foldl_nil, List.foldl_cons, List.getD_cons_zero, List.getD_cons_succ, Act.put, List.setIfInBounds_toArray, List.set_cons_zero, List.set_cons_succ]
    refine OpGoal.plain ?_
    go_wp2_with fail
    refine (H2.out W).mono ?_
    rintro e w' ⟨rfl, rfl⟩
    go_wp2_with fail
    exact ⟨rfl, Gr.refl _, rfl⟩
  case o10 => -- Op.fieldAddr 23 (Operand.tmp 2) 2
    intro xv W hE _
    simp only [putD, List.foldl_nil, List.getD_cons_zero, List.getD_cons_succ]
    refine OpGoal.plain ?_
    go_wp2_with fail
    exact ⟨rfl, Gr.refl _, rfl⟩
  case o11 => -- Op.load 3 (Operand.tmp 15)
    intro xv W hE hp
    have r10 : xv 10 = _ := hp.1
    clear hp
    obtain ⟨⟨c0, c1, c2, c3, c4⟩, ⟨d0, d1, d2, d3, d4⟩⟩ := HQ.out W hE
    simp only [putD, List.foldl_nil, List.foldl_cons, List.getD_cons_zero, List.getD_cons_succ, Act.put, List.setIfInBounds_toArray, List.set_cons_zero, List.set_cons_succ]
    refine OpGoal.plain ?_
    go_wp2_with fail
    exact ⟨rfl, Gr.refl _, rfl⟩
  case o12 => -- Op.fieldAddr 23 (Operand.tmp 3) 2
    intro xv W hE _
    simp only [putD, List.foldl_nil, List.getD_cons_zero, List.getD_cons_succ]
    refine OpGoal.plain ?_
    go_wp2_with fail
    exact ⟨rfl, Gr.refl _, rfl⟩
  case o13 => -- Op.load 3 (Operand.tmp 17)
    intro xv W hE hp
    have r12 : xv 12 = _ := hp.1
    clear hp
    obtain ⟨⟨c0, c1, c2, c3, c4⟩, ⟨d0, d1, d2, d3, d4⟩⟩ := HQ.out W hE
    simp only [putD, List.foldl_nil, List.foldl_cons, List.getD_cons_zero, List.getD_cons_succ, Act.put, List.setIfInBounds_toArray, List.set_cons_zero, List.set_cons_succ]
    refine OpGoal.plain ?_
    go_wp2_with fail
    exact ⟨rfl, Gr.refl _, rfl⟩
  case o14 => -- Op.call { callee := Callee.value (Operand.func 65), args := #[Operand.tmp 16, Op
    intro xv W hE hp
    have r11 : xv 11 = _ := hp.1
    have r13 : xv 13 = _ := hp.2.1
    clear hp
    simp only [putD, List.foldl_nil, List.foldl_cons, List.getD_cons_zero, List.getD_cons_succ, Act.put, List.setIfInBounds_toArray, List.set_cons_zero, List.set_cons_succ]
    refine OpGoal.plain ?_
    go_wp2_with fail
    refine (H3.out W).mono ?_
    rintro e w' ⟨rfl, rfl⟩
    go_wp2_with fail
    exact ⟨rfl, Gr.refl _, rfl⟩
  case o15 => -- Op.fieldAddr 23 (Operand.tmp 2) 3
    intro xv W hE _
    simp only [putD, List.foldl_nil, List.getD_cons_zero, List.getD_cons_succ]
    refine OpGoal.plain ?_
    go_wp2_with fail
    exact ⟨rfl, Gr.refl _, rfl⟩
  case o16 => -- Op.load 3 (Operand.tmp 20)
    intro xv W hE hp
    have r15 : xv 15 = _ := hp.1
    clear hp
    obtain ⟨⟨c0, c1, c2, c3, c4⟩, ⟨d0, d1, d2, d3, d4⟩⟩ := HQ.out W hE
    simp only [putD, List.foldl_nil, List.foldl_cons, List.getD_cons_zero, List.getD_cons_succ, Act.put, List.setIfInBounds_toArray, List.set_cons_zero, List.set_cons_succ]
    refine OpGoal.plain ?_
    go_wp2_with fail
    exact ⟨rfl, Gr.refl _, rfl⟩
  case o17 => -- Op.fieldAddr 23 (Operand.tmp 3) 3
    intro xv W hE _
    simp only [putD, List.foldl_nil, List.getD_cons_zero, List.getD_cons_succ]
    refine OpGoal.plain ?_
    go_wp2_with fail
    exact ⟨rfl, Gr.refl _, rfl⟩
  case o18 => -- Op.load 3 (Operand.tmp 22)
    intro xv W hE hp
    have r17 : xv 17 = _ := hp.1
    clear hp
    obtain ⟨⟨c0, c1, c2, c3, c4⟩, ⟨d0, d1, d2, d3, d4⟩⟩ := HQ.out W hE
    simp only [putD, List.foldl_nil, List.foldl_cons, List.getD_cons_zero, List.getD_cons_succ, Act.put, List.setIfInBounds_toArray, List.set_cons_zero, List.set_cons_succ]
    refine OpGoal.plain ?_
    go_wp2_with fail
    exact ⟨rfl, Gr.refl _, rfl⟩
  case o19 => -- Op.call { callee := Callee.value (Operand.func 65), args := #[Operand.tmp 21, Op
    intro xv W hE hp
    have r16 : xv 16 = _ := hp.1
    have r18 : xv 18 = _ := hp.2.1
    clear hp
    simp only [putD, List.foldl_nil, List.foldl_cons, List.getD_cons_zero, List.getD_cons_succ, Act.put, List.setIfInBounds_toArray, List.set_cons_zero, List.set_cons_succ]
    refine OpGoal.plain ?_
    go_wp2_with fail
    refine (H4.out W).mono ?_
    rintro e w' ⟨rfl, rfl⟩
    go_wp2_with fail
    exact ⟨rfl, Gr.refl _, rfl⟩
  case o20 => -- Op.fieldAddr 23 (Operand.tmp 2) 4
    intro xv W hE _
    simp only [putD, List.foldl_nil, List.getD_cons_zero, List.getD_cons_succ]
    refine OpGoal.plain ?_
    go_wp2_with fail
    exact ⟨rfl, Gr.refl _, rfl⟩
  case o21 => -- Op.load 3 (Operand.tmp 25)
    intro xv W hE hp
    have r20 : xv 20 = _ := hp.1
    clear hp
    obtain ⟨⟨c0, c1, c2, c3, c4⟩, ⟨d0, d1, d2, d3, d4⟩⟩ := HQ.out W hE
    simp only [putD, List.foldl_nil, List.foldl_cons, List.getD_cons_zero, List.getD_cons_succ, Act.put, List.setIfInBounds_toArray, List.set_cons_zero, List.set_cons_succ]
    refine OpGoal.plain ?_
    go_wp2_with fail
    exact ⟨rfl, Gr.refl _, rfl⟩
  case o22 => -- Op.fieldAddr 23 (Operand.tmp 3) 4
    intro xv W hE _
    simp only [putD, List.foldl_nil, List.getD_cons_zero, List.getD_cons_succ]
    refine OpGoal.plain ?_
    go_wp2_with fail
    exact ⟨rfl, Gr.refl _, rfl⟩
  case o23 => -- Op.load 3 (Operand.tmp 27)
    intro xv W hE hp
    have r22 : xv 22 = _ := hp.1
    clear hp
    obtain ⟨⟨c0, c1, c2, c3, c4⟩, ⟨d0, d1, d2, d3, d4⟩⟩ := HQ.out W hE
    simp only [putD, List.foldl_nil, List.foldl_cons, List.getD_cons_zero, List.getD_cons_succ, Act.put, List.setIfInBounds_toArray, List.set_cons_zero, List.set_cons_succ]
    refine OpGoal.plain ?_
    go_wp2_with fail
    exact ⟨rfl, Gr.refl _, rfl⟩
  case o24 => -- Op.call { callee := Callee.value (Operand.func 65), args := #[Operand.tmp 26, Op
    intro xv W hE hp
    have r21 : xv 21 = _ := hp.1
    have r23 : xv 23 = _ := hp.2.1
    clear hp
    simp only [putD, List.foldl_nil, List.foldl_cons, List.getD_cons_zero, List.getD_cons_succ, Act.put, List.setIfInBounds_toArray, List.set_cons_zero, List.set_cons_succ]
    refine OpGoal.plain ?_
    go_wp2_with fail
    refine (H5.out W).mono ?_
    rintro e w' ⟨rfl, rfl⟩
    go_wp2_with fail
    exact ⟨rfl, Gr.refl _, rfl⟩
  case last =>
    intro xv W hE hp
    have r0 : xv 0 = _ := hp.1
    have r1 : xv 1 = _ := hp.2.1
    have r2 : xv 2 = _ := hp.2.2.1
    have r3 : xv 3 = _ := hp.2.2.2.1
    have r4 : xv 4 = _ := hp.2.2.2.2.1
    have r5 : xv 5 = _ := hp.2.2.2.2.2.1
    have r6 : xv 6 = _ := hp.2.2.2.2.2.2.1
    have r7 : xv 7 = _ := hp.2.2.2.2.2.2.2.1
    have r8 : xv 8 = _ := hp.2.2.2.2.2.2.2.2.1
    have r9 : xv 9 = _ := hp.2.2.2.2.2.2.2.2.2.1
    have r10 : xv 10 = _ := hp.2.2.2.2.2.2.2.2.2.2.1
    have r11 : xv 11 = _ := hp.2.2.2.2.2.2.2.2.2.2.2.1
    have r12 : xv 12 = _ := hp.2.2.2.2.2.2.2.2.2.2.2.2.1
    have r13 : xv 13 = _ := hp.2.2.2.2.2.2.2.2.2.2.2.2.2.1
    have r14 : xv 14 = _ := hp.2.2.2.2.2.2.2.2.2.2.2.2.2.2.1
    have r15 : xv 15 = _ := hp.2.2.2.2.2.2.2.2.2.2.2.2.2.2.2.1
    have r16 : xv 16 = _ := hp.2.2.2.2.2.2.2.2.2.2.2.2.2.2.2.2.1
    have r17 : xv 17 = _ := hp.2.2.2.2.2.2.2.2.2.2.2.2.2.2.2.2.2.1
    have r18 : xv 18 = _ := hp.2.2.2.2.2.2.2.2.2.2.2.2.2.2.2.2.2.2.1
    have r19 : xv 19 = _ := hp.2.2.2.2.2.2.2.2.2.2.2.2.2.2.2.2.2.2.2.1
    have r20 : xv 20 = _ := hp.2.2.2.2.2.2.2.2.2.2.2.2.2.2.2.2.2.2.2.2.1
    have r21 : xv 21 = _ := hp.2.2.2.2.2.2.2.2.2.2.2.2.2.2.2.2.2.2.2.2.2.1
    have r22 : xv 22 = _ := hp.2.2.2.2.2.2.2.2.2.2.2.2.2.2.2.2.2.2.2.2.2.2.1
    have r23 : xv 23 = _ := hp.2.2.2.2.2.2.2.2.2.2.2.2.2.2.2.2.2.2.2.2.2.2.2.1
    have r24 : xv 24 = _ := hp.2.2.2.2.2.2.2.2.2.2.2.2.2.2.2.2.2.2.2.2.2.2.2.2.1
    clear hp
    simp only [putD, List.foldl_nil, List.foldl_cons, List.getD_cons_zero, List.getD_cons_succ, Act.put, List.length_cons, List.length_nil, List.range_succ, List.range_zero, List.nil_append, List.cons_append, List.setIfInBounds_toArray, List.set_cons_zero, List.set_cons_succ]
    simp only [r4, r9, r14, r19, r24]
    clear r0 r1 r2 r3 r4 r5 r6 r7 r8 r9 r10 r11 r12 r13 r14 r15 r16 r17 r18 r19 r20 r21 r22 r23 r24
    go_wp2_with fail
    refine (HO.out W).mono ?_
    rintro e w' ⟨rfl, hw'⟩
    have hw2 := hw'.symm; clear hw'; subst hw2
    go_wp2_with fail
    go_ret
    exact ⟨rfl, Gr.trans HG.out (Gr.trans hE (Gr.alloc _ _))⟩
instance : Inhabited Ev := ⟨zeroEv⟩
theorem flat_ev (us : List Ev) {t : Nat} (ht : t < us.length * 5) : (us.map Ev.cells).flatten[t]? = some (flatK Ev.cells 5 us.toArray)[t]! := by
  have hq : t / 5 < us.length := by omega
  have hi : t % 5 < 5 := Nat.mod_lt _ (by decide)
  have h := evs_at us (t / 5) hq (t % 5) hi
  rw [show t / 5 * 5 + t % 5 = t by omega] at h
  rw [h, get_flatK _ _ _ _ (by simpa using ht)]
  have e1 : us.toArray[t / 5]! = us[t / 5] := by rw [getElem!_pos us.toArray (t / 5) (by simpa using hq)]; simp
  rw [e1]
  have hl : t % 5 < (us[t / 5].cells).length := hi
  rw [List.getElem?_eq_getElem hl]
  exact congrArg some (getElem!_pos (us[t / 5].cells) (t % 5) hl).symm
theorem OwnE.holdsK {w : World} {base g n c : Nat} {us : List Ev} (h : OwnE w base (.slice (some ⟨g, 0, none⟩) n c) us) : HoldsK Ev.cells 5 w g 0 us.toArray := by
  intro t ht
  have ht' : t < us.length * 5 := by simpa using ht
  rcases h.2 with ⟨e, _⟩ | ⟨g', cap, cur, e, hb, hg, _⟩
  · cases e
  · simp only [Value.slice.injEq, Option.some.injEq, Addr.mk.injEq] at e
    obtain ⟨⟨rfl, _⟩, _⟩ := e
    refine ⟨?_, by simp [World.frozen?, hg]⟩
    have h1 := World.ownsRow.cells h (g := g) rfl t _ (flat_ev us ht')
    rw [Nat.zero_add]
    simpa [Addr.add_lit] using h1
theorem evRow_of {W : World} {g : Nat} {us : List Ev} (h : HoldsK Ev.cells 5 W g 0 us.toArray) : EvRow W g us := by
  intro j u hu
  have hj : j < us.length * 5 := by rw [← evs_len]; exact (List.getElem?_eq_some_iff.1 hu).1
  have h1 := (h j (by simpa using hj)).1
  rw [Nat.zero_add] at h1
  rw [flat_ev us hj] at hu
  cases hu
  exact h1
theorem isAggEv : ∀ w, (isAgg 23).run Tryz.prog w = .ok true w := Tryz.isAgg23
theorem sizeOfEv : ∀ w, (Go.sizeOf 23).run Tryz.prog w = .ok 5 w := Tryz.sizeOf23
theorem ins_any (us ss : List Ev) (hs : insertionSort (ltOf cmpE) us.toArray 0 us.length = ss.toArray) (hl : ss.length = us.length) (h20 : us.length < 20) (g c : Nat) (w : World) (hH : HoldsK Ev.cells 5 w g 0 us.toArray) (hg : g < w.heap.size) :
    Calls Tryz.prog 122 #[.slice (some ⟨g, 0, none⟩) us.length c, .int .i64 0, .int .i64 us.length, .func (.func 31) #[] #[]] w fun e w' => e = .returned (.tuple #[]) ∧ EvRow w' g ss ∧ w.grownBy w' (some g) := by
  have h := AnyQ.insertionSortCmpFunc Tryz.laysInsEv 5 isAggEv sizeOfEv Ev.cells (fun _ => rfl) (fun x v hv => ev_one [x] v (by simpa using hv)) cmpE 31 #[] g 0 c 0 us.length us.toArray w (enters_of Tryz.func31 (by kernel_rfl) rfl)
    (fun m os dk _ x y => ecompareG x y _) hH hg (Nat.zero_le _) (by simp) (by simp; omega)
  refine (show Calls Tryz.prog 122 #[.slice (some ⟨g, 0, none⟩) us.length c, .int .i64 0, .int .i64 us.length, .func (.func 31) #[] #[]] w _ from h).mono ?_
  rintro e w' ⟨rfl, n, os, hw⟩
  rw [hs] at hw
  have hK := holdsK_sortWorldK_c Ev.cells 5 w g 0 us.toArray ss.toArray n os hH hg (by simpa using hl)
  rw [← hw] at hK
  exact ⟨rfl, evRow_of hK, by rw [hw]; exact grownBy_sortWorldK _ _ _ _ _ _ _ _⟩
set_option maxRecDepth 100000 in
set_option maxHeartbeats 2000000 in
theorem stable_any (us ss : List Ev) (hs : insertionSort (ltOf cmpE) us.toArray 0 us.length = ss.toArray) (hl : ss.length = us.length) (h20 : us.length < 20) (g c : Nat) (w : World) (hH : HoldsK Ev.cells 5 w g 0 us.toArray) (hg : g < w.heap.size) :
    Calls Tryz.prog 63 #[.slice (some ⟨g, 0, none⟩) us.length c, .int .i64 us.length, .func (.func 31) #[] #[]] w fun e w' => e = .returned (.tuple #[]) ∧ EvRow w' g ss ∧ w.grownBy w' (some g) := by
  have HI := Lib.hid (ins_any us ss hs hl h20 g c w hH hg)
  generalize us.length = n at *
  have t1 : ¬ (20 : Int) ≤ (n : Int) := by omega
  have t2 : ¬ (20 : Int) < (n : Int) := by omega
  clear hs hl hH hg
  go_enter Tryz.func63, Tryz.ntmps63
  go_wp2_with fail
  refine wp_loop_rounds 1 ?_
  rw [rounds_succ]
  go_wp2_with fail
  refine HI.out.mono ?_
  rintro e w' ⟨rfl, hr, hgr⟩
  go_wp2_with fail
  refine wp_loop_rounds 1 ?_
  rw [rounds_succ]
  go_wp2_with fail
  exact ⟨rfl, _, results_none rfl _ _ _, rfl, hr, hgr⟩
set_option maxHeartbeats 1000000 in
theorem sortStable_any (us ss : List Ev) (hs : insertionSort (ltOf cmpE) us.toArray 0 us.length = ss.toArray) (hl : ss.length = us.length) (h20 : us.length < 20) (g c : Nat) (w : World) (hH : HoldsK Ev.cells 5 w g 0 us.toArray) (hg : g < w.heap.size) :
    Calls Tryz.prog 30 #[.slice (some ⟨g, 0, none⟩) us.length c, .func (.func 31) #[] #[]] w fun e w' => e = .returned (.tuple #[]) ∧ EvRow w' g ss ∧ w.grownBy w' (some g) := by
  have HI := Lib.hid (stable_any us ss hs hl h20 g c w hH hg)
  generalize us.length = n at *
  clear hs hl hH hg
  go_enter Tryz.func30, Tryz.ntmps30
  go_wp2_with fail
  refine HI.out.mono ?_
  rintro e w' ⟨rfl, hr, hgr⟩
  go_wp2_with fail
  exact ⟨rfl, _, results_none rfl _ _ _, rfl, hr, hgr⟩
end Go.Proofs.YtompfgofaplffaaGreatDoor

namespace Go.Proofs.YtompfgofaplffaaGreatDoor
open Go.RowKit Hach Go.Sort

theorem run_app0 (w : World) (ty : TypeId) (base : Option Addr) (n c : Nat) (h : n ≤ c) : (Builtin.append_ #[28, 28] ty #[.slice base n c, .slice none 0 0]).run Tryz.prog w = .ok (.slice base n c) w := by
  obtain ⟨i0, hi, hz0, hz1, hz2⟩ := info_parts infoEv
  refine run_append_nothing w 28 28 ty 23 i0 Tryz.underlying28 hi base n c h _ ⟨.inl ⟨_, Tryz.underlying28⟩, fun w' => rfl, ?_, ?_, ?_, fun u hu => by cases hu⟩
  · rfl
  · rfl
  · simp
theorem app_0 {ops : Array Oper} {rest : List Oper} {o : Oper} {a : Act} {w : World} {Q : Exit → Act → World → Prop} (hgd : o.guard = none) (s x : Tmp)
    (ho : o.op = .call { callee := .builtin .append, args := #[.tmp s, .tmp x], argTypes := #[28, 28] }) (base : Option Addr) (n cap : Nat) (hn : n ≤ cap) (hs : a.eval (.tmp s) = .slice base n cap) (hx : a.eval (.tmp x) = .slice none 0 0)
    (h : wpList Tryz.prog ops Q rest (a.put o.dst (.slice base n cap)) w) : wpList Tryz.prog ops Q (o :: rest) a w := by
  refine wpList_plain hgd fun K hK' => ?_
  have hrun := run_app0 w o.type base n cap hn
  unfold Oper.wp
  simp [execOp, ho, resolve, invoke, builtin, hs, hx, hrun, Result.andThen]
  exact hK' _ _ h
theorem kinds_cell {W : World} {b : Nat} (h : W.heap[b]? = some kindsO) (k i : Nat) (hk : k < 4) (hi : i < 6) : W.cell? ⟨b, k * 6 + i, none⟩ = (kindC k)[i]? := by
  unfold kindsO at h
  obtain rfl | rfl | rfl | rfl : k = 0 ∨ k = 1 ∨ k = 2 ∨ k = 3 := by omega
  all_goals
    obtain rfl | rfl | rfl | rfl | rfl | rfl : i = 0 ∨ i = 1 ∨ i = 2 ∨ i = 3 ∨ i = 4 ∨ i = 5 := by omega
    all_goals exact cells_of h _ _ rfl
/-- All events of the map, in order of the faces. -/
def listF (m : Mp) : List Ev := allF m.edges m.faces (idsF m.faces) m.faces.length
structure EvOk (m : Mp) (d : Int) (ss : List Ev) : Prop where
  fuse : FuseOk m d
  edges : 0 < m.edges.length
  lens : ∀ k, k < m.edges.length → (ed m.edges k).line.length ≤ 1000000000
  nodrop : NoDrop m d
  ways : m.ways.length = 0
  places : m.places.length = 0
  sort : insertionSort (ltOf cmpE) (listF m).toArray 0 (listF m).length = ss.toArray
  same : ss.length = (listF m).length
  few : (listF m).length < 20
  some_ : 0 < (listF m).length
set_option maxRecDepth 100000 in
set_option maxHeartbeats 8000000 in
theorem eall_any (m : Mp) (a : Ma) (b o : Nat) (d : Int) (ss : List Ev) (w : World) (hm : MpAt w a m) (hA : a.fa = some ⟨b, o, none⟩) (hok : EvOk m d ss) :
    Calls Tryz.prog 14 #[.agg (a.cells m).toArray, .int .i64 d] w fun e w' => (∃ g c, e = .returned (.slice (some ⟨g, 0, none⟩) ss.length c) ∧ w.heap.size ≤ g ∧ g < w'.heap.size ∧ EvRow w' g ss) ∧ Ext w w' := by
  have HD : Hid (∀ W, Ext w W → Calls Tryz.prog 38 #[.agg #[.slice a.ea m.edges.length a.ec, .slice a.fa m.faces.length a.fc, .slice a.wa m.ways.length a.wc, .slice a.pa m.places.length a.pc], .int .i64 d] W fun e w' => e = .returned (.slice none 0 0) ∧ Ext W w') := Lib.hid (fun W h => dall_any m a d W (hm.keep h) hok.fuse.pos hok.edges hok.lens hok.nodrop)
  have HF : Hid (∀ W, Ext w W → Calls Tryz.prog 43 #[.agg #[.slice a.ea m.edges.length a.ec, .slice a.fa m.faces.length a.fc, .slice a.wa m.ways.length a.wc, .slice a.pa m.places.length a.pc], .int .i64 d] W fun e w' => (∃ v, e = .returned v ∧ OwnE w' W.heap.size v (listF m)) ∧ Ext W w') := Lib.hid (fun W h => fall_any m a b o d W (hm.keep h) hA hok.fuse)
  have HT : Hid (∀ W, Ext w W → Calls Tryz.prog 51 #[.agg #[.slice a.ea m.edges.length a.ec, .slice a.fa m.faces.length a.fc, .slice a.wa m.ways.length a.wc, .slice a.pa m.places.length a.pc], .int .i64 d] W fun e w' => e = .returned (.slice none 0 0) ∧ Ext W w') := Lib.hid (fun W h => thinall0 m a d W hok.ways)
  have HG : Hid (∀ W, Ext w W → Calls Tryz.prog 55 #[.agg #[.slice a.ea m.edges.length a.ec, .slice a.fa m.faces.length a.fc, .slice a.wa m.ways.length a.wc, .slice a.pa m.places.length a.pc], .int .i64 d] W fun e w' => e = .returned (.slice none 0 0) ∧ Ext W w') := Lib.hid (fun W h => gatherall0 m a d W hok.places)
  have HB := Lib.hid (fun W (h : Ext (w.alloc (.cells (a.cells m).toArray 41)) W) => Ma.box (blk_ext (Go.heap_alloc_new w (.cells (a.cells m).toArray 41)) h))
  have HEB := Lib.hid (Ext.alloc w (.cells (a.cells m).toArray 41))
  have HK := Lib.hid (fun W => kinds_any W)
  have HOK := Lib.hid hok
  clear hm hA hok
  go_enter Tryz.func14, Tryz.ntmps14
  go_wp2_with fail
  refine (HK.out _).mono ?_
  rintro e w1 ⟨rfl, hw1⟩
  have hEK : Ext (w.alloc (.cells (a.cells m).toArray 41)) w1 := by rw [hw1]; exact Ext.alloc _ _
  have hk0 : w1.heap[(w.alloc (.cells (a.cells m).toArray 41)).heap.size]? = some kindsO := by rw [hw1]; exact Go.heap_alloc_new _ _
  rw [World.size_alloc] at hk0
  simp only [World.size_alloc]
  have HKC := Lib.hid (fun W (h : Ext w1 W) k i hk hi => kinds_cell (blk_ext hk0 h) k i hk hi)
  have hs1 : w.heap.size < w1.heap.size := by rw [hw1, World.size_alloc, World.size_alloc]; omega
  have hs2 : w.heap.size + 1 < w1.heap.size := by rw [hw1, World.size_alloc, World.size_alloc]; omega
  have HEK := Lib.hid hEK
  have HE1 := Lib.hid (Ext.trans HEB.out hEK)
  clear hw1 hEK hk0
  -- WALK
  have HST := Lib.hid (fun W (h : Ext w1 W) => And.intro (HB.out W (Ext.trans HEK.out h)) (And.intro (Nat.lt_of_lt_of_le hs1 h.sz) (Nat.lt_of_lt_of_le hs2 h.sz)))
  clear hs1 hs2
  obtain ⟨⟨c0, c1, c2, c3⟩, l1, l2⟩ := HST.out w1 (Ext.refl _)
  have q0 := HKC.out w1 (Ext.refl _) 0 0 (by decide) (by decide)
  have q1 := HKC.out w1 (Ext.refl _) 0 1 (by decide) (by decide)
  have q2 := HKC.out w1 (Ext.refl _) 0 2 (by decide) (by decide)
  have q3 := HKC.out w1 (Ext.refl _) 0 3 (by decide) (by decide)
  have q4 := HKC.out w1 (Ext.refl _) 0 4 (by decide) (by decide)
  have q5 := HKC.out w1 (Ext.refl _) 0 5 (by decide) (by decide)
  simp only [kindC, List.getD_cons_zero, List.getD_cons_succ, List.getElem?_cons_zero, List.getElem?_cons_succ, fnV, Nat.zero_mul, Nat.zero_add, Nat.reduceMul, Nat.reduceAdd] at q0 q1 q2 q3 q4 q5
  go_wp2_with fail
  refine wp_loop_rounds 5 ?_
  rw [rounds_succ]
  go_wp2_with fail
  refine (HD.out _ (Ext.trans HE1.out (Ext.alloc _ _))).mono ?_
  rintro e w2 ⟨rfl, hE2⟩
  have HX2 := Lib.hid (Ext.trans (Ext.alloc _ _) hE2)
  clear hE2
  clear c0 c1 c2 c3 l1 l2 q0 q1 q2 q3 q4 q5
  obtain ⟨⟨c0, c1, c2, c3⟩, l1, l2⟩ := HST.out w2 HX2.out
  have q0 := HKC.out w2 HX2.out 1 0 (by decide) (by decide)
  have q1 := HKC.out w2 HX2.out 1 1 (by decide) (by decide)
  have q2 := HKC.out w2 HX2.out 1 2 (by decide) (by decide)
  have q3 := HKC.out w2 HX2.out 1 3 (by decide) (by decide)
  have q4 := HKC.out w2 HX2.out 1 4 (by decide) (by decide)
  have q5 := HKC.out w2 HX2.out 1 5 (by decide) (by decide)
  simp only [kindC, List.getD_cons_zero, List.getD_cons_succ, List.getElem?_cons_zero, List.getElem?_cons_succ, fnV, Nat.zero_mul, Nat.zero_add, Nat.reduceMul, Nat.reduceAdd] at q0 q1 q2 q3 q4 q5
  go_wp2_with (refine app_0 rfl 14 19 rfl none 0 0 (Nat.le_refl _) rfl rfl ?_)
  rw [rounds_succ]
  go_wp2_with fail
  refine (HF.out _ (Ext.trans HE1.out (Ext.trans HX2.out (Ext.alloc _ _)))).mono ?_
  rintro e w3 ⟨⟨v, rfl, hO⟩, hE3⟩
  rcases hO.form with ⟨h0, _⟩ | ⟨g3, cp3, rfl, _, _, _, hR3⟩
  · exact absurd (by rw [h0]; rfl) (Nat.ne_of_gt HOK.out.some_)
  have HX3 := Lib.hid (Ext.trans HX2.out (Ext.trans (Ext.alloc _ _) hE3))
  have HR3 := Lib.hid hR3
  have HZ3 : Hid (w1.heap.size ≤ w3.heap.size) := Lib.hid HX3.out.sz
  have HL3 : Hid (([] : List Ev).length + (listF m).length < 4294967296) := Lib.hid (by have := HOK.out.few; simp; omega)
  clear hE3 hO hR3
  clear c0 c1 c2 c3 l1 l2 q0 q1 q2 q3 q4 q5
  obtain ⟨⟨c0, c1, c2, c3⟩, l1, l2⟩ := HST.out w3 HX3.out
  have q0 := HKC.out w3 HX3.out 2 0 (by decide) (by decide)
  have q1 := HKC.out w3 HX3.out 2 1 (by decide) (by decide)
  have q2 := HKC.out w3 HX3.out 2 2 (by decide) (by decide)
  have q3 := HKC.out w3 HX3.out 2 3 (by decide) (by decide)
  have q4 := HKC.out w3 HX3.out 2 4 (by decide) (by decide)
  have q5 := HKC.out w3 HX3.out 2 5 (by decide) (by decide)
  simp only [kindC, List.getD_cons_zero, List.getD_cons_succ, List.getElem?_cons_zero, List.getElem?_cons_succ, fnV, Nat.zero_mul, Nat.zero_add, Nat.reduceMul, Nat.reduceAdd] at q0 q1 q2 q3 q4 q5
  go_wp2_with (refine app_E rfl 14 19 rfl w1.heap.size (.slice none 0 0) [] rfl (OwnE.nil _ _) g3 (listF m).length cp3 (listF m) rfl rfl HR3.out HL3.out HZ3.out ?_; intro v4 w4 hO4 hg4)
  have hE4 : Ext w3 w4 := below_rowE hg4 (Nat.le_refl _) (fun g e => by cases e)
  rw [List.nil_append] at hO4
  rcases hO4.form with ⟨h0, _⟩ | ⟨g4, cp4, rfl, lo4, _, hc4, _⟩
  · exact absurd (by rw [h0]; rfl) (Nat.ne_of_gt HOK.out.some_)
  have HX4 := Lib.hid (Ext.trans HX3.out hE4)
  have HO4 := Lib.hid hO4
  have HL4 := Lib.hid lo4
  have HC4 := Lib.hid hc4
  clear hE4 hO4 hg4 lo4 hc4
  clear c0 c1 c2 c3 l1 l2 q0 q1 q2 q3 q4 q5
  obtain ⟨⟨c0, c1, c2, c3⟩, l1, l2⟩ := HST.out w4 HX4.out
  have q0 := HKC.out w4 HX4.out 2 0 (by decide) (by decide)
  have q1 := HKC.out w4 HX4.out 2 1 (by decide) (by decide)
  have q2 := HKC.out w4 HX4.out 2 2 (by decide) (by decide)
  have q3 := HKC.out w4 HX4.out 2 3 (by decide) (by decide)
  have q4 := HKC.out w4 HX4.out 2 4 (by decide) (by decide)
  have q5 := HKC.out w4 HX4.out 2 5 (by decide) (by decide)
  simp only [kindC, List.getD_cons_zero, List.getD_cons_succ, List.getElem?_cons_zero, List.getElem?_cons_succ, fnV, Nat.zero_mul, Nat.zero_add, Nat.reduceMul, Nat.reduceAdd] at q0 q1 q2 q3 q4 q5
  rw [rounds_succ]
  go_wp2_with fail
  refine (HT.out _ (Ext.trans HE1.out (Ext.trans HX4.out (Ext.alloc _ _)))).mono ?_
  rintro e w5 ⟨rfl, hE5⟩
  have HX5 := Lib.hid (Ext.trans HX4.out (Ext.trans (Ext.alloc _ _) hE5))
  have HO5 := Lib.hid (HO4.out.ext (Ext.trans (Ext.alloc _ _) hE5))
  clear hE5
  clear c0 c1 c2 c3 l1 l2 q0 q1 q2 q3 q4 q5
  obtain ⟨⟨c0, c1, c2, c3⟩, l1, l2⟩ := HST.out w5 HX5.out
  have q0 := HKC.out w5 HX5.out 3 0 (by decide) (by decide)
  have q1 := HKC.out w5 HX5.out 3 1 (by decide) (by decide)
  have q2 := HKC.out w5 HX5.out 3 2 (by decide) (by decide)
  have q3 := HKC.out w5 HX5.out 3 3 (by decide) (by decide)
  have q4 := HKC.out w5 HX5.out 3 4 (by decide) (by decide)
  have q5 := HKC.out w5 HX5.out 3 5 (by decide) (by decide)
  simp only [kindC, List.getD_cons_zero, List.getD_cons_succ, List.getElem?_cons_zero, List.getElem?_cons_succ, fnV, Nat.zero_mul, Nat.zero_add, Nat.reduceMul, Nat.reduceAdd] at q0 q1 q2 q3 q4 q5
  go_wp2_with (refine app_0 rfl 14 19 rfl _ _ _ HC4.out rfl rfl ?_)
  rw [rounds_succ]
  go_wp2_with fail
  refine (HG.out _ (Ext.trans HE1.out (Ext.trans HX5.out (Ext.alloc _ _)))).mono ?_
  rintro e w6 ⟨rfl, hE6⟩
  have HX6 := Lib.hid (Ext.trans HX5.out (Ext.trans (Ext.alloc _ _) hE6))
  have HO6 := Lib.hid (HO5.out.ext (Ext.trans (Ext.alloc _ _) hE6))
  clear hE6
  clear c0 c1 c2 c3 l1 l2 q0 q1 q2 q3 q4 q5
  go_wp2_with (refine app_0 rfl 14 19 rfl _ _ _ HC4.out rfl rfl ?_)
  rw [rounds_succ]
  go_wp2_with fail
  have hlt6 := (HO6.out.lt g4 rfl).2
  have HSO := Lib.hid (sortStable_any (listF m) ss HOK.out.sort HOK.out.same HOK.out.few g4 cp4 w6 HO6.out.holdsK hlt6)
  clear hlt6
  refine HSO.out.mono ?_
  rintro e w7 ⟨rfl, hR7, hg7⟩
  have HE7 : Hid (Ext w w7) := Lib.hid (Ext.grow_ge (Ext.trans HE1.out HX6.out) hg7 (fun b e => by simp only [Option.some.injEq] at e; have := HL4.out; have := HE1.out.sz; omega))
  have HS7 := Lib.hid hg7.size
  have HR7 := Lib.hid hR7
  have hlt7 := (HO6.out.lt g4 rfl).2
  have HLT7 := Lib.hid (Nat.lt_of_lt_of_le hlt7 hg7.size)
  clear hR7 hg7 hlt7
  go_wp2_with fail
  go_ret
  refine ⟨⟨g4, cp4, by rw [HOK.out.same]; rfl, ?_, HLT7.out, HR7.out⟩, HE7.out⟩
  have := HL4.out; have := HE1.out.sz; omega
end Go.Proofs.YtompfgofaplffaaGreatDoor

namespace Go.Proofs.YtompfgofaplffaaGreatDoor
open Go.RowKit Hach

def zK : Array Value := #[.string ⟨#[]⟩, .nilFunc, .nilFunc, .nilFunc, .nilFunc, .nilFunc]
def fK : Array Value := #[.string ⟨#[102, 117, 115, 101]⟩, .func (.func 39) #[] #[], .func (.func 40) #[] #[], .func (.func 41) #[] #[], .func (.func 42) #[] #[], .func (.func 43) #[] #[]]
theorem results_K {fn : Func} {t u : Tmp} (hr : fn.results = #[.cell t 53, .tmp u]) {w : World} {b : Nat} {c0 c1 c2 c3 c4 c5 : Value} (h : w.heap[b]? = some (.cells #[c0, c1, c2, c3, c4, c5] 53 (0, 0))) (tmps : Array Value) (v : Value) (ht : tmps.getD t undef = .pointer (some ⟨b, 0, none⟩)) (hu : tmps.getD u undef = v) :
    (results fn tmps).run Tryz.prog w = .ok (.tuple #[.agg #[c0, c1, c2, c3, c4, c5], v]) w := by
  have p0 := cells_of h 0 _ rfl
  have p1 := cells_of h 1 _ rfl
  have p2 := cells_of h 2 _ rfl
  have p3 := cells_of h 3 _ rfl
  have p4 := cells_of h 4 _ rfl
  have p5 := cells_of h 5 _ rfl
  clear h
  rw [Array.getD_eq_getD_getElem?] at ht hu
  simp only [results, hr]
  go_simp
set_option maxRecDepth 100000 in
set_option maxHeartbeats 4000000 in
theorem of_odd (e : Ev) (h : 4 < e.kind) (w : World) : Calls Tryz.prog 33 #[.agg #[.int .i64 e.kind, .int .i64 e.at_, .int .i64 e.id, .int .i64 e.other, .int .i64 e.n]] w fun r w' => r = .returned (.tuple #[.agg zK, .bool false]) ∧ Ext w w' := by
  have t1 : decide (e.kind < 1) = false := by simp; omega
  have t2 : decide (4 < e.kind) = true := by simpa using h
  go_enter Tryz.func33, Tryz.ntmps33
  go_wp2_with fail
  have hb := Go.heap_alloc_new (w.alloc (.cells #[.int .i64 e.kind, .int .i64 e.at_, .int .i64 e.id, .int .i64 e.other, .int .i64 e.n] 23)) (.cells #[.string ⟨#[]⟩, .nilFunc, .nilFunc, .nilFunc, .nilFunc, .nilFunc] 53)
  rw [World.size_alloc] at hb
  exact bodyPost_ret (results_K rfl hb _ (.bool false) rfl rfl) rfl ⟨rfl, Ext.trans (Ext.alloc _ _) (Ext.alloc _ _)⟩
def oS (B : Nat) := OnceS B 53 zK fK
theorem oS.refl (B : Nat) (W : World) : oS B W W := OnceS.refl _ _ _ _ _
theorem oS.trans (B : Nat) {U V W : World} (h : oS B U V) (k : oS B V W) : oS B U W := OnceS.trans _ _ _ _ h k
theorem oS.sz {B : Nat} {U V : World} (h : oS B U V) : U.heap.size ≤ V.heap.size := h.1.size
theorem oS.keep {B b : Nat} {U V : World} (h : oS B U V) (hb : B ≤ b) (hu : U.heap[b]? = some (.cells fK 53 (0, 0))) : V.heap[b]? = some (.cells fK 53 (0, 0)) := by
  rcases h.2 b hb (Array.getElem?_eq_some_iff.1 hu).1 with h | ⟨_, h⟩
  · rw [h]; exact hu
  · exact h
theorem oS.zero {B b : Nat} {U V : World} (h : oS B U V) (hb : B ≤ b) (hu : U.heap[b]? = some (.cells zK 53 (0, 0))) : V.heap[b]? = some (.cells zK 53 (0, 0)) ∨ V.heap[b]? = some (.cells fK 53 (0, 0)) := by
  rcases h.2 b hb (Array.getElem?_eq_some_iff.1 hu).1 with h | ⟨_, h⟩
  · rw [h]; exact .inl hu
  · exact .inr h
/-- The variable at b was written. -/
def wrK (B b : Nat) : SPl (oS B) := ⟨[], fun _ _ W => B ≤ b ∧ W.heap[b]? = some (.cells fK 53 (0, 0)), fun h hE => ⟨h.1, hE.keep h.1 h.2⟩, fun _ h => h⟩
theorem fK_one : ∀ v ∈ fK.toList, v.oneCell' = true := by
  intro v hv
  simp [fK] at hv
  rcases hv with rfl | rfl | rfl | rfl | rfl | rfl <;> rfl
theorem fK_cells {W : World} {b : Nat} (h : W.heap[b]? = some (.cells fK 53 (0, 0))) : W.cell? ⟨b, 0, none⟩ = some (.string ⟨#[102, 117, 115, 101]⟩) ∧ W.cell? ⟨b, 1, none⟩ = some (.func (.func 39) #[] #[]) ∧ W.cell? ⟨b, 2, none⟩ = some (.func (.func 40) #[] #[]) ∧ W.cell? ⟨b, 3, none⟩ = some (.func (.func 41) #[] #[]) ∧ W.cell? ⟨b, 4, none⟩ = some (.func (.func 42) #[] #[]) ∧ W.cell? ⟨b, 5, none⟩ = some (.func (.func 43) #[] #[]) :=
  ⟨cells_of h 0 _ rfl, cells_of h 1 _ rfl, cells_of h 2 _ rfl, cells_of h 3 _ rfl, cells_of h 4 _ rfl, cells_of h 5 _ rfl⟩
theorem EvBlk.below {w w' : World} {B b : Nat} {e : Ev} (h : EvBlk w b e) (hb : b < B) (hE : Below B w w') : EvBlk w' b e := (Below.block hE b hb).trans h
def kdS (B : Nat) : SP := ⟨fun v W => ∃ g, v = .slice (some ⟨g, 0, none⟩) 4 4 ∧ B ≤ g ∧ W.heap[g]? = some kindsO, fun h hE => by
  obtain ⟨g, e, h0, h1⟩ := h
  exact ⟨g, e, h0, blk_ext h1 hE⟩⟩
def kpS (i : Nat) : SP := ⟨fun v W => ∃ g, v = .pointer (some ⟨g, i, none⟩) ∧ W.heap[g]? = some kindsO, fun h hE => by
  obtain ⟨g, e, h1⟩ := h
  exact ⟨g, e, blk_ext h1 hE⟩⟩
set_option maxRecDepth 100000 in
set_option maxHeartbeats 8000000 in
theorem of_two (t i o : Int) (w : World) : Calls Tryz.prog 33 #[.agg #[.int .i64 2, .int .i64 t, .int .i64 i, .int .i64 o, .int .i64 0]] w fun r w' => r = .returned (.tuple #[.agg fK, .bool true]) ∧ Ext w w' := by
  have HK := Lib.hid (fun W => kinds_any W)
  have HM := Lib.hid (fun W => made_any 2 t i o W)
  have HO := Lib.hid (fun W => other_any ⟨2, t, i, o, 0⟩ W)
  have hE0 : EvBlk (w.alloc (.cells #[.int .i64 2, .int .i64 t, .int .i64 i, .int .i64 o, .int .i64 0] 23)) w.heap.size ⟨2, t, i, o, 0⟩ := Go.heap_alloc_new w _
  have hR0 := Go.heap_alloc_new (w.alloc (.cells #[.int .i64 2, .int .i64 t, .int .i64 i, .int .i64 o, .int .i64 0] 23)) (.cells zK 53)
  rw [World.size_alloc] at hR0
  have hE1 := hE0.ext (Ext.alloc (w.alloc (.cells #[.int .i64 2, .int .i64 t, .int .i64 i, .int .i64 o, .int .i64 0] 23)) (.cells zK 53))
  have hX1 := Ext.trans (Ext.alloc w (.cells #[.int .i64 2, .int .i64 t, .int .i64 i, .int .i64 o, .int .i64 0] 23)) (Ext.alloc (w.alloc (.cells #[.int .i64 2, .int .i64 t, .int .i64 i, .int .i64 o, .int .i64 0] 23)) (.cells zK 53))
  have hS1 : ((w.alloc (.cells #[.int .i64 2, .int .i64 t, .int .i64 i, .int .i64 o, .int .i64 0] 23)).alloc (.cells zK 53)).heap.size = w.heap.size + 2 := by rw [World.size_alloc, World.size_alloc]
  obtain ⟨V, hV⟩ : ∃ V, (w.alloc (.cells #[.int .i64 2, .int .i64 t, .int .i64 i, .int .i64 o, .int .i64 0] 23)).alloc (.cells zK 53) = V := ⟨_, rfl⟩
  rw [hV] at hR0 hE1 hX1 hS1
  unfold zK at hV
  have HV := Lib.hid hV
  have HR0 := Lib.hid hR0
  have HE1 := Lib.hid hE1
  have HX1 := Lib.hid hX1
  have HS1 := Lib.hid hS1
  clear hE0 hV hR0 hE1 hX1 hS1
  go_enter Tryz.func33, Tryz.ntmps33
  go_wp2_with fail
  rw [HV.out]
  have HQ := Lib.hid (fun W (h : Ext V.drew W) => (HE1.out.ext (Ext.trans (Ext.drew V) h)).get)
  apply wp_region_seq (l := [_, _, _, _, _, _, _]) (t := [_]) [some 14, some 15, some 16, some 17, some 18, some 19, some 4, none] [[], [], [1], [2], [0, 3], [4], [], [5, 6]] [7, 7, 7, 7, 7, 7, 7] [(kdS 0), eqv _, eqv _, eqv _, (kpS 6), (eqv (.agg fK)), (nwB (w.heap.size + 2) 53 zK)] (by kernel_rfl) (by kernel_rfl) ⟨?o0, ?o1, ?o2, ?o3, ?o4, ?o5, ?o6, trivial⟩ ?last
  case o0 => -- Op.call { callee := Callee.value (Operand.func 17), args := #[], argTypes := #[]
    intro xv W hE _
    simp only [putD, List.foldl_nil, List.getD_cons_zero]
    refine OpGoal.plain ?_
    go_wp2_with fail
    refine (HK.out W).mono ?_
    rintro r W' ⟨rfl, hW'⟩
    go_wp2_with fail
    exact ⟨rfl, Ext.alloc _ _, W.heap.size, rfl, Nat.zero_le _, Go.heap_alloc_new _ _⟩
  case o1 => -- Op.fieldAddr 23 (Operand.tmp 1) 0
    intro xv W hE _
    simp only [putD, List.foldl_nil, List.getD_cons_zero, List.getD_cons_succ]
    refine OpGoal.plain ?_
    go_wp2_with fail
    exact ⟨rfl, Ext.refl _, rfl⟩
  case o2 => -- Op.load 3 (Operand.tmp 15)
    intro xv W hE hp
    have r1 : xv 1 = _ := hp.1
    clear hp
    obtain ⟨c0, _⟩ := HQ.out W hE
    simp only [putD, List.foldl_nil, List.foldl_cons, List.getD_cons_zero, List.getD_cons_succ, Act.put, List.setIfInBounds_toArray, List.set_cons_zero, List.set_cons_succ]
    refine OpGoal.plain ?_
    go_wp2_with fail
    exact ⟨rfl, Ext.refl _, rfl⟩
  case o3 => -- Op.binOp BinOp.sub 3 (Operand.tmp 16) (Operand.const (Value.int IntKind.i64 1)) 
    intro xv W hE hp
    have r2 : xv 2 = _ := hp.1
    clear hp
    simp only [putD, List.foldl_nil, List.foldl_cons, List.getD_cons_zero, List.getD_cons_succ, Act.put, List.setIfInBounds_toArray, List.set_cons_zero, List.set_cons_succ]
    refine OpGoal.plain ?_
    go_wp2_with fail
    exact ⟨rfl, Ext.refl _, rfl⟩
  case o4 => -- Op.indexAddr 54 (Operand.tmp 14) (Operand.tmp 17)
    intro xv W hE hp
    obtain ⟨g0, r0, lo0, h0⟩ := hp.1
    have r3 : xv 3 = _ := hp.2.1
    clear hp
    simp only [putD, List.foldl_nil, List.foldl_cons, List.getD_cons_zero, List.getD_cons_succ, Act.put, List.setIfInBounds_toArray, List.set_cons_zero, List.set_cons_succ]
    refine OpGoal.plain ?_
    go_wp2_with fail
    exact ⟨rfl, Ext.refl _, g0, rfl, h0⟩
  case o5 => -- Op.load 53 (Operand.tmp 18)
    intro xv W hE hp
    obtain ⟨g4, r4, h4⟩ := hp.1
    clear hp
    obtain ⟨c0, _⟩ := HQ.out W hE
    have q0 := kinds_cell h4 1 0 (by decide) (by decide)
    have q1 := kinds_cell h4 1 1 (by decide) (by decide)
    have q2 := kinds_cell h4 1 2 (by decide) (by decide)
    have q3 := kinds_cell h4 1 3 (by decide) (by decide)
    have q4 := kinds_cell h4 1 4 (by decide) (by decide)
    have q5 := kinds_cell h4 1 5 (by decide) (by decide)
    simp only [kindC, List.getD_cons_zero, List.getD_cons_succ, List.getElem?_cons_zero, List.getElem?_cons_succ, fnV, Nat.one_mul, Nat.reduceAdd] at q0 q1 q2 q3 q4 q5
    simp only [putD, List.foldl_nil, List.foldl_cons, List.getD_cons_zero, List.getD_cons_succ, Act.put, List.setIfInBounds_toArray, List.set_cons_zero, List.set_cons_succ]
    refine OpGoal.plain ?_
    go_wp2_with fail
    exact ⟨rfl, Ext.refl _, rfl⟩
  case o6 => -- Op.alloc 53
    intro xv W hE _
    simp only [putD, List.foldl_nil, List.getD_cons_zero, List.getD_cons_succ]
    refine OpGoal.plain ?_
    go_wp2_with fail
    exact ⟨rfl, Ext.alloc _ _, W.heap.size, rfl, by have := HS1.out; have := (Ext.trans (Ext.drew V) hE).sz; omega, Go.heap_alloc_new _ _⟩
  case last =>
    intro xv W hE hp
    obtain ⟨g0, r0, lo0, h0⟩ := hp.1
    have r1 : xv 1 = _ := hp.2.1
    have r2 : xv 2 = _ := hp.2.2.1
    have r3 : xv 3 = _ := hp.2.2.2.1
    obtain ⟨g4, r4, h4⟩ := hp.2.2.2.2.1
    have r5 : xv 5 = _ := hp.2.2.2.2.2.1
    obtain ⟨g6, r6, lo6, h6⟩ := hp.2.2.2.2.2.2.1
    clear hp
    simp only [putD, List.foldl_nil, List.foldl_cons, List.getD_cons_zero, List.getD_cons_succ, Act.put, List.length_cons, List.length_nil, List.range_succ, List.range_zero, List.nil_append, List.cons_append, List.setIfInBounds_toArray, List.set_cons_zero, List.set_cons_succ]
    simp only [r5, r6]
    have HX := Lib.hid (Ext.trans (Ext.drew V) hE)
    clear hE r0 r1 r2 r3 r4 r5 r6 lo0 h0 h4
    go_wp2_with (refine store_TE 53 53 g6 zK.toList fK.toList h6 rfl (by kernel_rfl) fK_one rfl (.tmp 4) (.tmp 19) rfl rfl rfl ?_; intro V2 h2 hg2)
    have hX2 : Ext V V2 := Ext.grow_ge HX.out hg2 (fun b e => by simp only [Option.some.injEq] at e; have := HS1.out; omega)
    have HX2 := Lib.hid hX2
    have h2' : V2.heap[g6]? = some (.cells fK 53 (0, 0)) := h2
    have hd2 : oS (w.heap.size + 1) V2 V2.drew := OnceS.ext (Ext.drew V2) (by have := HS1.out; have := hX2.sz; omega)
    have HQ4 := Lib.hid (fun W (h : oS (w.heap.size + 1) V2.drew W) => And.intro ((HE1.out.ext hX2).below (Nat.lt_succ_self _) (oS.trans _ hd2 h).1).get (And.intro (oS.keep (oS.trans _ hd2 h) (by omega) h2') (And.intro (Nat.le_trans (show w.heap.size + 1 ≤ V2.heap.size by have := HS1.out; have := hX2.sz; omega) (oS.trans _ hd2 h).1.size) (oS.zero (oS.trans _ hd2 h) (Nat.le_refl _) (blk_ext HR0.out hX2)))))
    clear h2 h2' hd2 hX2 hg2 h6 lo6 HQ
    apply wp_region_new (E := oS (w.heap.size + 1)) [] (fun h => oS.sz h) (oS.refl (w.heap.size + 1)) (@oS.trans (w.heap.size + 1)) (l := [_, _, _, _, _, _, _, _, _, _, _, _, _, _, _, _]) (t := [_]) [some 20, some 21, some 22, some 23, some 24, some 25, some 26, some 27, some 28, some 29, some 30, some 31, some 32, some 33, some 34, none, some 3] [[], [], [], [2], [], [4], [], [6], [], [8], [], [10], [9, 11], [3, 5, 7, 12], [1, 13], [0], [14]] [16, 16, 16, 16, 16, 16, 16, 16, 16, 16, 16, 16, 16, 16, 16, 16] [(eql (.agg fK)), (eql (.agg #[.int .i64 2, .int .i64 t, .int .i64 i, .int .i64 o, .int .i64 0])), eql _, eql _, eql _, eql _, eql _, eql _, eql _, (eql (.func (.func 39) #[] #[])), (eql (.agg #[.int .i64 2, .int .i64 t, .int .i64 i, .int .i64 o, .int .i64 0])), (eql (.agg #[.int .i64 2, .int .i64 t, .int .i64 i, .int .i64 o, .int .i64 0])), (eql (.int .i64 o)), (eql (.agg #[.int .i64 2, .int .i64 t, .int .i64 i, .int .i64 o, .int .i64 0])), (eql (.bool true)), (wrK (w.heap.size + 1) (w.heap.size + 1))] (by kernel_rfl) (by kernel_rfl) (by kernel_rfl) ⟨?o0, ?o1, ?o2, ?o3, ?o4, ?o5, ?o6, ?o7, ?o8, ?o9, ?o10, ?o11, ?o12, ?o13, ?o14, ?o15, trivial⟩ ?last
    case o0 => -- Op.load 53 (Operand.tmp 4)
      intro xv W hE _
      obtain ⟨⟨c0, c1, c2, c3, c4⟩, hf, _⟩ := HQ4.out W hE
      obtain ⟨f0, f1, f2, f3, f4, f5⟩ := fK_cells hf
      simp only [putD, List.foldl_nil, List.getD_cons_zero]
      refine OpGoal.plain ?_
      go_wp2_with fail
      exact ⟨rfl, oS.refl _ _, rfl⟩
    case o1 => -- Op.load 23 (Operand.tmp 1)
      intro xv W hE _
      obtain ⟨⟨c0, c1, c2, c3, c4⟩, hf, _⟩ := HQ4.out W hE
      obtain ⟨f0, f1, f2, f3, f4, f5⟩ := fK_cells hf
      simp only [putD, List.foldl_nil, List.getD_cons_zero, List.getD_cons_succ]
      refine OpGoal.plain ?_
      go_wp2_with fail
      exact ⟨rfl, oS.refl _ _, rfl⟩
    case o2 => -- Op.fieldAddr 23 (Operand.tmp 1) 0
      intro xv W hE _
      simp only [putD, List.foldl_nil, List.getD_cons_zero, List.getD_cons_succ]
      refine OpGoal.plain ?_
      go_wp2_with fail
      exact ⟨rfl, (oS.refl (w.heap.size + 1)) _, rfl⟩
    case o3 => -- Op.load 3 (Operand.tmp 22)
      intro xv W hE hp
      have r2 : xv 2 = _ := hp.1
      clear hp
      obtain ⟨⟨c0, c1, c2, c3, c4⟩, hf, _⟩ := HQ4.out W hE
      obtain ⟨f0, f1, f2, f3, f4, f5⟩ := fK_cells hf
      simp only [putD, List.foldl_nil, List.foldl_cons, List.getD_cons_zero, List.getD_cons_succ, Act.put, List.setIfInBounds_toArray, List.set_cons_zero, List.set_cons_succ]
      refine OpGoal.plain ?_
      go_wp2_with fail
      exact ⟨rfl, (oS.refl (w.heap.size + 1)) _, rfl⟩
    case o4 => -- Op.fieldAddr 23 (Operand.tmp 1) 1
      intro xv W hE _
      simp only [putD, List.foldl_nil, List.getD_cons_zero, List.getD_cons_succ]
      refine OpGoal.plain ?_
      go_wp2_with fail
      exact ⟨rfl, (oS.refl (w.heap.size + 1)) _, rfl⟩
    case o5 => -- Op.load 3 (Operand.tmp 24)
      intro xv W hE hp
      have r4 : xv 4 = _ := hp.1
      clear hp
      obtain ⟨⟨c0, c1, c2, c3, c4⟩, hf, _⟩ := HQ4.out W hE
      obtain ⟨f0, f1, f2, f3, f4, f5⟩ := fK_cells hf
      simp only [putD, List.foldl_nil, List.foldl_cons, List.getD_cons_zero, List.getD_cons_succ, Act.put, List.setIfInBounds_toArray, List.set_cons_zero, List.set_cons_succ]
      refine OpGoal.plain ?_
      go_wp2_with fail
      exact ⟨rfl, (oS.refl (w.heap.size + 1)) _, rfl⟩
    case o6 => -- Op.fieldAddr 23 (Operand.tmp 1) 2
      intro xv W hE _
      simp only [putD, List.foldl_nil, List.getD_cons_zero, List.getD_cons_succ]
      refine OpGoal.plain ?_
      go_wp2_with fail
      exact ⟨rfl, (oS.refl (w.heap.size + 1)) _, rfl⟩
    case o7 => -- Op.load 3 (Operand.tmp 26)
      intro xv W hE hp
      have r6 : xv 6 = _ := hp.1
      clear hp
      obtain ⟨⟨c0, c1, c2, c3, c4⟩, hf, _⟩ := HQ4.out W hE
      obtain ⟨f0, f1, f2, f3, f4, f5⟩ := fK_cells hf
      simp only [putD, List.foldl_nil, List.foldl_cons, List.getD_cons_zero, List.getD_cons_succ, Act.put, List.setIfInBounds_toArray, List.set_cons_zero, List.set_cons_succ]
      refine OpGoal.plain ?_
      go_wp2_with fail
      exact ⟨rfl, (oS.refl (w.heap.size + 1)) _, rfl⟩
    case o8 => -- Op.fieldAddr 53 (Operand.tmp 4) 1
      intro xv W hE _
      simp only [putD, List.foldl_nil, List.getD_cons_zero, List.getD_cons_succ]
      refine OpGoal.plain ?_
      go_wp2_with fail
      exact ⟨rfl, (oS.refl (w.heap.size + 1)) _, rfl⟩
    case o9 => -- Op.load 48 (Operand.tmp 28)
      intro xv W hE hp
      have r8 : xv 8 = _ := hp.1
      clear hp
      obtain ⟨⟨c0, c1, c2, c3, c4⟩, hf, _⟩ := HQ4.out W hE
      obtain ⟨f0, f1, f2, f3, f4, f5⟩ := fK_cells hf
      simp only [putD, List.foldl_nil, List.foldl_cons, List.getD_cons_zero, List.getD_cons_succ, Act.put, List.setIfInBounds_toArray, List.set_cons_zero, List.set_cons_succ]
      refine OpGoal.plain ?_
      go_wp2_with fail
      exact ⟨rfl, oS.refl _ _, rfl⟩
    case o10 => -- Op.load 23 (Operand.tmp 1)
      intro xv W hE _
      obtain ⟨⟨c0, c1, c2, c3, c4⟩, hf, _⟩ := HQ4.out W hE
      obtain ⟨f0, f1, f2, f3, f4, f5⟩ := fK_cells hf
      simp only [putD, List.foldl_nil, List.getD_cons_zero, List.getD_cons_succ]
      refine OpGoal.plain ?_
      go_wp2_with fail
      exact ⟨rfl, oS.refl _ _, rfl⟩
    case o11 => -- Op.build 58 #[(0, Operand.tmp 30)]
      intro xv W hE hp
      have r10 : xv 10 = _ := hp.1
      clear hp
      simp only [putD, List.foldl_nil, List.foldl_cons, List.getD_cons_zero, List.getD_cons_succ, Act.put, List.setIfInBounds_toArray, List.set_cons_zero, List.set_cons_succ]
      refine OpGoal.plain ?_
      go_wp2_with fail
      exact ⟨rfl, oS.refl _ _, rfl⟩
    case o12 => -- Op.call { callee := Callee.value (Operand.tmp 29), args := #[Operand.tmp 31], ar
      intro xv W hE hp
      have r9 : xv 9 = _ := hp.1
      have r11 : xv 11 = _ := hp.2.1
      clear hp
      simp only [putD, List.foldl_nil, List.foldl_cons, List.getD_cons_zero, List.getD_cons_succ, Act.put, List.setIfInBounds_toArray, List.set_cons_zero, List.set_cons_succ]
      refine OpGoal.plain ?_
      go_wp2_with fail
      refine (HO.out W).mono ?_
      rintro r W' ⟨rfl, hE'⟩
      go_wp2_with fail
      exact ⟨rfl, ⟨OnceS.ext hE' (HQ4.out W hE).2.2.1, rfl⟩, fun h => by simp at h⟩
    case o13 => -- Op.call { callee := Callee.value (Operand.func 26), args := #[Operand.tmp 23, Op
      intro xv W hE hp
      have r3 : xv 3 = _ := hp.1
      have r5 : xv 5 = _ := hp.2.1
      have r7 : xv 7 = _ := hp.2.2.1
      have r12 : xv 12 = _ := hp.2.2.2.1
      clear hp
      simp only [putD, List.foldl_nil, List.foldl_cons, List.getD_cons_zero, List.getD_cons_succ, Act.put, List.setIfInBounds_toArray, List.set_cons_zero, List.set_cons_succ]
      refine OpGoal.plain ?_
      go_wp2_with fail
      refine (HM.out W).mono ?_
      rintro r W' ⟨rfl, hE'⟩
      go_wp2_with fail
      exact ⟨rfl, ⟨OnceS.ext hE' (HQ4.out W hE).2.2.1, rfl⟩, fun h => by simp at h⟩
    case o14 => -- Op.binOp BinOp.eql 23 (Operand.tmp 21) (Operand.tmp 33) 23
      intro xv W hE hp
      have r1 : xv 1 = _ := hp.1
      have r13 : xv 13 = _ := hp.2.1
      clear hp
      simp only [putD, List.foldl_nil, List.foldl_cons, List.getD_cons_zero, List.getD_cons_succ, Act.put, List.setIfInBounds_toArray, List.set_cons_zero, List.set_cons_succ]
      refine OpGoal.plain ?_
      go_wp2_with fail
      exact ⟨rfl, oS.refl _ _, rfl⟩
    case o15 => -- Op.store 53 (Operand.tmp 2) (Operand.tmp 20)
      intro xv W hE hp
      have r0 : xv 0 = _ := hp.1
      clear hp
      simp only [putD, List.foldl_nil, List.foldl_cons, List.getD_cons_zero, List.getD_cons_succ, Act.put, List.setIfInBounds_toArray, List.set_cons_zero, List.set_cons_succ]
      refine OpGoal.plain ?_
      simp only [r0]
      obtain ⟨_, _, hsz, hz⟩ := HQ4.out W hE
      have hz2 := hz
      rcases hz with hz | hz
      · refine store_TE 53 53 (w.heap.size + 1) zK.toList fK.toList hz rfl (by kernel_rfl) fK_one rfl (.tmp 2) (.tmp 20) rfl rfl rfl ?_
        intro w9 h9 hg9
        exact ⟨rfl, fun _ => ⟨⟨OnceS.put hsz (Nat.le_refl _) hz2 h9 hg9, Nat.le_refl _, h9⟩, fun h => by simp at h⟩⟩
      · refine store_TE 53 53 (w.heap.size + 1) fK.toList fK.toList hz rfl (by kernel_rfl) fK_one rfl (.tmp 2) (.tmp 20) rfl rfl rfl ?_
        intro w9 h9 hg9
        exact ⟨rfl, fun _ => ⟨⟨OnceS.put hsz (Nat.le_refl _) hz2 h9 hg9, Nat.le_refl _, h9⟩, fun h => by simp at h⟩⟩
    case last =>
      intro xv W hE hp hpr
      have r0 : xv 0 = _ := hp.1
      have r1 : xv 1 = _ := hp.2.1
      have r2 : xv 2 = _ := hp.2.2.1
      have r3 : xv 3 = _ := hp.2.2.2.1
      have r4 : xv 4 = _ := hp.2.2.2.2.1
      have r5 : xv 5 = _ := hp.2.2.2.2.2.1
      have r6 : xv 6 = _ := hp.2.2.2.2.2.2.1
      have r7 : xv 7 = _ := hp.2.2.2.2.2.2.2.1
      have r8 : xv 8 = _ := hp.2.2.2.2.2.2.2.2.1
      have r9 : xv 9 = _ := hp.2.2.2.2.2.2.2.2.2.1
      have r10 : xv 10 = _ := hp.2.2.2.2.2.2.2.2.2.2.1
      have r11 : xv 11 = _ := hp.2.2.2.2.2.2.2.2.2.2.2.1
      have r12 : xv 12 = _ := hp.2.2.2.2.2.2.2.2.2.2.2.2.1
      have r13 : xv 13 = _ := hp.2.2.2.2.2.2.2.2.2.2.2.2.2.1
      have r14 : xv 14 = _ := hp.2.2.2.2.2.2.2.2.2.2.2.2.2.2.1
      have r15 := hp.2.2.2.2.2.2.2.2.2.2.2.2.2.2.2.1
      clear hp
      simp only [putD, List.foldl_nil, List.foldl_cons, List.getD_cons_zero, List.getD_cons_succ, Act.put, List.length_cons, List.length_nil, List.range_succ, List.range_zero, List.nil_append, List.cons_append, List.setIfInBounds_toArray, List.set_cons_zero, List.set_cons_succ]
      simp only [r14]
      have h15 := r15.2
      have hW : Ext w W := Below.trans (Ext.trans HX1.out HX2.out) (Below.trans (Below.mono (Ext.drew V2) (Ext.trans HX1.out HX2.out).sz) (Below.mono hE.1 (by omega)))
      clear r0 r1 r2 r3 r4 r5 r6 r7 r8 r9 r10 r11 r12 r13 r14 r15 hpr hE
      go_wp2_with fail
      exact bodyPost_ret (results_K rfl h15 _ (.bool true) rfl rfl) rfl ⟨rfl, hW⟩
end Go.Proofs.YtompfgofaplffaaGreatDoor
