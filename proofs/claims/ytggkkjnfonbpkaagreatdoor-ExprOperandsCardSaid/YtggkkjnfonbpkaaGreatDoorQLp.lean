/- The law ExprOperands: its walk. -/
import Derived.Test.YtggkkjnfonbpkaaGreatDoorQXk
import Derived.Test.YtggkkjnfonbpkaaGreatDoorQId
import Derived.Test.YtggkkjnfonbpkaaGreatDoorQIf
import Derived.Test.YtggkkjnfonbpkaaGreatDoorQPo
import Derived.Test.YtggkkjnfonbpkaaGreatDoorQLr
import Derived.Deep.Cut

set_option linter.unusedSimpArgs false
set_option linter.unusedVariables false
namespace Go.Proofs.YtggkkjnfonbpkaaGreatDoor
open Go.RowKit Hach

set_option maxRecDepth 100000 in
set_option maxHeartbeats 8000000 in
theorem ExprOperands_any (A0 A1 : Option Addr) (n0 c0 n1 c1 : Nat) (q0 q1 q2 : Int) (w : World) (htab : Tabs w) (hL0 : LI w A0 n0) (hL1 : LI w A1 n1) :
    Calls Tryz.prog 7 #[.slice A0 n0 c0, .slice A1 n1 c1, .agg #[.int .i64 q0, .int .i64 q1, .int .i64 q2]] w fun e w' => e = .returned (.bool true) ∧ Ext w w' := by
  obtain ⟨w0, hw0⟩ : ∃ w0, w.alloc (.cells #[.int .i64 q0, .int .i64 q1, .int .i64 q2] 23) = w0 := ⟨_, rfl⟩
  have hE0 : Ext w w0 := by rw [← hw0]; exact Ext.alloc _ _
  have hz0 : w.heap.size < w0.heap.size := by rw [← hw0]; simp
  have p0 : w0.cell? ⟨w.heap.size, 0, none⟩ = some (.int .i64 q0) := by rw [← hw0, World.cell?_alloc_new]; rfl
  have p1 : w0.cell? ⟨w.heap.size, 1, none⟩ = some (.int .i64 q1) := by rw [← hw0, World.cell?_alloc_new]; rfl
  have p2 : w0.cell? ⟨w.heap.size, 2, none⟩ = some (.int .i64 q2) := by rw [← hw0, World.cell?_alloc_new]; rfl
  have HT := Lib.hid (htab.ext hE0)
  have HL0 := Lib.hid (hL0.ext hE0)
  have HL1 := Lib.hid (hL1.ext hE0)
  clear hL0 hL1 htab
  go_enter Tryz.func7, Tryz.ntmps7
  go_wp2_with fail
  clear hw0
  refine (sanity_any w0 HT.out).mono ?_
  rintro e w1 ⟨rfl, hE1⟩
  go_wp2_with fail
  refine (expr_any A0 n0 c0 w1 (HL0.out.ext hE1)).mono ?_
  rintro e w2 ⟨a, ta, Aa, ca, da, hRa, hSa, rfl, hXa, hE2⟩
  unfold Ex.cells
  go_wp2_with fail
  refine (expr_any A1 n1 c1 w2 (HL1.out.ext (hE1.trans hE2))).mono ?_
  rintro e w3 ⟨b, tb, Ab, cb, db, hRb, hSb, rfl, hXb, hE3⟩
  unfold Ex.cells
  have HRa := Lib.hid hRa
  have HRb := Lib.hid hRb
  clear hRa hRb
  go_upto_region 3 with fail
  obtain ⟨y1, hy1⟩ : ∃ y, w3.alloc (.cells #[.int .i64 a.op, .int .i64 a.var, .int .i64 a.ty, .int .i64 a.n, .bool a.b, .string ⟨a.s.toArray⟩, .slice Aa a.l.length ca] 29) = y := ⟨_, rfl⟩
  obtain ⟨w4, hw4⟩ : ∃ y, y1.alloc (.cells #[.int .i64 b.op, .int .i64 b.var, .int .i64 b.ty, .int .i64 b.n, .bool b.b, .string ⟨b.s.toArray⟩, .slice Ab b.l.length cb] 29) = y := ⟨_, rfl⟩
  have hX1 : Ext w3 y1 := by rw [← hy1]; exact Ext.alloc _ _
  have hX2 : Ext y1 w4 := by rw [← hw4]; exact Ext.alloc _ _
  have hs1 : y1.heap.size = w3.heap.size + 1 := by rw [← hy1]; simp
  have hia := InBlk.new2 w3 a Aa ca
  have hib := InBlk.new2 y1 b Ab cb
  unfold Ex.cells at hia hib
  rw [hy1] at hia
  rw [hw4, hs1] at hib
  have h34 := hX1.trans hX2
  have hia4 := hia.ext hX2
  have hXa4 := ExL.ext (hXa.more fun k hk => hk.2) (hE3.trans h34)
  have hXb4 := ExL.ext (hXb.more fun k hk => hk.2) h34
  have hE14 := ((hE1.trans hE2).trans hE3).trans h34
  have HY1 := Lib.hid hy1
  have HY2 := Lib.hid hw4
  rw [HY1.out, HY2.out]
  have hca := chk_of HRa.out (by omega)
  have hcb := chk_of HRb.out (by omega)
  have CKa := Lib.hid (fun (W : World) (h : Ext w4 W) => Check_any a da Aa ca W (hXa4.ext h) (by omega) (rt_ok HRa.out))
  have CKb := Lib.hid (fun (W : World) (h : Ext w4 W) => Check_any b db Ab cb W (hXb4.ext h) (by omega) (rt_ok HRb.out))
  rw [hca.1, hca.2] at CKa
  rw [hcb.1, hcb.2] at CKb
  unfold Ex.cells at CKa CKb
  obtain ⟨la0, la1, la2, la3, la4, la5, la6⟩ := hia4.cells
  clear hy1 hw4 hX1 hX2 hia hXa hXb hca hcb
  go_wp2_with fail
  refine (CKa.out _ (Ext.refl _)).mono ?_
  rintro e w5 ⟨rfl, hE5⟩
  clear la0 la1 la2 la3 la4 la5 la6
  obtain ⟨lb0, lb1, lb2, lb3, lb4, lb5, lb6⟩ := (hib.ext hE5).cells
  go_wp2_with fail
  refine (CKb.out _ hE5).mono ?_
  rintro e w6 ⟨rfl, hE6⟩
  have hE46 := hE5.trans hE6
  clear lb0 lb1 lb2 lb3 lb4 lb5 lb6
  have hia6 := hia4.ext hE46
  have hib6 := hib.ext hE46
  have hXa6 := hXa4.ext hE46
  have hXb6 := hXb4.ext hE46
  obtain ⟨la0, la1, la2, la3, la4, la5, la6⟩ := hia6.cells
  obtain ⟨lb0, lb1, lb2, lb3, lb4, lb5, lb6⟩ := hib6.cells
  go_upto_region 6 with fail
  clear la0 la1 la2 la3 la4 la5 la6 lb0 lb1 lb2 lb3 lb4 lb5 lb6
  have hrow := row2' w6 a Aa ca da b Ab cb db hXa6 hXb6
  obtain ⟨y7, hy7⟩ : ∃ y, w6.alloc (.cells #[.int .i64 a.op, .int .i64 a.var, .int .i64 a.ty, .int .i64 a.n, .bool a.b, .string ⟨a.s.toArray⟩, .slice Aa a.l.length ca, .int .i64 b.op, .int .i64 b.var, .int .i64 b.ty, .int .i64 b.n, .bool b.b, .string ⟨b.s.toArray⟩, .slice Ab b.l.length cb] 29) = y := ⟨_, rfl⟩
  rw [hy7] at hrow
  obtain ⟨w8, hw8⟩ : ∃ y, y7.alloc (.cells #[.int .i64 6, .int .i64 0, .int .i64 0, .int .i64 0, .bool false, .string ⟨#[]⟩, .slice (some ⟨w6.heap.size, 0, none⟩) 2 2] 29) = y := ⟨_, rfl⟩
  have hE67 : Ext w6 y7 := by rw [← hy7]; exact Ext.alloc _ _
  have hE78 : Ext y7 w8 := by rw [← hw8]; exact Ext.alloc _ _
  have hs7 : y7.heap.size = w6.heap.size + 1 := by rw [← hy7]; simp
  have hix := InBlk.new2 y7 (exOp 6 [a, b]) (some ⟨w6.heap.size, 0, none⟩) 2
  have hix8 : InBlk w8 (w6.heap.size + 1) (exOp 6 [a, b]) (.slice (some ⟨w6.heap.size, 0, none⟩) 2 2) := by rw [← hs7, ← hw8]; exact hix
  have hE68 := hE67.trans hE78
  have HIa := Lib.hid (hia6.ext hE68)
  have HIb := Lib.hid (hib6.ext hE68)
  have HIx := Lib.hid hix8
  have hXx8 := ExL.ext hrow hE78
  have hXa8 := hXa6.ext hE68
  have hXb8 := hXb6.ext hE68
  have hsx : (exOp 6 [a, b]).size = 1 + (a.size + b.size) := size_2 6 a b
  have hokx : (exOp 6 [a, b]).ok := ⟨by decide, by decide, by decide, by decide, by decide, rt_ok HRa.out, rt_ok HRb.out, trivial⟩
  have HEq := Lib.hid (operands_chk HRa.out HRb.out)
  have CKx := Lib.hid (fun (W : World) (h : Ext w8 W) => Check_any (exOp 6 [a, b]) (da + db + 1) (some ⟨w6.heap.size, 0, none⟩) 2 W (hXx8.ext h) (by omega) hokx)
  have SZx := Lib.hid (fun (W : World) (h : Ext w8 W) => Size_any (da + db + 1) (exOp 6 [a, b]) (some ⟨w6.heap.size, 0, none⟩) 2 W (hXx8.ext h) (by omega))
  have SZa := Lib.hid (fun (W : World) (h : Ext w8 W) => Size_any da a Aa ca W (hXa8.ext h) (by omega))
  have SZb := Lib.hid (fun (W : World) (h : Ext w8 W) => Size_any db b Ab cb W (hXb8.ext h) (by omega))
  have HXa8 := Lib.hid hXa8
  have HXb8 := Lib.hid hXb8
  have HE8 := Lib.hid (hE0.trans (hE14.trans (hE46.trans hE68)))
  have HE08 := Lib.hid (hE14.trans (hE46.trans hE68))
  rw [hsx] at SZx
  have HSA := Lib.hid hSa
  have HSB := Lib.hid hSb
  obtain ⟨NA, hNA⟩ : ∃ n, a.size = n := ⟨_, rfl⟩
  obtain ⟨NB, hNB⟩ : ∃ n, b.size = n := ⟨_, rfl⟩
  rw [hNA] at SZx SZa hSa HEq
  rw [hNB] at SZx SZb hSb HEq
  have tsx : (exOp 6 [a, b]).cells (some ⟨w6.heap.size, 0, none⟩) 2 = [.int .i64 6, .int .i64 0, .int .i64 0, .int .i64 0, .bool false, .string ⟨#[]⟩, .slice (some ⟨w6.heap.size, 0, none⟩) 2 2] := rfl
  rw [tsx] at CKx SZx
  unfold Ex.cells at SZa SZb
  obtain ⟨T, hT⟩ : ∃ t, chkT (exOp 6 [a, b]) = t := ⟨_, rfl⟩
  obtain ⟨E, hE0'⟩ : ∃ t, chkE (exOp 6 [a, b]) = t := ⟨_, rfl⟩
  rw [hT, hE0'] at CKx
  rw [hE0'] at HEq
  have HY7 := Lib.hid hy7
  have HY8 := Lib.hid hw8
  rw [HY7.out, HY8.out]
  obtain ⟨bx, hbx⟩ : ∃ q, w6.heap.size + 1 = q := ⟨_, rfl⟩
  obtain ⟨lx0, lx1, lx2, lx3, lx4, lx5, lx6⟩ : w8.cell? ⟨w6.heap.size + 1, 0, none⟩ = some (.int .i64 6) ∧ w8.cell? ⟨w6.heap.size + 1, 1, none⟩ = some (.int .i64 0) ∧ w8.cell? ⟨w6.heap.size + 1, 2, none⟩ = some (.int .i64 0) ∧ w8.cell? ⟨w6.heap.size + 1, 3, none⟩ = some (.int .i64 0) ∧ w8.cell? ⟨w6.heap.size + 1, 4, none⟩ = some (.bool false) ∧ w8.cell? ⟨w6.heap.size + 1, 5, none⟩ = some (.string ⟨#[]⟩) ∧ w8.cell? ⟨w6.heap.size + 1, 6, none⟩ = some (.slice (some ⟨w6.heap.size, 0, none⟩) 2 2) := hix8.cells
  have HIX : Hid (∀ W, Ext w8 W → W.cell? ⟨w6.heap.size + 1, 0, none⟩ = some (.int .i64 6) ∧ W.cell? ⟨w6.heap.size + 1, 1, none⟩ = some (.int .i64 0) ∧ W.cell? ⟨w6.heap.size + 1, 2, none⟩ = some (.int .i64 0) ∧ W.cell? ⟨w6.heap.size + 1, 3, none⟩ = some (.int .i64 0) ∧ W.cell? ⟨w6.heap.size + 1, 4, none⟩ = some (.bool false) ∧ W.cell? ⟨w6.heap.size + 1, 5, none⟩ = some (.string ⟨#[]⟩) ∧ W.cell? ⟨w6.heap.size + 1, 6, none⟩ = some (.slice (some ⟨w6.heap.size, 0, none⟩) 2 2)) := Lib.hid (fun W h => (hix8.ext h).cells)
  clear hy7 hw8 hrow hE67 hE78 hs7 hix hix8 hE68 hXx8 hXa8 hXb8 hsx hokx hNA hNB tsx hT hE0' hia6 hib6 hXa6 hXb6 hE46 hE14 hE5 hE6 hia4 hib hXa4 hXb4 h34 hs1 CKa CKb HY1 HY2 HY7 HY8 hE0 hE1 hE2 hE3 hbx bx
  go_wp2_with fail
  refine (CKx.out _ (Ext.refl _)).mono ?_
  rintro e w9 ⟨rfl, hE9⟩
  clear lx0 lx1 lx2 lx3 lx4 lx5 lx6
  go_upto_region 7 with fail
  go_cut [78] from 24 (fun v wx => v = .bool false ∧ Ext w8 wx)
  case first =>
    by_cases hz : 1 + (NA + NB) ≤ 60
    · skip
      apply wp_region_seq (l := [_, _, _, _, _, _, _, _, _, _, _, _, _, _, _, _, _, _, _, _, _, _, _, _, _, _, _, _, _, _]) (t := [_]) [some 48, some 49, some 50, some 51, some 52, some 53, some 54, some 55, some 56, some 57, some 58, some 59, some 60, some 61, some 62, some 63, some 64, some 65, some 66, some 67, some 68, some 69, some 70, some 71, some 72, some 73, some 74, some 75, some 76, some 77, some 78] [[], [0], [], [2], [3], [], [5], [4, 6], [1, 7], [8], [9], [9, 10], [9, 11], [9, 12], [13], [13, 14], [13], [13], [13, 16, 17], [13, 15, 18], [9, 13, 19], [9, 20], [21], [22], [22, 23], [22, 24], [22, 25], [26], [26, 27], [22, 26, 28], [22, 29]] [1, 8, 3, 6, 7, 6, 9, 8, 9, 21, 11, 13, 13, 22, 15, 19, 18, 18, 19, 20, 21, 22, 30, 24, 26, 26, 29, 28, 29, 30] [eqv _, (eqv (.int .i64 ((1 + (NA + NB) : Nat) : Int))), eqv _, (eqv (.int .i64 (NA : Nat))), eqv _, eqv _, (eqv (.int .i64 (NB : Nat))), eqv _, (eqv (.bool false)), eqv _, eqv _, (eqv (.int .i64 ((1 + (NA + NB) : Nat) : Int))), (eqv (.bool true)), eqv _, eqv _, (eqv (.bool (E == 0))), eqv _, eqv _, (eqv (.bool (ta == tb))), (eqv (.bool false)), eqv _, eqv _, eqv _, eqv _, (eqv (.int .i64 ((1 + (NA + NB) : Nat) : Int))), (eqv (.bool false)), eqv _, eqv _, eqv _, eqv _] (by kernel_rfl) (by kernel_rfl) ⟨?o0, ?o1, ?o2, ?o3, ?o4, ?o5, ?o6, ?o7, ?o8, ?o9, ?o10, ?o11, ?o12, ?o13, ?o14, ?o15, ?o16, ?o17, ?o18, ?o19, ?o20, ?o21, ?o22, ?o23, ?o24, ?o25, ?o26, ?o27, ?o28, ?o29, trivial⟩ ?last
      case o0 => -- Op.load 29 (Operand.tmp 14)
        intro xv W hE _
        obtain ⟨la0, la1, la2, la3, la4, la5, la6⟩ := (HIa.out.ext (hE9.trans ((Ext.drew w9).trans hE))).cells
        obtain ⟨lb0, lb1, lb2, lb3, lb4, lb5, lb6⟩ := (HIb.out.ext (hE9.trans ((Ext.drew w9).trans hE))).cells
        obtain ⟨lx0, lx1, lx2, lx3, lx4, lx5, lx6⟩ := (HIx.out.ext (hE9.trans ((Ext.drew w9).trans hE))).cells
        simp only [putD, List.foldl_nil, List.getD_cons_zero]
        refine OpGoal.plain ?_
        go_wp2_with fail
        exact ⟨rfl, Ext.refl _, rfl⟩
      case o1 => -- Op.call { callee := Callee.value (Operand.func 29), args := #[Operand.tmp 48], a
        intro xv W hE hp
        have r0 : xv 0 = _ := hp.1
        clear hp
        simp only [putD, List.foldl_nil, List.foldl_cons, List.getD_cons_zero, List.getD_cons_succ, Act.put, List.setIfInBounds_toArray, List.set_cons_zero, List.set_cons_succ]
        refine OpGoal.plain ?_
        go_wp2_with fail
        refine (SZx.out W (hE9.trans ((Ext.drew w9).trans hE))).mono ?_
        rintro r w' ⟨rfl, hE9⟩
        go_wp2_with fail
        exact ⟨rfl, hE9, rfl⟩
      case o2 => -- Op.load 29 (Operand.tmp 8)
        intro xv W hE _
        obtain ⟨la0, la1, la2, la3, la4, la5, la6⟩ := (HIa.out.ext (hE9.trans ((Ext.drew w9).trans hE))).cells
        obtain ⟨lb0, lb1, lb2, lb3, lb4, lb5, lb6⟩ := (HIb.out.ext (hE9.trans ((Ext.drew w9).trans hE))).cells
        obtain ⟨lx0, lx1, lx2, lx3, lx4, lx5, lx6⟩ := (HIx.out.ext (hE9.trans ((Ext.drew w9).trans hE))).cells
        simp only [putD, List.foldl_nil, List.getD_cons_zero, List.getD_cons_succ]
        refine OpGoal.plain ?_
        go_wp2_with fail
        exact ⟨rfl, Ext.refl _, rfl⟩
      case o3 => -- Op.call { callee := Callee.value (Operand.func 29), args := #[Operand.tmp 50], a
        intro xv W hE hp
        have r2 : xv 2 = _ := hp.1
        clear hp
        simp only [putD, List.foldl_nil, List.foldl_cons, List.getD_cons_zero, List.getD_cons_succ, Act.put, List.setIfInBounds_toArray, List.set_cons_zero, List.set_cons_succ]
        refine OpGoal.plain ?_
        go_wp2_with fail
        refine (SZa.out W (hE9.trans ((Ext.drew w9).trans hE))).mono ?_
        rintro r w' ⟨rfl, hE9⟩
        go_wp2_with fail
        exact ⟨rfl, hE9, rfl⟩
      case o4 => -- Op.binOp BinOp.add 3 (Operand.const (Value.int IntKind.i64 1)) (Operand.tmp 51) 
        intro xv W hE hp
        have r3 : xv 3 = _ := hp.1
        clear hp
        simp only [putD, List.foldl_nil, List.foldl_cons, List.getD_cons_zero, List.getD_cons_succ, Act.put, List.setIfInBounds_toArray, List.set_cons_zero, List.set_cons_succ]
        refine OpGoal.plain ?_
        go_wp2_with fail
        exact ⟨rfl, Ext.refl _, rfl⟩
      case o5 => -- Op.load 29 (Operand.tmp 9)
        intro xv W hE _
        obtain ⟨la0, la1, la2, la3, la4, la5, la6⟩ := (HIa.out.ext (hE9.trans ((Ext.drew w9).trans hE))).cells
        obtain ⟨lb0, lb1, lb2, lb3, lb4, lb5, lb6⟩ := (HIb.out.ext (hE9.trans ((Ext.drew w9).trans hE))).cells
        obtain ⟨lx0, lx1, lx2, lx3, lx4, lx5, lx6⟩ := (HIx.out.ext (hE9.trans ((Ext.drew w9).trans hE))).cells
        simp only [putD, List.foldl_nil, List.getD_cons_zero, List.getD_cons_succ]
        refine OpGoal.plain ?_
        go_wp2_with fail
        exact ⟨rfl, Ext.refl _, rfl⟩
      case o6 => -- Op.call { callee := Callee.value (Operand.func 29), args := #[Operand.tmp 53], a
        intro xv W hE hp
        have r5 : xv 5 = _ := hp.1
        clear hp
        simp only [putD, List.foldl_nil, List.foldl_cons, List.getD_cons_zero, List.getD_cons_succ, Act.put, List.setIfInBounds_toArray, List.set_cons_zero, List.set_cons_succ]
        refine OpGoal.plain ?_
        go_wp2_with fail
        refine (SZb.out W (hE9.trans ((Ext.drew w9).trans hE))).mono ?_
        rintro r w' ⟨rfl, hE9⟩
        go_wp2_with fail
        exact ⟨rfl, hE9, rfl⟩
      case o7 => -- Op.binOp BinOp.add 3 (Operand.tmp 52) (Operand.tmp 54) 3
        intro xv W hE hp
        have r4 : xv 4 = _ := hp.1
        have r6 : xv 6 = _ := hp.2.1
        clear hp
        simp only [putD, List.foldl_nil, List.foldl_cons, List.getD_cons_zero, List.getD_cons_succ, Act.put, List.setIfInBounds_toArray, List.set_cons_zero, List.set_cons_succ]
        refine OpGoal.plain ?_
        go_wp2_with fail
        exact ⟨rfl, Ext.refl _, rfl⟩
      case o8 => -- Op.binOp BinOp.neq 3 (Operand.tmp 49) (Operand.tmp 55) 3
        intro xv W hE hp
        have r1 : xv 1 = _ := hp.1
        have r7 : xv 7 = _ := hp.2.1
        clear hp
        simp only [putD, List.foldl_nil, List.foldl_cons, List.getD_cons_zero, List.getD_cons_succ, Act.put, List.setIfInBounds_toArray, List.set_cons_zero, List.set_cons_succ]
        refine OpGoal.plain ?_
        go_wp2_with fail
        refine ⟨rfl, Ext.refl _, ?_⟩
        show Value.bool _ = .bool false
        congr 1
        simp
        try omega
      case o9 => -- Op.move (Operand.tmp 56)
        intro xv W hE hp
        have r8 : xv 8 = _ := hp.1
        clear hp
        simp only [putD, List.foldl_nil, List.foldl_cons, List.getD_cons_zero, List.getD_cons_succ, Act.put, List.setIfInBounds_toArray, List.set_cons_zero, List.set_cons_succ]
        refine OpGoal.plain ?_
        go_wp2_with fail
        exact ⟨rfl, Ext.refl _, rfl⟩
      case o10 => -- Op.load 29 (Operand.tmp 14)  GUARD (9, 'false')
        intro xv W hE hp
        have r9 : xv 9 = _ := hp.1
        clear hp
        obtain ⟨la0, la1, la2, la3, la4, la5, la6⟩ := (HIa.out.ext (hE9.trans ((Ext.drew w9).trans hE))).cells
        obtain ⟨lb0, lb1, lb2, lb3, lb4, lb5, lb6⟩ := (HIb.out.ext (hE9.trans ((Ext.drew w9).trans hE))).cells
        obtain ⟨lx0, lx1, lx2, lx3, lx4, lx5, lx6⟩ := (HIx.out.ext (hE9.trans ((Ext.drew w9).trans hE))).cells
        simp only [putD, List.foldl_nil, List.foldl_cons, List.getD_cons_zero, List.getD_cons_succ, Act.put, List.setIfInBounds_toArray, List.set_cons_zero, List.set_cons_succ]
        refine OpGoal.yes (by simp [yieldD, r9]) ?_
        go_wp2_with fail
        exact ⟨rfl, Ext.refl _, rfl⟩
      case o11 => -- Op.call { callee := Callee.value (Operand.func 29), args := #[Operand.tmp 58], a
        intro xv W hE hp
        have r9 : xv 9 = _ := hp.1
        have r10 : xv 10 = _ := hp.2.1
        clear hp
        simp only [putD, List.foldl_nil, List.foldl_cons, List.getD_cons_zero, List.getD_cons_succ, Act.put, List.setIfInBounds_toArray, List.set_cons_zero, List.set_cons_succ]
        refine OpGoal.yes (by simp [yieldD, r9]) ?_
        go_wp2_with fail
        refine (SZx.out W (hE9.trans ((Ext.drew w9).trans hE))).mono ?_
        rintro r w' ⟨rfl, hE9⟩
        go_wp2_with fail
        exact ⟨rfl, hE9, rfl⟩
      case o12 => -- Op.binOp BinOp.leq 3 (Operand.tmp 59) (Operand.const (Value.int IntKind.i64 60))
        intro xv W hE hp
        have r9 : xv 9 = _ := hp.1
        have r11 : xv 11 = _ := hp.2.1
        clear hp
        simp only [putD, List.foldl_nil, List.foldl_cons, List.getD_cons_zero, List.getD_cons_succ, Act.put, List.setIfInBounds_toArray, List.set_cons_zero, List.set_cons_succ]
        refine OpGoal.yes (by simp [yieldD, r9]) ?_
        go_wp2_with fail
        refine ⟨rfl, Ext.refl _, ?_⟩
        show Value.bool _ = .bool true
        congr 1
        simp
        try omega
      case o13 => -- Op.move (Operand.tmp 60)  GUARD (9, 'false')
        intro xv W hE hp
        have r9 : xv 9 = _ := hp.1
        have r12 : xv 12 = _ := hp.2.1
        clear hp
        simp only [putD, List.foldl_nil, List.foldl_cons, List.getD_cons_zero, List.getD_cons_succ, Act.put, List.setIfInBounds_toArray, List.set_cons_zero, List.set_cons_succ]
        refine OpGoal.yes (by simp [yieldD, r9]) ?_
        go_wp2_with fail
        exact ⟨rfl, Ext.refl _, rfl⟩
      case o14 => -- Op.move (Operand.tmp 16)  GUARD (13, 'true')
        intro xv W hE hp
        have r13 : xv 13 = _ := hp.1
        clear hp
        simp only [putD, List.foldl_nil, List.foldl_cons, List.getD_cons_zero, List.getD_cons_succ, Act.put, List.setIfInBounds_toArray, List.set_cons_zero, List.set_cons_succ]
        refine OpGoal.yes (by simp [yieldD, r13]) ?_
        go_wp2_with fail
        exact ⟨rfl, Ext.refl _, rfl⟩
      case o15 => -- Op.binOp BinOp.eql 42 (Operand.tmp 62) (Operand.const (Value.int IntKind.i64 0))
        intro xv W hE hp
        have r13 : xv 13 = _ := hp.1
        have r14 : xv 14 = _ := hp.2.1
        clear hp
        simp only [putD, List.foldl_nil, List.foldl_cons, List.getD_cons_zero, List.getD_cons_succ, Act.put, List.setIfInBounds_toArray, List.set_cons_zero, List.set_cons_succ]
        refine OpGoal.yes (by simp [yieldD, r13]) ?_
        go_wp2_with fail
        exact ⟨rfl, Ext.refl _, rfl⟩
      case o16 => -- Op.move (Operand.tmp 10)  GUARD (13, 'true')
        intro xv W hE hp
        have r13 : xv 13 = _ := hp.1
        clear hp
        simp only [putD, List.foldl_nil, List.foldl_cons, List.getD_cons_zero, List.getD_cons_succ, Act.put, List.setIfInBounds_toArray, List.set_cons_zero, List.set_cons_succ]
        refine OpGoal.yes (by simp [yieldD, r13]) ?_
        go_wp2_with fail
        exact ⟨rfl, Ext.refl _, rfl⟩
      case o17 => -- Op.move (Operand.tmp 12)  GUARD (13, 'true')
        intro xv W hE hp
        have r13 : xv 13 = _ := hp.1
        clear hp
        simp only [putD, List.foldl_nil, List.foldl_cons, List.getD_cons_zero, List.getD_cons_succ, Act.put, List.setIfInBounds_toArray, List.set_cons_zero, List.set_cons_succ]
        refine OpGoal.yes (by simp [yieldD, r13]) ?_
        go_wp2_with fail
        exact ⟨rfl, Ext.refl _, rfl⟩
      case o18 => -- Op.binOp BinOp.eql 3 (Operand.tmp 64) (Operand.tmp 65) 3  GUARD (13, 'true')
        intro xv W hE hp
        have r13 : xv 13 = _ := hp.1
        have r16 : xv 16 = _ := hp.2.1
        have r17 : xv 17 = _ := hp.2.2.1
        clear hp
        simp only [putD, List.foldl_nil, List.foldl_cons, List.getD_cons_zero, List.getD_cons_succ, Act.put, List.setIfInBounds_toArray, List.set_cons_zero, List.set_cons_succ]
        refine OpGoal.yes (by simp [yieldD, r13]) ?_
        go_wp2_with fail
        exact ⟨rfl, Ext.refl _, rfl⟩
      case o19 => -- Op.binOp BinOp.neq 4 (Operand.tmp 63) (Operand.tmp 66) 4  GUARD (13, 'true')
        intro xv W hE hp
        have r13 : xv 13 = _ := hp.1
        have r15 : xv 15 = _ := hp.2.1
        have r18 : xv 18 = _ := hp.2.2.1
        clear hp
        simp only [putD, List.foldl_nil, List.foldl_cons, List.getD_cons_zero, List.getD_cons_succ, Act.put, List.setIfInBounds_toArray, List.set_cons_zero, List.set_cons_succ]
        refine OpGoal.yes (by simp [yieldD, r13]) ?_
        go_wp2_with fail
        refine ⟨rfl, Ext.refl _, ?_⟩
        show Value.bool _ = .bool false
        congr 1
        rw [HEq.out, if_neg (by omega)]
        by_cases h : ta = tb
        · simp [h]
        · simp [h]
      case o20 => -- Op.pick (Operand.tmp 61) (Operand.tmp 67) (Operand.const (Value.bool false))  GU
        intro xv W hE hp
        have r9 : xv 9 = _ := hp.1
        have r13 : xv 13 = _ := hp.2.1
        have r19 : xv 19 = _ := hp.2.2.1
        clear hp
        simp only [putD, List.foldl_nil, List.foldl_cons, List.getD_cons_zero, List.getD_cons_succ, Act.put, List.setIfInBounds_toArray, List.set_cons_zero, List.set_cons_succ]
        refine OpGoal.yes (by simp [yieldD, r9]) ?_
        go_wp2_with fail
        exact ⟨rfl, Ext.refl _, rfl⟩
      case o21 => -- Op.pick (Operand.tmp 57) (Operand.const (Value.bool true)) (Operand.tmp 68)
        intro xv W hE hp
        have r9 : xv 9 = _ := hp.1
        have r20 : xv 20 = _ := hp.2.1
        clear hp
        simp only [putD, List.foldl_nil, List.foldl_cons, List.getD_cons_zero, List.getD_cons_succ, Act.put, List.setIfInBounds_toArray, List.set_cons_zero, List.set_cons_succ]
        refine OpGoal.plain ?_
        go_wp2_with fail
        exact ⟨rfl, Ext.refl _, rfl⟩
      case o22 => -- Op.move (Operand.tmp 69)
        intro xv W hE hp
        have r21 : xv 21 = _ := hp.1
        clear hp
        simp only [putD, List.foldl_nil, List.foldl_cons, List.getD_cons_zero, List.getD_cons_succ, Act.put, List.setIfInBounds_toArray, List.set_cons_zero, List.set_cons_succ]
        refine OpGoal.plain ?_
        go_wp2_with fail
        exact ⟨rfl, Ext.refl _, rfl⟩
      case o23 => -- Op.load 29 (Operand.tmp 14)  GUARD (22, 'false')
        intro xv W hE hp
        have r22 : xv 22 = _ := hp.1
        clear hp
        obtain ⟨la0, la1, la2, la3, la4, la5, la6⟩ := (HIa.out.ext (hE9.trans ((Ext.drew w9).trans hE))).cells
        obtain ⟨lb0, lb1, lb2, lb3, lb4, lb5, lb6⟩ := (HIb.out.ext (hE9.trans ((Ext.drew w9).trans hE))).cells
        obtain ⟨lx0, lx1, lx2, lx3, lx4, lx5, lx6⟩ := (HIx.out.ext (hE9.trans ((Ext.drew w9).trans hE))).cells
        simp only [putD, List.foldl_nil, List.foldl_cons, List.getD_cons_zero, List.getD_cons_succ, Act.put, List.setIfInBounds_toArray, List.set_cons_zero, List.set_cons_succ]
        refine OpGoal.yes (by simp [yieldD, r22]) ?_
        go_wp2_with fail
        exact ⟨rfl, Ext.refl _, rfl⟩
      case o24 => -- Op.call { callee := Callee.value (Operand.func 29), args := #[Operand.tmp 71], a
        intro xv W hE hp
        have r22 : xv 22 = _ := hp.1
        have r23 : xv 23 = _ := hp.2.1
        clear hp
        simp only [putD, List.foldl_nil, List.foldl_cons, List.getD_cons_zero, List.getD_cons_succ, Act.put, List.setIfInBounds_toArray, List.set_cons_zero, List.set_cons_succ]
        refine OpGoal.yes (by simp [yieldD, r22]) ?_
        go_wp2_with fail
        refine (SZx.out W (hE9.trans ((Ext.drew w9).trans hE))).mono ?_
        rintro r w' ⟨rfl, hE9⟩
        go_wp2_with fail
        exact ⟨rfl, hE9, rfl⟩
      case o25 => -- Op.binOp BinOp.gtr 3 (Operand.tmp 72) (Operand.const (Value.int IntKind.i64 60))
        intro xv W hE hp
        have r22 : xv 22 = _ := hp.1
        have r24 : xv 24 = _ := hp.2.1
        clear hp
        simp only [putD, List.foldl_nil, List.foldl_cons, List.getD_cons_zero, List.getD_cons_succ, Act.put, List.setIfInBounds_toArray, List.set_cons_zero, List.set_cons_succ]
        refine OpGoal.yes (by simp [yieldD, r22]) ?_
        go_wp2_with fail
        refine ⟨rfl, Ext.refl _, ?_⟩
        show Value.bool _ = .bool false
        congr 1
        simp
        try omega
      case o26 => -- Op.move (Operand.tmp 73)  GUARD (22, 'false')
        intro xv W hE hp
        have r22 : xv 22 = _ := hp.1
        have r25 : xv 25 = _ := hp.2.1
        clear hp
        simp only [putD, List.foldl_nil, List.foldl_cons, List.getD_cons_zero, List.getD_cons_succ, Act.put, List.setIfInBounds_toArray, List.set_cons_zero, List.set_cons_succ]
        refine OpGoal.yes (by simp [yieldD, r22]) ?_
        go_wp2_with fail
        exact ⟨rfl, Ext.refl _, rfl⟩
      case o27 => -- Op.move (Operand.tmp 16)  GUARD (26, 'true')
        intro xv W hE hp
        have r26 : xv 26 = _ := hp.1
        clear hp
        simp only [putD, List.foldl_nil, List.foldl_cons, List.getD_cons_zero, List.getD_cons_succ, Act.put, List.setIfInBounds_toArray, List.set_cons_zero, List.set_cons_succ]
        exact OpGoal.no (by simp [yieldD, r26]) ⟨Ext.refl _, rfl⟩
      case o28 => -- Op.binOp BinOp.neq 42 (Operand.tmp 75) (Operand.const (Value.int IntKind.i64 2))
        intro xv W hE hp
        have r26 : xv 26 = _ := hp.1
        have r27 : xv 27 = _ := hp.2.1
        clear hp
        simp only [putD, List.foldl_nil, List.foldl_cons, List.getD_cons_zero, List.getD_cons_succ, Act.put, List.setIfInBounds_toArray, List.set_cons_zero, List.set_cons_succ]
        exact OpGoal.no (by simp [yieldD, r26]) ⟨Ext.refl _, rfl⟩
      case o29 => -- Op.pick (Operand.tmp 74) (Operand.tmp 76) (Operand.const (Value.bool false))  GU
        intro xv W hE hp
        have r22 : xv 22 = _ := hp.1
        have r26 : xv 26 = _ := hp.2.1
        have r28 : xv 28 = _ := hp.2.2.1
        clear hp
        simp only [putD, List.foldl_nil, List.foldl_cons, List.getD_cons_zero, List.getD_cons_succ, Act.put, List.setIfInBounds_toArray, List.set_cons_zero, List.set_cons_succ]
        refine OpGoal.yes (by simp [yieldD, r22]) ?_
        go_wp2_with fail
        exact ⟨rfl, Ext.refl _, rfl⟩
      case last =>
        intro xv W hE hp
        have r0 : xv 0 = _ := hp.1
        have r1 : xv 1 = _ := hp.2.1
        have r2 : xv 2 = _ := hp.2.2.1
        have r3 : xv 3 = _ := hp.2.2.2.1
        have r4 : xv 4 = _ := hp.2.2.2.2.1
        have r5 : xv 5 = _ := hp.2.2.2.2.2.1
        have r6 : xv 6 = _ := hp.2.2.2.2.2.2.1
        have r7 : xv 7 = _ := hp.2.2.2.2.2.2.2.1
        have r8 : xv 8 = _ := hp.2.2.2.2.2.2.2.2.1
        have r9 : xv 9 = _ := hp.2.2.2.2.2.2.2.2.2.1
        have r10 : xv 10 = _ := hp.2.2.2.2.2.2.2.2.2.2.1
        have r11 : xv 11 = _ := hp.2.2.2.2.2.2.2.2.2.2.2.1
        have r12 : xv 12 = _ := hp.2.2.2.2.2.2.2.2.2.2.2.2.1
        have r13 : xv 13 = _ := hp.2.2.2.2.2.2.2.2.2.2.2.2.2.1
        have r14 : xv 14 = _ := hp.2.2.2.2.2.2.2.2.2.2.2.2.2.2.1
        have r15 : xv 15 = _ := hp.2.2.2.2.2.2.2.2.2.2.2.2.2.2.2.1
        have r16 : xv 16 = _ := hp.2.2.2.2.2.2.2.2.2.2.2.2.2.2.2.2.1
        have r17 : xv 17 = _ := hp.2.2.2.2.2.2.2.2.2.2.2.2.2.2.2.2.2.1
        have r18 : xv 18 = _ := hp.2.2.2.2.2.2.2.2.2.2.2.2.2.2.2.2.2.2.1
        have r19 : xv 19 = _ := hp.2.2.2.2.2.2.2.2.2.2.2.2.2.2.2.2.2.2.2.1
        have r20 : xv 20 = _ := hp.2.2.2.2.2.2.2.2.2.2.2.2.2.2.2.2.2.2.2.2.1
        have r21 : xv 21 = _ := hp.2.2.2.2.2.2.2.2.2.2.2.2.2.2.2.2.2.2.2.2.2.1
        have r22 : xv 22 = _ := hp.2.2.2.2.2.2.2.2.2.2.2.2.2.2.2.2.2.2.2.2.2.2.1
        have r23 : xv 23 = _ := hp.2.2.2.2.2.2.2.2.2.2.2.2.2.2.2.2.2.2.2.2.2.2.2.1
        have r24 : xv 24 = _ := hp.2.2.2.2.2.2.2.2.2.2.2.2.2.2.2.2.2.2.2.2.2.2.2.2.1
        have r25 : xv 25 = _ := hp.2.2.2.2.2.2.2.2.2.2.2.2.2.2.2.2.2.2.2.2.2.2.2.2.2.1
        have r26 : xv 26 = _ := hp.2.2.2.2.2.2.2.2.2.2.2.2.2.2.2.2.2.2.2.2.2.2.2.2.2.2.1
        have r27 : xv 27 = _ := hp.2.2.2.2.2.2.2.2.2.2.2.2.2.2.2.2.2.2.2.2.2.2.2.2.2.2.2.1
        have r28 : xv 28 = _ := hp.2.2.2.2.2.2.2.2.2.2.2.2.2.2.2.2.2.2.2.2.2.2.2.2.2.2.2.2.1
        have r29 : xv 29 = _ := hp.2.2.2.2.2.2.2.2.2.2.2.2.2.2.2.2.2.2.2.2.2.2.2.2.2.2.2.2.2.1
        clear hp
        simp only [putD, List.foldl_nil, List.foldl_cons, List.getD_cons_zero, List.getD_cons_succ, Act.put, List.length_cons, List.length_nil, List.range_succ, List.range_zero, List.nil_append, List.cons_append, List.setIfInBounds_toArray, List.set_cons_zero, List.set_cons_succ]
        have hEW := hE9.trans ((Ext.drew w9).trans hE)
        clear r0 r1 r2 r3 r4 r5 r6 r7 r8 r9 r10 r11 r12 r13 r14 r15 r16 r17 r18 r19 r20 r21 r23 r24 r25 r26 r27 r28
        go_wp2_with fail
        go_meet
        case rel => exact ⟨rfl, hEW⟩
    · skip
      apply wp_region_seq (l := [_, _, _, _, _, _, _, _, _, _, _, _, _, _, _, _, _, _, _, _, _, _, _, _, _, _, _, _, _, _]) (t := [_]) [some 48, some 49, some 50, some 51, some 52, some 53, some 54, some 55, some 56, some 57, some 58, some 59, some 60, some 61, some 62, some 63, some 64, some 65, some 66, some 67, some 68, some 69, some 70, some 71, some 72, some 73, some 74, some 75, some 76, some 77, some 78] [[], [0], [], [2], [3], [], [5], [4, 6], [1, 7], [8], [9], [9, 10], [9, 11], [9, 12], [13], [13, 14], [13], [13], [13, 16, 17], [13, 15, 18], [9, 13, 19], [9, 20], [21], [22], [22, 23], [22, 24], [22, 25], [26], [26, 27], [22, 26, 28], [22, 29]] [1, 8, 3, 6, 7, 6, 9, 8, 9, 21, 11, 13, 13, 22, 15, 19, 18, 18, 19, 20, 21, 22, 30, 24, 26, 26, 29, 28, 29, 30] [eqv _, (eqv (.int .i64 ((1 + (NA + NB) : Nat) : Int))), eqv _, (eqv (.int .i64 (NA : Nat))), eqv _, eqv _, (eqv (.int .i64 (NB : Nat))), eqv _, (eqv (.bool false)), eqv _, eqv _, (eqv (.int .i64 ((1 + (NA + NB) : Nat) : Int))), (eqv (.bool false)), eqv _, eqv _, eqv _, eqv _, eqv _, eqv _, eqv _, eqv _, eqv _, eqv _, eqv _, (eqv (.int .i64 ((1 + (NA + NB) : Nat) : Int))), (eqv (.bool true)), eqv _, eqv _, (eqv (.bool false)), eqv _] (by kernel_rfl) (by kernel_rfl) ⟨?o0, ?o1, ?o2, ?o3, ?o4, ?o5, ?o6, ?o7, ?o8, ?o9, ?o10, ?o11, ?o12, ?o13, ?o14, ?o15, ?o16, ?o17, ?o18, ?o19, ?o20, ?o21, ?o22, ?o23, ?o24, ?o25, ?o26, ?o27, ?o28, ?o29, trivial⟩ ?last
      case o0 => -- Op.load 29 (Operand.tmp 14)
        intro xv W hE _
        obtain ⟨la0, la1, la2, la3, la4, la5, la6⟩ := (HIa.out.ext (hE9.trans ((Ext.drew w9).trans hE))).cells
        obtain ⟨lb0, lb1, lb2, lb3, lb4, lb5, lb6⟩ := (HIb.out.ext (hE9.trans ((Ext.drew w9).trans hE))).cells
        obtain ⟨lx0, lx1, lx2, lx3, lx4, lx5, lx6⟩ := (HIx.out.ext (hE9.trans ((Ext.drew w9).trans hE))).cells
        simp only [putD, List.foldl_nil, List.getD_cons_zero]
        refine OpGoal.plain ?_
        go_wp2_with fail
        exact ⟨rfl, Ext.refl _, rfl⟩
      case o1 => -- Op.call { callee := Callee.value (Operand.func 29), args := #[Operand.tmp 48], a
        intro xv W hE hp
        have r0 : xv 0 = _ := hp.1
        clear hp
        simp only [putD, List.foldl_nil, List.foldl_cons, List.getD_cons_zero, List.getD_cons_succ, Act.put, List.setIfInBounds_toArray, List.set_cons_zero, List.set_cons_succ]
        refine OpGoal.plain ?_
        go_wp2_with fail
        refine (SZx.out W (hE9.trans ((Ext.drew w9).trans hE))).mono ?_
        rintro r w' ⟨rfl, hE9⟩
        go_wp2_with fail
        exact ⟨rfl, hE9, rfl⟩
      case o2 => -- Op.load 29 (Operand.tmp 8)
        intro xv W hE _
        obtain ⟨la0, la1, la2, la3, la4, la5, la6⟩ := (HIa.out.ext (hE9.trans ((Ext.drew w9).trans hE))).cells
        obtain ⟨lb0, lb1, lb2, lb3, lb4, lb5, lb6⟩ := (HIb.out.ext (hE9.trans ((Ext.drew w9).trans hE))).cells
        obtain ⟨lx0, lx1, lx2, lx3, lx4, lx5, lx6⟩ := (HIx.out.ext (hE9.trans ((Ext.drew w9).trans hE))).cells
        simp only [putD, List.foldl_nil, List.getD_cons_zero, List.getD_cons_succ]
        refine OpGoal.plain ?_
        go_wp2_with fail
        exact ⟨rfl, Ext.refl _, rfl⟩
      case o3 => -- Op.call { callee := Callee.value (Operand.func 29), args := #[Operand.tmp 50], a
        intro xv W hE hp
        have r2 : xv 2 = _ := hp.1
        clear hp
        simp only [putD, List.foldl_nil, List.foldl_cons, List.getD_cons_zero, List.getD_cons_succ, Act.put, List.setIfInBounds_toArray, List.set_cons_zero, List.set_cons_succ]
        refine OpGoal.plain ?_
        go_wp2_with fail
        refine (SZa.out W (hE9.trans ((Ext.drew w9).trans hE))).mono ?_
        rintro r w' ⟨rfl, hE9⟩
        go_wp2_with fail
        exact ⟨rfl, hE9, rfl⟩
      case o4 => -- Op.binOp BinOp.add 3 (Operand.const (Value.int IntKind.i64 1)) (Operand.tmp 51) 
        intro xv W hE hp
        have r3 : xv 3 = _ := hp.1
        clear hp
        simp only [putD, List.foldl_nil, List.foldl_cons, List.getD_cons_zero, List.getD_cons_succ, Act.put, List.setIfInBounds_toArray, List.set_cons_zero, List.set_cons_succ]
        refine OpGoal.plain ?_
        go_wp2_with fail
        exact ⟨rfl, Ext.refl _, rfl⟩
      case o5 => -- Op.load 29 (Operand.tmp 9)
        intro xv W hE _
        obtain ⟨la0, la1, la2, la3, la4, la5, la6⟩ := (HIa.out.ext (hE9.trans ((Ext.drew w9).trans hE))).cells
        obtain ⟨lb0, lb1, lb2, lb3, lb4, lb5, lb6⟩ := (HIb.out.ext (hE9.trans ((Ext.drew w9).trans hE))).cells
        obtain ⟨lx0, lx1, lx2, lx3, lx4, lx5, lx6⟩ := (HIx.out.ext (hE9.trans ((Ext.drew w9).trans hE))).cells
        simp only [putD, List.foldl_nil, List.getD_cons_zero, List.getD_cons_succ]
        refine OpGoal.plain ?_
        go_wp2_with fail
        exact ⟨rfl, Ext.refl _, rfl⟩
      case o6 => -- Op.call { callee := Callee.value (Operand.func 29), args := #[Operand.tmp 53], a
        intro xv W hE hp
        have r5 : xv 5 = _ := hp.1
        clear hp
        simp only [putD, List.foldl_nil, List.foldl_cons, List.getD_cons_zero, List.getD_cons_succ, Act.put, List.setIfInBounds_toArray, List.set_cons_zero, List.set_cons_succ]
        refine OpGoal.plain ?_
        go_wp2_with fail
        refine (SZb.out W (hE9.trans ((Ext.drew w9).trans hE))).mono ?_
        rintro r w' ⟨rfl, hE9⟩
        go_wp2_with fail
        exact ⟨rfl, hE9, rfl⟩
      case o7 => -- Op.binOp BinOp.add 3 (Operand.tmp 52) (Operand.tmp 54) 3
        intro xv W hE hp
        have r4 : xv 4 = _ := hp.1
        have r6 : xv 6 = _ := hp.2.1
        clear hp
        simp only [putD, List.foldl_nil, List.foldl_cons, List.getD_cons_zero, List.getD_cons_succ, Act.put, List.setIfInBounds_toArray, List.set_cons_zero, List.set_cons_succ]
        refine OpGoal.plain ?_
        go_wp2_with fail
        exact ⟨rfl, Ext.refl _, rfl⟩
      case o8 => -- Op.binOp BinOp.neq 3 (Operand.tmp 49) (Operand.tmp 55) 3
        intro xv W hE hp
        have r1 : xv 1 = _ := hp.1
        have r7 : xv 7 = _ := hp.2.1
        clear hp
        simp only [putD, List.foldl_nil, List.foldl_cons, List.getD_cons_zero, List.getD_cons_succ, Act.put, List.setIfInBounds_toArray, List.set_cons_zero, List.set_cons_succ]
        refine OpGoal.plain ?_
        go_wp2_with fail
        refine ⟨rfl, Ext.refl _, ?_⟩
        show Value.bool _ = .bool false
        congr 1
        simp
        try omega
      case o9 => -- Op.move (Operand.tmp 56)
        intro xv W hE hp
        have r8 : xv 8 = _ := hp.1
        clear hp
        simp only [putD, List.foldl_nil, List.foldl_cons, List.getD_cons_zero, List.getD_cons_succ, Act.put, List.setIfInBounds_toArray, List.set_cons_zero, List.set_cons_succ]
        refine OpGoal.plain ?_
        go_wp2_with fail
        exact ⟨rfl, Ext.refl _, rfl⟩
      case o10 => -- Op.load 29 (Operand.tmp 14)  GUARD (9, 'false')
        intro xv W hE hp
        have r9 : xv 9 = _ := hp.1
        clear hp
        obtain ⟨la0, la1, la2, la3, la4, la5, la6⟩ := (HIa.out.ext (hE9.trans ((Ext.drew w9).trans hE))).cells
        obtain ⟨lb0, lb1, lb2, lb3, lb4, lb5, lb6⟩ := (HIb.out.ext (hE9.trans ((Ext.drew w9).trans hE))).cells
        obtain ⟨lx0, lx1, lx2, lx3, lx4, lx5, lx6⟩ := (HIx.out.ext (hE9.trans ((Ext.drew w9).trans hE))).cells
        simp only [putD, List.foldl_nil, List.foldl_cons, List.getD_cons_zero, List.getD_cons_succ, Act.put, List.setIfInBounds_toArray, List.set_cons_zero, List.set_cons_succ]
        refine OpGoal.yes (by simp [yieldD, r9]) ?_
        go_wp2_with fail
        exact ⟨rfl, Ext.refl _, rfl⟩
      case o11 => -- Op.call { callee := Callee.value (Operand.func 29), args := #[Operand.tmp 58], a
        intro xv W hE hp
        have r9 : xv 9 = _ := hp.1
        have r10 : xv 10 = _ := hp.2.1
        clear hp
        simp only [putD, List.foldl_nil, List.foldl_cons, List.getD_cons_zero, List.getD_cons_succ, Act.put, List.setIfInBounds_toArray, List.set_cons_zero, List.set_cons_succ]
        refine OpGoal.yes (by simp [yieldD, r9]) ?_
        go_wp2_with fail
        refine (SZx.out W (hE9.trans ((Ext.drew w9).trans hE))).mono ?_
        rintro r w' ⟨rfl, hE9⟩
        go_wp2_with fail
        exact ⟨rfl, hE9, rfl⟩
      case o12 => -- Op.binOp BinOp.leq 3 (Operand.tmp 59) (Operand.const (Value.int IntKind.i64 60))
        intro xv W hE hp
        have r9 : xv 9 = _ := hp.1
        have r11 : xv 11 = _ := hp.2.1
        clear hp
        simp only [putD, List.foldl_nil, List.foldl_cons, List.getD_cons_zero, List.getD_cons_succ, Act.put, List.setIfInBounds_toArray, List.set_cons_zero, List.set_cons_succ]
        refine OpGoal.yes (by simp [yieldD, r9]) ?_
        go_wp2_with fail
        refine ⟨rfl, Ext.refl _, ?_⟩
        show Value.bool _ = .bool false
        congr 1
        simp
        try omega
      case o13 => -- Op.move (Operand.tmp 60)  GUARD (9, 'false')
        intro xv W hE hp
        have r9 : xv 9 = _ := hp.1
        have r12 : xv 12 = _ := hp.2.1
        clear hp
        simp only [putD, List.foldl_nil, List.foldl_cons, List.getD_cons_zero, List.getD_cons_succ, Act.put, List.setIfInBounds_toArray, List.set_cons_zero, List.set_cons_succ]
        refine OpGoal.yes (by simp [yieldD, r9]) ?_
        go_wp2_with fail
        exact ⟨rfl, Ext.refl _, rfl⟩
      case o14 => -- Op.move (Operand.tmp 16)  GUARD (13, 'true')
        intro xv W hE hp
        have r13 : xv 13 = _ := hp.1
        clear hp
        simp only [putD, List.foldl_nil, List.foldl_cons, List.getD_cons_zero, List.getD_cons_succ, Act.put, List.setIfInBounds_toArray, List.set_cons_zero, List.set_cons_succ]
        exact OpGoal.no (by simp [yieldD, r13]) ⟨Ext.refl _, rfl⟩
      case o15 => -- Op.binOp BinOp.eql 42 (Operand.tmp 62) (Operand.const (Value.int IntKind.i64 0))
        intro xv W hE hp
        have r13 : xv 13 = _ := hp.1
        have r14 : xv 14 = _ := hp.2.1
        clear hp
        simp only [putD, List.foldl_nil, List.foldl_cons, List.getD_cons_zero, List.getD_cons_succ, Act.put, List.setIfInBounds_toArray, List.set_cons_zero, List.set_cons_succ]
        exact OpGoal.no (by simp [yieldD, r13]) ⟨Ext.refl _, rfl⟩
      case o16 => -- Op.move (Operand.tmp 10)  GUARD (13, 'true')
        intro xv W hE hp
        have r13 : xv 13 = _ := hp.1
        clear hp
        simp only [putD, List.foldl_nil, List.foldl_cons, List.getD_cons_zero, List.getD_cons_succ, Act.put, List.setIfInBounds_toArray, List.set_cons_zero, List.set_cons_succ]
        exact OpGoal.no (by simp [yieldD, r13]) ⟨Ext.refl _, rfl⟩
      case o17 => -- Op.move (Operand.tmp 12)  GUARD (13, 'true')
        intro xv W hE hp
        have r13 : xv 13 = _ := hp.1
        clear hp
        simp only [putD, List.foldl_nil, List.foldl_cons, List.getD_cons_zero, List.getD_cons_succ, Act.put, List.setIfInBounds_toArray, List.set_cons_zero, List.set_cons_succ]
        exact OpGoal.no (by simp [yieldD, r13]) ⟨Ext.refl _, rfl⟩
      case o18 => -- Op.binOp BinOp.eql 3 (Operand.tmp 64) (Operand.tmp 65) 3  GUARD (13, 'true')
        intro xv W hE hp
        have r13 : xv 13 = _ := hp.1
        have r16 : xv 16 = _ := hp.2.1
        have r17 : xv 17 = _ := hp.2.2.1
        clear hp
        simp only [putD, List.foldl_nil, List.foldl_cons, List.getD_cons_zero, List.getD_cons_succ, Act.put, List.setIfInBounds_toArray, List.set_cons_zero, List.set_cons_succ]
        exact OpGoal.no (by simp [yieldD, r13]) ⟨Ext.refl _, rfl⟩
      case o19 => -- Op.binOp BinOp.neq 4 (Operand.tmp 63) (Operand.tmp 66) 4  GUARD (13, 'true')
        intro xv W hE hp
        have r13 : xv 13 = _ := hp.1
        have r15 : xv 15 = _ := hp.2.1
        have r18 : xv 18 = _ := hp.2.2.1
        clear hp
        simp only [putD, List.foldl_nil, List.foldl_cons, List.getD_cons_zero, List.getD_cons_succ, Act.put, List.setIfInBounds_toArray, List.set_cons_zero, List.set_cons_succ]
        exact OpGoal.no (by simp [yieldD, r13]) ⟨Ext.refl _, rfl⟩
      case o20 => -- Op.pick (Operand.tmp 61) (Operand.tmp 67) (Operand.const (Value.bool false))  GU
        intro xv W hE hp
        have r9 : xv 9 = _ := hp.1
        have r13 : xv 13 = _ := hp.2.1
        have r19 : xv 19 = _ := hp.2.2.1
        clear hp
        simp only [putD, List.foldl_nil, List.foldl_cons, List.getD_cons_zero, List.getD_cons_succ, Act.put, List.setIfInBounds_toArray, List.set_cons_zero, List.set_cons_succ]
        refine OpGoal.yes (by simp [yieldD, r9]) ?_
        go_wp2_with fail
        exact ⟨rfl, Ext.refl _, rfl⟩
      case o21 => -- Op.pick (Operand.tmp 57) (Operand.const (Value.bool true)) (Operand.tmp 68)
        intro xv W hE hp
        have r9 : xv 9 = _ := hp.1
        have r20 : xv 20 = _ := hp.2.1
        clear hp
        simp only [putD, List.foldl_nil, List.foldl_cons, List.getD_cons_zero, List.getD_cons_succ, Act.put, List.setIfInBounds_toArray, List.set_cons_zero, List.set_cons_succ]
        refine OpGoal.plain ?_
        go_wp2_with fail
        exact ⟨rfl, Ext.refl _, rfl⟩
      case o22 => -- Op.move (Operand.tmp 69)
        intro xv W hE hp
        have r21 : xv 21 = _ := hp.1
        clear hp
        simp only [putD, List.foldl_nil, List.foldl_cons, List.getD_cons_zero, List.getD_cons_succ, Act.put, List.setIfInBounds_toArray, List.set_cons_zero, List.set_cons_succ]
        refine OpGoal.plain ?_
        go_wp2_with fail
        exact ⟨rfl, Ext.refl _, rfl⟩
      case o23 => -- Op.load 29 (Operand.tmp 14)  GUARD (22, 'false')
        intro xv W hE hp
        have r22 : xv 22 = _ := hp.1
        clear hp
        obtain ⟨la0, la1, la2, la3, la4, la5, la6⟩ := (HIa.out.ext (hE9.trans ((Ext.drew w9).trans hE))).cells
        obtain ⟨lb0, lb1, lb2, lb3, lb4, lb5, lb6⟩ := (HIb.out.ext (hE9.trans ((Ext.drew w9).trans hE))).cells
        obtain ⟨lx0, lx1, lx2, lx3, lx4, lx5, lx6⟩ := (HIx.out.ext (hE9.trans ((Ext.drew w9).trans hE))).cells
        simp only [putD, List.foldl_nil, List.foldl_cons, List.getD_cons_zero, List.getD_cons_succ, Act.put, List.setIfInBounds_toArray, List.set_cons_zero, List.set_cons_succ]
        refine OpGoal.yes (by simp [yieldD, r22]) ?_
        go_wp2_with fail
        exact ⟨rfl, Ext.refl _, rfl⟩
      case o24 => -- Op.call { callee := Callee.value (Operand.func 29), args := #[Operand.tmp 71], a
        intro xv W hE hp
        have r22 : xv 22 = _ := hp.1
        have r23 : xv 23 = _ := hp.2.1
        clear hp
        simp only [putD, List.foldl_nil, List.foldl_cons, List.getD_cons_zero, List.getD_cons_succ, Act.put, List.setIfInBounds_toArray, List.set_cons_zero, List.set_cons_succ]
        refine OpGoal.yes (by simp [yieldD, r22]) ?_
        go_wp2_with fail
        refine (SZx.out W (hE9.trans ((Ext.drew w9).trans hE))).mono ?_
        rintro r w' ⟨rfl, hE9⟩
        go_wp2_with fail
        exact ⟨rfl, hE9, rfl⟩
      case o25 => -- Op.binOp BinOp.gtr 3 (Operand.tmp 72) (Operand.const (Value.int IntKind.i64 60))
        intro xv W hE hp
        have r22 : xv 22 = _ := hp.1
        have r24 : xv 24 = _ := hp.2.1
        clear hp
        simp only [putD, List.foldl_nil, List.foldl_cons, List.getD_cons_zero, List.getD_cons_succ, Act.put, List.setIfInBounds_toArray, List.set_cons_zero, List.set_cons_succ]
        refine OpGoal.yes (by simp [yieldD, r22]) ?_
        go_wp2_with fail
        refine ⟨rfl, Ext.refl _, ?_⟩
        show Value.bool _ = .bool true
        congr 1
        simp
        try omega
      case o26 => -- Op.move (Operand.tmp 73)  GUARD (22, 'false')
        intro xv W hE hp
        have r22 : xv 22 = _ := hp.1
        have r25 : xv 25 = _ := hp.2.1
        clear hp
        simp only [putD, List.foldl_nil, List.foldl_cons, List.getD_cons_zero, List.getD_cons_succ, Act.put, List.setIfInBounds_toArray, List.set_cons_zero, List.set_cons_succ]
        refine OpGoal.yes (by simp [yieldD, r22]) ?_
        go_wp2_with fail
        exact ⟨rfl, Ext.refl _, rfl⟩
      case o27 => -- Op.move (Operand.tmp 16)  GUARD (26, 'true')
        intro xv W hE hp
        have r26 : xv 26 = _ := hp.1
        clear hp
        simp only [putD, List.foldl_nil, List.foldl_cons, List.getD_cons_zero, List.getD_cons_succ, Act.put, List.setIfInBounds_toArray, List.set_cons_zero, List.set_cons_succ]
        refine OpGoal.yes (by simp [yieldD, r26]) ?_
        go_wp2_with fail
        exact ⟨rfl, Ext.refl _, rfl⟩
      case o28 => -- Op.binOp BinOp.neq 42 (Operand.tmp 75) (Operand.const (Value.int IntKind.i64 2))
        intro xv W hE hp
        have r26 : xv 26 = _ := hp.1
        have r27 : xv 27 = _ := hp.2.1
        clear hp
        simp only [putD, List.foldl_nil, List.foldl_cons, List.getD_cons_zero, List.getD_cons_succ, Act.put, List.setIfInBounds_toArray, List.set_cons_zero, List.set_cons_succ]
        refine OpGoal.yes (by simp [yieldD, r26]) ?_
        go_wp2_with fail
        refine ⟨rfl, Ext.refl _, ?_⟩
        show Value.bool _ = .bool false
        congr 1
        rw [HEq.out, if_pos (by omega)]
        rfl
      case o29 => -- Op.pick (Operand.tmp 74) (Operand.tmp 76) (Operand.const (Value.bool false))  GU
        intro xv W hE hp
        have r22 : xv 22 = _ := hp.1
        have r26 : xv 26 = _ := hp.2.1
        have r28 : xv 28 = _ := hp.2.2.1
        clear hp
        simp only [putD, List.foldl_nil, List.foldl_cons, List.getD_cons_zero, List.getD_cons_succ, Act.put, List.setIfInBounds_toArray, List.set_cons_zero, List.set_cons_succ]
        refine OpGoal.yes (by simp [yieldD, r22]) ?_
        go_wp2_with fail
        exact ⟨rfl, Ext.refl _, rfl⟩
      case last =>
        intro xv W hE hp
        have r0 : xv 0 = _ := hp.1
        have r1 : xv 1 = _ := hp.2.1
        have r2 : xv 2 = _ := hp.2.2.1
        have r3 : xv 3 = _ := hp.2.2.2.1
        have r4 : xv 4 = _ := hp.2.2.2.2.1
        have r5 : xv 5 = _ := hp.2.2.2.2.2.1
        have r6 : xv 6 = _ := hp.2.2.2.2.2.2.1
        have r7 : xv 7 = _ := hp.2.2.2.2.2.2.2.1
        have r8 : xv 8 = _ := hp.2.2.2.2.2.2.2.2.1
        have r9 : xv 9 = _ := hp.2.2.2.2.2.2.2.2.2.1
        have r10 : xv 10 = _ := hp.2.2.2.2.2.2.2.2.2.2.1
        have r11 : xv 11 = _ := hp.2.2.2.2.2.2.2.2.2.2.2.1
        have r12 : xv 12 = _ := hp.2.2.2.2.2.2.2.2.2.2.2.2.1
        have r13 : xv 13 = _ := hp.2.2.2.2.2.2.2.2.2.2.2.2.2.1
        have r14 : xv 14 = _ := hp.2.2.2.2.2.2.2.2.2.2.2.2.2.2.1
        have r15 : xv 15 = _ := hp.2.2.2.2.2.2.2.2.2.2.2.2.2.2.2.1
        have r16 : xv 16 = _ := hp.2.2.2.2.2.2.2.2.2.2.2.2.2.2.2.2.1
        have r17 : xv 17 = _ := hp.2.2.2.2.2.2.2.2.2.2.2.2.2.2.2.2.2.1
        have r18 : xv 18 = _ := hp.2.2.2.2.2.2.2.2.2.2.2.2.2.2.2.2.2.2.1
        have r19 : xv 19 = _ := hp.2.2.2.2.2.2.2.2.2.2.2.2.2.2.2.2.2.2.2.1
        have r20 : xv 20 = _ := hp.2.2.2.2.2.2.2.2.2.2.2.2.2.2.2.2.2.2.2.2.1
        have r21 : xv 21 = _ := hp.2.2.2.2.2.2.2.2.2.2.2.2.2.2.2.2.2.2.2.2.2.1
        have r22 : xv 22 = _ := hp.2.2.2.2.2.2.2.2.2.2.2.2.2.2.2.2.2.2.2.2.2.2.1
        have r23 : xv 23 = _ := hp.2.2.2.2.2.2.2.2.2.2.2.2.2.2.2.2.2.2.2.2.2.2.2.1
        have r24 : xv 24 = _ := hp.2.2.2.2.2.2.2.2.2.2.2.2.2.2.2.2.2.2.2.2.2.2.2.2.1
        have r25 : xv 25 = _ := hp.2.2.2.2.2.2.2.2.2.2.2.2.2.2.2.2.2.2.2.2.2.2.2.2.2.1
        have r26 : xv 26 = _ := hp.2.2.2.2.2.2.2.2.2.2.2.2.2.2.2.2.2.2.2.2.2.2.2.2.2.2.1
        have r27 : xv 27 = _ := hp.2.2.2.2.2.2.2.2.2.2.2.2.2.2.2.2.2.2.2.2.2.2.2.2.2.2.2.1
        have r28 : xv 28 = _ := hp.2.2.2.2.2.2.2.2.2.2.2.2.2.2.2.2.2.2.2.2.2.2.2.2.2.2.2.2.1
        have r29 : xv 29 = _ := hp.2.2.2.2.2.2.2.2.2.2.2.2.2.2.2.2.2.2.2.2.2.2.2.2.2.2.2.2.2.1
        clear hp
        simp only [putD, List.foldl_nil, List.foldl_cons, List.getD_cons_zero, List.getD_cons_succ, Act.put, List.length_cons, List.length_nil, List.range_succ, List.range_zero, List.nil_append, List.cons_append, List.setIfInBounds_toArray, List.set_cons_zero, List.set_cons_succ]
        have hEW := hE9.trans ((Ext.drew w9).trans hE)
        clear r0 r1 r2 r3 r4 r5 r6 r7 r8 r9 r10 r11 r12 r13 r14 r15 r16 r17 r18 r19 r20 r21 r23 r24 r25 r26 r27 r28
        go_wp2_with fail
        go_meet
        case rel => exact ⟨rfl, hEW⟩
  case rest =>
  obtain ⟨rfl, hEc⟩ := hcut
  clear hE9 CKx SZx SZa SZb HIX HEq
  obtain ⟨la0, la1, la2, la3, la4, la5, la6⟩ := (HIa.out.ext hEc).cells
  have hE0c := HE08.out.trans hEc
  have v0 := (hE0c.old (p := ⟨w.heap.size, 0, none⟩) hz0).trans p0
  have v1 := (hE0c.old (p := ⟨w.heap.size, 1, none⟩) hz0).trans p1
  have v2 := (hE0c.old (p := ⟨w.heap.size, 2, none⟩) hz0).trans p2
  have OD := Lib.hid (Odd_any da a Aa ca q0 q1 q2 wc (HXa8.out.ext hEc) (by have := HSA.out; omega) (rt_ok HRa.out))
  unfold Ex.cells at OD
  go_wp2_with fail
  refine OD.out.mono ?_
  rintro e wd ⟨o, Ao, co, dd, rfl, hXo, hso, hoo, hEd⟩
  unfold Ex.cells
  have HSO := Lib.hid hso
  have HOO := Lib.hid hoo
  clear la0 la1 la2 la3 la4 la5 la6 v0 v1 v2 OD hso hoo
  go_upto_region 10 with fail
  have hio := InBlk.new2 wd o Ao co
  obtain ⟨we, hwe⟩ : ∃ y, wd.alloc (.cells #[.int .i64 o.op, .int .i64 o.var, .int .i64 o.ty, .int .i64 o.n, .bool o.b, .string ⟨o.s.toArray⟩, .slice Ao o.l.length co] 29) = y := ⟨_, rfl⟩
  have hEde : Ext wd we := by rw [← hwe]; exact Ext.alloc _ _
  unfold Ex.cells at hio
  rw [hwe] at hio ⊢
  have hse : wd.heap.size < we.heap.size := hio.lt
  have hE8e := hEc.trans (hEd.trans hEde)
  have hXo' := ExL.ext (hXo.more fun k hk => hk.2) hEde
  have HXO := Lib.hid hXo'
  have HIO := Lib.hid hio
  have htx : txT a = a.text := by unfold txT; rw [if_pos (chk_of HRa.out (by have := HSA.out; omega)).2]
  have TX := Lib.hid (TextC_any a da Aa ca we (HXa8.out.ext hE8e) (by have := HSA.out; omega) (rt_ok HRa.out) (HT.out.ext (HE08.out.trans hE8e)))
  rw [htx, (chk_of HRa.out (by have := HSA.out; omega)).2] at TX
  unfold Ex.cells at TX
  obtain ⟨S, hS⟩ : ∃ S, sv a.text = S := ⟨_, rfl⟩
  rw [hS] at TX
  have HS := Lib.hid hS
  have HE8e := Lib.hid hE8e
  obtain ⟨la0, la1, la2, la3, la4, la5, la6⟩ := (HIa.out.ext hE8e).cells
  clear hwe hEc hEd hEde hXo hXo' hio htx hS hE0c hE8e
  go_wp2_with fail
  refine TX.out.mono ?_
  rintro e wf ⟨rfl, hEf⟩
  clear la0 la1 la2 la3 la4 la5 la6
  have hE8f := HE8e.out.trans hEf
  obtain ⟨lb0, lb1, lb2, lb3, lb4, lb5, lb6⟩ := (HIb.out.ext hE8f).cells
  obtain ⟨lo0, lo1, lo2, lo3, lo4, lo5, lo6⟩ := (HIO.out.ext hEf).cells
  have hrow := row2' wf b Ab cb db o Ao co dd (HXb8.out.ext hE8f) (HXO.out.ext hEf)
  obtain ⟨wg, hwg⟩ : ∃ y, wf.alloc (.cells #[.int .i64 b.op, .int .i64 b.var, .int .i64 b.ty, .int .i64 b.n, .bool b.b, .string ⟨b.s.toArray⟩, .slice Ab b.l.length cb, .int .i64 o.op, .int .i64 o.var, .int .i64 o.ty, .int .i64 o.n, .bool o.b, .string ⟨o.s.toArray⟩, .slice Ao o.l.length co] 29) = y := ⟨_, rfl⟩
  have hEg : Ext wf wg := by rw [← hwg]; exact Ext.alloc _ _
  rw [hwg] at hrow
  have HRW := Lib.hid hrow
  have HWG := Lib.hid hwg
  have HE8g := Lib.hid (hE8f.trans hEg)
  have HYS : Hid (∀ y ∈ [b, o], y.size < 1048576 ∧ y.ok) := Lib.hid (fun y hy => by
    simp only [List.mem_cons, List.not_mem_nil, or_false] at hy
    have h1 := HSA.out
    have h2 := HSB.out
    have h3 := HSO.out
    rcases hy with rfl | rfl
    · exact ⟨by omega, rt_ok HRb.out⟩
    · exact ⟨by omega, HOO.out⟩)
  clear hwg hrow hEg hE8f hEf
  go_upto_block 0 with fail
  rw [HWG.out]
  clear lb0 lb1 lb2 lb3 lb4 lb5 lb6 lo0 lo1 lo2 lo3 lo4 lo5 lo6
  go_wp2_with fail
  go_loopw [91] (fun kv wr => ∃ j : Nat, j ≤ 2 ∧ kv = .int .i64 j ∧ Ext wg wr) (fun kv _ => 2 - (intOf kv).toNat)
  case atStart => exact ⟨0, Nat.zero_le _, rfl, Ext.refl _⟩
  case round =>
    obtain ⟨j, hj, rfl, hEr⟩ := hrel
    by_cases hlt : j < 2
    · have tj : decide ((j : Int) < 2) = true := by simp; omega
      have hjl : j < [b, o].length := hlt
      obtain ⟨g2, o2, Ay, cy, dy, _, eg, _, hXy, n0', n1', n2', n3', n4', n5', n6'⟩ := ExL.one (HRW.out.ext hEr) hjl
      simp only [Option.some.injEq, Addr.mk.injEq] at eg
      obtain ⟨rfl, rfl, -⟩ := eg
      obtain ⟨y, hy⟩ : ∃ y, [b, o][j] = y := ⟨_, rfl⟩
      have hys := HYS.out y (by rw [← hy]; exact List.getElem_mem _)
      rw [hy] at hXy n0' n1' n2' n3' n4' n5' n6'
      simp only [Nat.zero_add] at n0' n1' n2' n3' n4' n5' n6'
      have hiy := InBlk.new2 wr y Ay cy
      obtain ⟨wh, hwh⟩ : ∃ z, wr.alloc (.cells #[.int .i64 y.op, .int .i64 y.var, .int .i64 y.ty, .int .i64 y.n, .bool y.b, .string ⟨y.s.toArray⟩, .slice Ay y.l.length cy] 29) = z := ⟨_, rfl⟩
      have hEh : Ext wr wh := by rw [← hwh]; exact Ext.alloc _ _
      unfold Ex.cells at hiy
      rw [hwh] at hiy
      have hXy' := ExL.ext hXy hEh
      have hE8h := HE8g.out.trans (hEr.trans hEh)
      have TY := Lib.hid (TextC_any y dy Ay cy wh hXy' (by omega) hys.2 (HT.out.ext (HE08.out.trans hE8h)))
      have SM := Lib.hid (fun (W : World) (h : Ext wh W) => Same_any (max da dy) a y Aa Ay ca cy W (((HXa8.out.ext hE8h).ext h).deep (Nat.le_max_left _ _)) ((hXy'.ext h).deep (Nat.le_max_right _ _)) (by have := HSA.out; omega) (by omega))
      unfold Ex.cells at TY SM
      have HIY := Lib.hid hiy
      have HE8h := Lib.hid hE8h
      have HEG := Lib.hid (hEr.trans hEh)
      have HWH := Lib.hid hwh
      have HCS : Hid (chkE y = 0 → (S.toList == (sv (txT y)).toList) = a.same y) := Lib.hid (fun h => by
        rw [← HS.out]
        show ((⟨a.text.toArray⟩ : ByteArray).toList == (⟨(txT y).toArray⟩ : ByteArray).toList) = _
        rw [bytes_beq]
        exact text_same HRa.out h)
      have HCN : Hid (chkE y ≠ 0 → txT y = []) := Lib.hid (fun h => by unfold txT; rw [if_neg h])
      obtain ⟨ey, hey⟩ : ∃ z, chkE y = z := ⟨_, rfl⟩
      obtain ⟨ty, hty⟩ : ∃ z, txT y = z := ⟨_, rfl⟩
      obtain ⟨bs, hbs⟩ : ∃ z, a.same y = z := ⟨_, rfl⟩
      rw [hey, hty] at TY
      rw [hbs] at SM
      rw [hey, hty, hbs] at HCS
      rw [hey, hty] at HCN
      clear hy hys hXy hXy' hEh hE8h hiy hwh hey hty hbs
      go_upto_region 14 with fail
      rw [HWH.out]
      clear n0' n1' n2' n3' n4' n5' n6'
      obtain ⟨c0', c1', c2', c3', c4', c5', c6'⟩ := HIY.out.cells
      go_wp2_with fail
      refine TY.out.mono ?_
      rintro e wi ⟨rfl, hEi⟩
      clear c0' c1' c2' c3' c4' c5' c6'
      by_cases hc : ey = 0
      · have HB := Lib.hid (HCS.out hc)
        have t1 : (ey == 0) = true := by rw [hc]; rfl
        have t2 : (ey != 0) = false := by rw [hc]; rfl
        obtain ⟨R, hR⟩ : ∃ R, sv ty = R := ⟨_, rfl⟩
        rw [hR] at HB ⊢
        have t3 := HB.out
        obtain ⟨la0, la1, la2, la3, la4, la5, la6⟩ := (HIa.out.ext (HE8h.out.trans hEi)).cells
        obtain ⟨c0', c1', c2', c3', c4', c5', c6'⟩ := (HIY.out.ext hEi).cells
        clear hc hR
        cases bs with
        | true =>
          go_wp2_with fail
          refine (SM.out _ hEi).mono ?_
          rintro e wj ⟨rfl, hEj⟩
          go_wp2_with fail
          go_roundw
          case rel => exact ⟨j + 1, by omega, by go_num, (HEG.out.trans hEi).trans hEj⟩
          case measure => simp [intOf]; omega
        | false =>
          go_wp2_with fail
          refine (SM.out _ hEi).mono ?_
          rintro e wj ⟨rfl, hEj⟩
          go_wp2_with fail
          go_roundw
          case rel => exact ⟨j + 1, by omega, by go_num, (HEG.out.trans hEi).trans hEj⟩
          case measure => simp [intOf]; omega
      · have hty0 := HCN.out hc
        subst hty0
        have t1 : (ey == 0) = false := by simpa using hc
        have t2 : (ey != 0) = true := by simpa using hc
        have es : sv [] = ⟨#[]⟩ := rfl
        rw [es]
        clear hc es
        go_wp2_with fail
        go_roundw
        case rel => exact ⟨j + 1, by omega, by go_num, HEG.out.trans hEi⟩
        case measure => simp [intOf]; omega
    · obtain rfl : j = 2 := by omega
      go_wp2_with fail
      go_ret
      exact ⟨rfl, HE8.out.trans (HE8g.out.trans hEr)⟩
end Go.Proofs.YtggkkjnfonbpkaaGreatDoor
