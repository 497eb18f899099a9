/- ExprChecks: what the law asks of one expression and one environment. -/
import Derived.Test.YtggkkjnfonbpkaaGreatDoorQXk
import Derived.Test.YtggkkjnfonbpkaaGreatDoorQXh
import Derived.Test.YtggkkjnfonbpkaaGreatDoorQFc

set_option linter.unusedSimpArgs false
set_option linter.unusedVariables false
namespace Go.Proofs.YtggkkjnfonbpkaaGreatDoor
open Go.RowKit Hach

theorem V4.put (w : World) (y : Vl) : V4 (w.alloc (.cells #[.int .i64 y.ty, .int .i64 y.n, .bool y.b, .string ⟨y.s.toArray⟩] 26)) w.heap.size y := Go.heap_alloc_new _ _
set_option maxRecDepth 100000 in
set_option maxHeartbeats 4000000 in
theorem lawSame_any (e : Ex) (x : En) (d : Nat) (A : Option Addr) (c : Nat) (w : World) (hX : ExB w w.heap.size d A e.l) (hsz : e.size < 4294967296) (hok : e.ok) (htab : Tabs w) :
    Calls Tryz.prog 14 #[.agg (e.cells A c).toArray, x.v] w fun r w' => r = .returned (.bool true) ∧ Ext w w' := by
  obtain ⟨w0, hw0⟩ : ∃ w0, (w.alloc (.cells (e.cells A c).toArray 29)).alloc (.cells x.cells 31) = w0 := ⟨_, rfl⟩
  have hE0 : Ext w w0 := by rw [← hw0]; exact (Ext.alloc _ _).trans (Ext.alloc _ _)
  have hBx : Box w0 w.heap.size e A c := by rw [← hw0]; exact (Box.new w e A c 29).ext (Ext.alloc _ _)
  have hBy : EnBox w0 (w.heap.size + 1) x := by
    have h1 := EnBox.new (w.alloc (.cells (e.cells A c).toArray 29)) x 31
    rw [World.size_alloc] at h1
    rw [← hw0]; exact h1
  have hz : e.size < 1099511627776 := by omega
  have CK := Lib.hid (fun (W : World) (h : Ext w W) => Check_any e d A c W (hX.ext h) hz hok)
  have RCK := Lib.hid (fun (W : World) (h : Ext w W) => rCheck_any e d A c W (hX.ext h) hz hok)
  have EV := Lib.hid (fun (W : World) (h : Ext w W) => Eval_any e x d A c W (hX.ext h) hz hok)
  have REV := Lib.hid (fun (W : World) (h : Ext w W) => rEval_any e x d A c W (hX.ext h) hz hok)
  have TX := Lib.hid (fun (W : World) (h : Ext w W) => TextC_any e d A c W (hX.ext h) hz hok (htab.ext h))
  have RTX := Lib.hid (fun (W : World) (h : Ext w W) => rTextC_any e d A c W (hX.ext h) hz hok)
  have SZ := Lib.hid (fun (W : World) (h : Ext w W) => Size_any d e A c W (hX.ext h) hz)
  have RSZ := Lib.hid (fun (W : World) (h : Ext w W) => rSize_any d e A c W (hX.ext h) hz)
  have CP := Lib.hid (fun (W : World) (h : Ext w W) => Copy_any d e A c W (hX.ext h) hsz)
  have SM := Lib.hid (fun (W V : World) (A' : Option Addr) (c' : Nat) (h : Ext w W) (h' : ExL W (fun b => V.heap.size ≤ b ∧ b < W.heap.size) d A' e.l) => Same_any d e e A A' c c' W (hX.ext h) (h'.more fun b hb => hb.2) hz hz)
  rw [show e.same e = true from (Ex.same_iff _ _).2 rfl] at SM
  unfold Ex.cells at hw0 CK RCK EV REV TX RTX SZ RSZ CP SM ⊢
  unfold En.v at EV REV ⊢
  unfold En.cells at hw0
  have HW := Lib.hid hw0
  have HBx := Lib.hid hBx
  have HBy := Lib.hid hBy
  obtain ⟨_, y0, y1, y2, y3, y4, y5, y6⟩ := hBx
  generalize chkT e = T at *
  generalize chkE e = E at *
  generalize evV e x = v at *
  generalize txT e = S at *
  generalize hN : e.size = N at *
  have e1 : (T == T) = true := by simp
  have e2 : (E == E) = true := by simp
  have e3 : ((sv S).toList == (sv S).toList) = true := by simp
  have e4 : (((N : Nat) : Int) == ((N : Nat) : Int)) = true := by simp
  have VE : ∀ W, (binOp .eql 26 (.agg #[.int .i64 v.ty, .int .i64 v.n, .bool v.b, .string ⟨v.s.toArray⟩]) (.agg #[.int .i64 v.ty, .int .i64 v.n, .bool v.b, .string ⟨v.s.toArray⟩])).run Tryz.prog W = .ok (.bool true) W := fun W => by
    rw [val_eql, show valB v.ty v.n v.b v.s v.ty v.n v.b v.s = true by unfold valB; simp]
  clear hw0 hBy hX hok htab hz hsz hN
  go_enter Tryz.func14, Tryz.ntmps14
  go_upto_region 1 with fail
  rw [HW.out]
  go_wp2_with fail
  refine (CK.out _ hE0).mono ?_
  rintro r w1 ⟨rfl, hE1⟩
  have hE01 := hE0.trans hE1
  clear y0 y1 y2 y3 y4 y5 y6
  obtain ⟨_, y0, y1, y2, y3, y4, y5, y6⟩ := HBx.out.ext hE1
  go_wp2_with fail
  refine (RCK.out _ hE01).mono ?_
  rintro r w2 ⟨rfl, hE2⟩
  have hE02 := hE01.trans hE2
  have hE12 := hE1.trans hE2
  clear y0 y1 y2 y3 y4 y5 y6
  obtain ⟨_, y0, y1, y2, y3, y4, y5, y6⟩ := HBx.out.ext hE12
  obtain ⟨_, m0, m1, m2, m3, m4, m5, m6, m7, m8⟩ := HBy.out.ext hE12
  go_wp2_with fail
  refine (EV.out _ hE02).mono ?_
  rintro r w3 ⟨rfl, hE3⟩
  unfold Vl.v
  have hv3 := V4.put w3 v
  have hE3' : Ext w3 (w3.alloc (.cells #[.int .i64 v.ty, .int .i64 v.n, .bool v.b, .string ⟨v.s.toArray⟩] 26)) := Ext.alloc _ _
  have hE03 := (hE02.trans hE3).trans hE3'
  have hE13 := (hE12.trans hE3).trans hE3'
  clear y0 y1 y2 y3 y4 y5 y6 m0 m1 m2 m3 m4 m5 m6 m7 m8
  go_upto_region 4 with fail
  obtain ⟨w4, hw4⟩ : ∃ w4, w3.alloc (.cells #[.int .i64 v.ty, .int .i64 v.n, .bool v.b, .string ⟨v.s.toArray⟩] 26) = w4 := ⟨_, rfl⟩
  rw [hw4] at hv3 hE03 hE13 ⊢
  have hs34 : w3.heap.size < w4.heap.size := hv3.lt
  clear hw4 hE3 hE3'
  obtain ⟨_, y0, y1, y2, y3, y4, y5, y6⟩ := HBx.out.ext hE13
  obtain ⟨_, m0, m1, m2, m3, m4, m5, m6, m7, m8⟩ := HBy.out.ext hE13
  go_wp2_with fail
  refine (REV.out _ hE03).mono ?_
  rintro r w5 ⟨rfl, hE5⟩
  unfold Vl.v
  have hv5 := V4.put w5 v
  have hE5' : Ext w5 (w5.alloc (.cells #[.int .i64 v.ty, .int .i64 v.n, .bool v.b, .string ⟨v.s.toArray⟩] 26)) := Ext.alloc _ _
  have hE45 := hE5.trans hE5'
  clear y0 y1 y2 y3 y4 y5 y6 m0 m1 m2 m3 m4 m5 m6 m7 m8
  go_upto_region 5 with fail
  obtain ⟨w6, hw6⟩ : ∃ w6, w5.alloc (.cells #[.int .i64 v.ty, .int .i64 v.n, .bool v.b, .string ⟨v.s.toArray⟩] 26) = w6 := ⟨_, rfl⟩
  rw [hw6] at hv5 hE45 ⊢
  have hv36 := hv3.ext hE45
  have hE06 := hE03.trans hE45
  have hE16 := hE13.trans hE45
  clear hw6 hE5 hE5' hv3
  obtain ⟨_, y0, y1, y2, y3, y4, y5, y6⟩ := HBx.out.ext hE16
  go_wp2_with fail
  refine (TX.out _ hE06).mono ?_
  rintro r w7 ⟨rfl, hE7⟩
  have hE67 := hE7
  clear y0 y1 y2 y3 y4 y5 y6
  obtain ⟨_, y0, y1, y2, y3, y4, y5, y6⟩ := HBx.out.ext (hE16.trans hE7)
  generalize hSS : sv S = SS at *
  clear hSS
  go_wp2_with fail
  refine (RTX.out _ (hE06.trans hE7)).mono ?_
  rintro r w8 ⟨rfl, hE8⟩
  have hE68 := hE7.trans hE8
  have hE18 := hE16.trans hE68
  have hE08 := hE06.trans hE68
  have hv38 := hv36.ext hE68
  have hv58 := hv5.ext hE68
  have HB8 := Lib.hid (HBx.out.ext hE18)
  clear y0 y1 y2 y3 y4 y5 y6 hE7 hE8 hE67 hv36 hv5 hE45 hE13 hE03 hE16 hE06 hE12 hE02 hE01 hE1 hE2
  go_upto_region 7 with fail
  apply wp_region_seq (l := [_, _, _, _, _, _, _, _, _, _, _, _, _, _, _, _, _, _, _, _, _, _, _, _, _, _, _, _, _, _, _, _, _, _, _, _, _, _, _, _, _]) (t := [_]) [some 49, some 50, some 51, some 52, some 53, some 54, some 55, some 56, some 57, some 58, some 59, some 60, some 61, some 62, some 63, some 64, some 65, some 66, some 67, some 68, some 69, some 70, some 71, some 72, some 73, some 74, some 75, some 76, some 77, some 78, some 79, some 80, some 81, some 82, some 83, some 84, some 85, some 86, some 87, some 88, some 89, some 4] [[], [], [0, 1], [2], [3], [3], [3, 4, 5], [3, 6], [7], [8], [8], [8, 9, 10], [8, 11], [12], [13], [13], [13, 14, 15], [13, 16], [17], [18], [18], [18, 19, 20], [18, 21], [22], [23], [23], [23, 24, 25], [23, 26], [27], [28], [28, 29], [28], [28, 31], [28, 30, 32], [28, 33], [34], [35], [35], [35, 37], [35, 36, 38], [35, 39], [40]] [41, 41, 41, 41, 41, 41, 41, 41, 41, 41, 41, 41, 41, 41, 41, 41, 41, 41, 41, 41, 41, 41, 41, 41, 41, 41, 41, 41, 41, 41, 41, 41, 41, 41, 41, 41, 41, 41, 41, 41, 41] [eqv _, eqv _, eqv _, eqv _, eqv _, eqv _, eqv _, eqv _, eqv _, eqv _, eqv _, eqv _, eqv _, eqv _, eqv _, eqv _, eqv _, eqv _, eqv _, eqv _, eqv _, eqv _, eqv _, eqv _, eqv _, eqv _, eqv _, eqv _, eqv _, eqv _, (eqv (.int .i64 (N : Nat))), eqv _, (eqv (.int .i64 (N : Nat))), eqv _, eqv _, eqv _, eqv _, eqv _, (ndSP w8.heap.size e d), (eqv (.bool true)), eqv _] (by kernel_rfl) (by kernel_rfl) ⟨?o0, ?o1, ?o2, ?o3, ?o4, ?o5, ?o6, ?o7, ?o8, ?o9, ?o10, ?o11, ?o12, ?o13, ?o14, ?o15, ?o16, ?o17, ?o18, ?o19, ?o20, ?o21, ?o22, ?o23, ?o24, ?o25, ?o26, ?o27, ?o28, ?o29, ?o30, ?o31, ?o32, ?o33, ?o34, ?o35, ?o36, ?o37, ?o38, ?o39, ?o40, trivial⟩ ?last
  case o0 => -- Op.move (Operand.tmp 5)
    intro xv W hE _
    simp only [putD, List.foldl_nil, List.getD_cons_zero]
    refine OpGoal.plain ?_
    go_wp2_with fail
    exact ⟨rfl, Ext.refl _, rfl⟩
  case o1 => -- Op.move (Operand.tmp 7)
    intro xv W hE _
    simp only [putD, List.foldl_nil, List.getD_cons_zero, List.getD_cons_succ]
    refine OpGoal.plain ?_
    go_wp2_with fail
    exact ⟨rfl, Ext.refl _, rfl⟩
  case o2 => -- Op.binOp BinOp.eql 3 (Operand.tmp 49) (Operand.tmp 50) 3
    intro xv W hE hp
    have r0 : xv 0 = _ := hp.1
    have r1 : xv 1 = _ := hp.2.1
    clear hp
    simp only [putD, List.foldl_nil, List.foldl_cons, List.getD_cons_zero, List.getD_cons_succ, Act.put, List.setIfInBounds_toArray, List.set_cons_zero, List.set_cons_succ]
    refine OpGoal.plain ?_
    go_wp2_with fail
    exact ⟨rfl, Ext.refl _, rfl⟩
  case o3 => -- Op.move (Operand.tmp 51)
    intro xv W hE hp
    have r2 : xv 2 = _ := hp.1
    clear hp
    simp only [putD, List.foldl_nil, List.foldl_cons, List.getD_cons_zero, List.getD_cons_succ, Act.put, List.setIfInBounds_toArray, List.set_cons_zero, List.set_cons_succ]
    refine OpGoal.plain ?_
    go_wp2_with fail
    exact ⟨rfl, Ext.refl _, rfl⟩
  case o4 => -- Op.move (Operand.tmp 6)  GUARD (3, 'true')
    intro xv W hE hp
    have r3 : xv 3 = _ := hp.1
    clear hp
    simp only [putD, List.foldl_nil, List.foldl_cons, List.getD_cons_zero, List.getD_cons_succ, Act.put, List.setIfInBounds_toArray, List.set_cons_zero, List.set_cons_succ]
    refine OpGoal.yes (by simp [yieldD, r3]) ?_
    go_wp2_with fail
    exact ⟨rfl, Ext.refl _, rfl⟩
  case o5 => -- Op.move (Operand.tmp 8)  GUARD (3, 'true')
    intro xv W hE hp
    have r3 : xv 3 = _ := hp.1
    clear hp
    simp only [putD, List.foldl_nil, List.foldl_cons, List.getD_cons_zero, List.getD_cons_succ, Act.put, List.setIfInBounds_toArray, List.set_cons_zero, List.set_cons_succ]
    refine OpGoal.yes (by simp [yieldD, r3]) ?_
    go_wp2_with fail
    exact ⟨rfl, Ext.refl _, rfl⟩
  case o6 => -- Op.binOp BinOp.eql 42 (Operand.tmp 53) (Operand.tmp 54) 42  GUARD (3, 'true')
    intro xv W hE hp
    have r3 : xv 3 = _ := hp.1
    have r4 : xv 4 = _ := hp.2.1
    have r5 : xv 5 = _ := hp.2.2.1
    clear hp
    simp only [putD, List.foldl_nil, List.foldl_cons, List.getD_cons_zero, List.getD_cons_succ, Act.put, List.setIfInBounds_toArray, List.set_cons_zero, List.set_cons_succ]
    refine OpGoal.yes (by simp [yieldD, r3]) ?_
    go_wp2_with fail
    exact ⟨rfl, Ext.refl _, rfl⟩
  case o7 => -- Op.pick (Operand.tmp 52) (Operand.tmp 55) (Operand.const (Value.bool false))
    intro xv W hE hp
    have r3 : xv 3 = _ := hp.1
    have r6 : xv 6 = _ := hp.2.1
    clear hp
    simp only [putD, List.foldl_nil, List.foldl_cons, List.getD_cons_zero, List.getD_cons_succ, Act.put, List.setIfInBounds_toArray, List.set_cons_zero, List.set_cons_succ]
    refine OpGoal.plain ?_
    go_wp2_with fail
    exact ⟨rfl, Ext.refl _, rfl⟩
  case o8 => -- Op.move (Operand.tmp 56)
    intro xv W hE hp
    have r7 : xv 7 = _ := hp.1
    clear hp
    simp only [putD, List.foldl_nil, List.foldl_cons, List.getD_cons_zero, List.getD_cons_succ, Act.put, List.setIfInBounds_toArray, List.set_cons_zero, List.set_cons_succ]
    refine OpGoal.plain ?_
    go_wp2_with fail
    exact ⟨rfl, Ext.refl _, rfl⟩
  case o9 => -- Op.load 26 (Operand.tmp 9)  GUARD (8, 'true')
    intro xv W hE hp
    have r8 : xv 8 = _ := hp.1
    clear hp
    have hEW := (Ext.drew w8).trans hE
    obtain ⟨_, y0, y1, y2, y3, y4, y5, y6⟩ := HB8.out.ext hEW
    obtain ⟨u0, u1, u2, u3⟩ := (hv38.ext hEW).cells
    obtain ⟨v0, v1, v2, v3⟩ := (hv58.ext hEW).cells
    simp only [putD, List.foldl_nil, List.foldl_cons, List.getD_cons_zero, List.getD_cons_succ, Act.put, List.setIfInBounds_toArray, List.set_cons_zero, List.set_cons_succ]
    refine OpGoal.yes (by simp [yieldD, r8]) ?_
    go_wp2_with fail
    exact ⟨rfl, Ext.refl _, rfl⟩
  case o10 => -- Op.load 26 (Operand.tmp 11)  GUARD (8, 'true')
    intro xv W hE hp
    have r8 : xv 8 = _ := hp.1
    clear hp
    have hEW := (Ext.drew w8).trans hE
    obtain ⟨_, y0, y1, y2, y3, y4, y5, y6⟩ := HB8.out.ext hEW
    obtain ⟨u0, u1, u2, u3⟩ := (hv38.ext hEW).cells
    obtain ⟨v0, v1, v2, v3⟩ := (hv58.ext hEW).cells
    simp only [putD, List.foldl_nil, List.foldl_cons, List.getD_cons_zero, List.getD_cons_succ, Act.put, List.setIfInBounds_toArray, List.set_cons_zero, List.set_cons_succ]
    refine OpGoal.yes (by simp [yieldD, r8]) ?_
    go_wp2_with fail
    exact ⟨rfl, Ext.refl _, rfl⟩
  case o11 => -- Op.binOp BinOp.eql 26 (Operand.tmp 58) (Operand.tmp 59) 26  GUARD (8, 'true')
    intro xv W hE hp
    have r8 : xv 8 = _ := hp.1
    have r9 : xv 9 = _ := hp.2.1
    have r10 : xv 10 = _ := hp.2.2.1
    clear hp
    simp only [putD, List.foldl_nil, List.foldl_cons, List.getD_cons_zero, List.getD_cons_succ, Act.put, List.setIfInBounds_toArray, List.set_cons_zero, List.set_cons_succ]
    refine OpGoal.yes (by simp [yieldD, r8]) ?_
    go_wp2_with fail
    exact ⟨rfl, Ext.refl _, rfl⟩
  case o12 => -- Op.pick (Operand.tmp 57) (Operand.tmp 60) (Operand.const (Value.bool false))
    intro xv W hE hp
    have r8 : xv 8 = _ := hp.1
    have r11 : xv 11 = _ := hp.2.1
    clear hp
    simp only [putD, List.foldl_nil, List.foldl_cons, List.getD_cons_zero, List.getD_cons_succ, Act.put, List.setIfInBounds_toArray, List.set_cons_zero, List.set_cons_succ]
    refine OpGoal.plain ?_
    go_wp2_with fail
    exact ⟨rfl, Ext.refl _, rfl⟩
  case o13 => -- Op.move (Operand.tmp 61)
    intro xv W hE hp
    have r12 : xv 12 = _ := hp.1
    clear hp
    simp only [putD, List.foldl_nil, List.foldl_cons, List.getD_cons_zero, List.getD_cons_succ, Act.put, List.setIfInBounds_toArray, List.set_cons_zero, List.set_cons_succ]
    refine OpGoal.plain ?_
    go_wp2_with fail
    exact ⟨rfl, Ext.refl _, rfl⟩
  case o14 => -- Op.move (Operand.tmp 10)  GUARD (13, 'true')
    intro xv W hE hp
    have r13 : xv 13 = _ := hp.1
    clear hp
    simp only [putD, List.foldl_nil, List.foldl_cons, List.getD_cons_zero, List.getD_cons_succ, Act.put, List.setIfInBounds_toArray, List.set_cons_zero, List.set_cons_succ]
    refine OpGoal.yes (by simp [yieldD, r13]) ?_
    go_wp2_with fail
    exact ⟨rfl, Ext.refl _, rfl⟩
  case o15 => -- Op.move (Operand.tmp 12)  GUARD (13, 'true')
    intro xv W hE hp
    have r13 : xv 13 = _ := hp.1
    clear hp
    simp only [putD, List.foldl_nil, List.foldl_cons, List.getD_cons_zero, List.getD_cons_succ, Act.put, List.setIfInBounds_toArray, List.set_cons_zero, List.set_cons_succ]
    refine OpGoal.yes (by simp [yieldD, r13]) ?_
    go_wp2_with fail
    exact ⟨rfl, Ext.refl _, rfl⟩
  case o16 => -- Op.binOp BinOp.eql 42 (Operand.tmp 63) (Operand.tmp 64) 42  GUARD (13, 'true')
    intro xv W hE hp
    have r13 : xv 13 = _ := hp.1
    have r14 : xv 14 = _ := hp.2.1
    have r15 : xv 15 = _ := hp.2.2.1
    clear hp
    simp only [putD, List.foldl_nil, List.foldl_cons, List.getD_cons_zero, List.getD_cons_succ, Act.put, List.setIfInBounds_toArray, List.set_cons_zero, List.set_cons_succ]
    refine OpGoal.yes (by simp [yieldD, r13]) ?_
    go_wp2_with fail
    exact ⟨rfl, Ext.refl _, rfl⟩
  case o17 => -- Op.pick (Operand.tmp 62) (Operand.tmp 65) (Operand.const (Value.bool false))
    intro xv W hE hp
    have r13 : xv 13 = _ := hp.1
    have r16 : xv 16 = _ := hp.2.1
    clear hp
    simp only [putD, List.foldl_nil, List.foldl_cons, List.getD_cons_zero, List.getD_cons_succ, Act.put, List.setIfInBounds_toArray, List.set_cons_zero, List.set_cons_succ]
    refine OpGoal.plain ?_
    go_wp2_with fail
    exact ⟨rfl, Ext.refl _, rfl⟩
  case o18 => -- Op.move (Operand.tmp 66)
    intro xv W hE hp
    have r17 : xv 17 = _ := hp.1
    clear hp
    simp only [putD, List.foldl_nil, List.foldl_cons, List.getD_cons_zero, List.getD_cons_succ, Act.put, List.setIfInBounds_toArray, List.set_cons_zero, List.set_cons_succ]
    refine OpGoal.plain ?_
    go_wp2_with fail
    exact ⟨rfl, Ext.refl _, rfl⟩
  case o19 => -- Op.move (Operand.tmp 13)  GUARD (18, 'true')
    intro xv W hE hp
    have r18 : xv 18 = _ := hp.1
    clear hp
    simp only [putD, List.foldl_nil, List.foldl_cons, List.getD_cons_zero, List.getD_cons_succ, Act.put, List.setIfInBounds_toArray, List.set_cons_zero, List.set_cons_succ]
    refine OpGoal.yes (by simp [yieldD, r18]) ?_
    go_wp2_with fail
    exact ⟨rfl, Ext.refl _, rfl⟩
  case o20 => -- Op.move (Operand.tmp 15)  GUARD (18, 'true')
    intro xv W hE hp
    have r18 : xv 18 = _ := hp.1
    clear hp
    simp only [putD, List.foldl_nil, List.foldl_cons, List.getD_cons_zero, List.getD_cons_succ, Act.put, List.setIfInBounds_toArray, List.set_cons_zero, List.set_cons_succ]
    refine OpGoal.yes (by simp [yieldD, r18]) ?_
    go_wp2_with fail
    exact ⟨rfl, Ext.refl _, rfl⟩
  case o21 => -- Op.binOp BinOp.eql 9 (Operand.tmp 68) (Operand.tmp 69) 9  GUARD (18, 'true')
    intro xv W hE hp
    have r18 : xv 18 = _ := hp.1
    have r19 : xv 19 = _ := hp.2.1
    have r20 : xv 20 = _ := hp.2.2.1
    clear hp
    simp only [putD, List.foldl_nil, List.foldl_cons, List.getD_cons_zero, List.getD_cons_succ, Act.put, List.setIfInBounds_toArray, List.set_cons_zero, List.set_cons_succ]
    refine OpGoal.yes (by simp [yieldD, r18]) ?_
    go_wp2_with fail
    exact ⟨rfl, Ext.refl _, rfl⟩
  case o22 => -- Op.pick (Operand.tmp 67) (Operand.tmp 70) (Operand.const (Value.bool false))
    intro xv W hE hp
    have r18 : xv 18 = _ := hp.1
    have r21 : xv 21 = _ := hp.2.1
    clear hp
    simp only [putD, List.foldl_nil, List.foldl_cons, List.getD_cons_zero, List.getD_cons_succ, Act.put, List.setIfInBounds_toArray, List.set_cons_zero, List.set_cons_succ]
    refine OpGoal.plain ?_
    go_wp2_with fail
    exact ⟨rfl, Ext.refl _, rfl⟩
  case o23 => -- Op.move (Operand.tmp 71)
    intro xv W hE hp
    have r22 : xv 22 = _ := hp.1
    clear hp
    simp only [putD, List.foldl_nil, List.foldl_cons, List.getD_cons_zero, List.getD_cons_succ, Act.put, List.setIfInBounds_toArray, List.set_cons_zero, List.set_cons_succ]
    refine OpGoal.plain ?_
    go_wp2_with fail
    exact ⟨rfl, Ext.refl _, rfl⟩
  case o24 => -- Op.move (Operand.tmp 14)  GUARD (23, 'true')
    intro xv W hE hp
    have r23 : xv 23 = _ := hp.1
    clear hp
    simp only [putD, List.foldl_nil, List.foldl_cons, List.getD_cons_zero, List.getD_cons_succ, Act.put, List.setIfInBounds_toArray, List.set_cons_zero, List.set_cons_succ]
    refine OpGoal.yes (by simp [yieldD, r23]) ?_
    go_wp2_with fail
    exact ⟨rfl, Ext.refl _, rfl⟩
  case o25 => -- Op.move (Operand.tmp 16)  GUARD (23, 'true')
    intro xv W hE hp
    have r23 : xv 23 = _ := hp.1
    clear hp
    simp only [putD, List.foldl_nil, List.foldl_cons, List.getD_cons_zero, List.getD_cons_succ, Act.put, List.setIfInBounds_toArray, List.set_cons_zero, List.set_cons_succ]
    refine OpGoal.yes (by simp [yieldD, r23]) ?_
    go_wp2_with fail
    exact ⟨rfl, Ext.refl _, rfl⟩
  case o26 => -- Op.binOp BinOp.eql 42 (Operand.tmp 73) (Operand.tmp 74) 42  GUARD (23, 'true')
    intro xv W hE hp
    have r23 : xv 23 = _ := hp.1
    have r24 : xv 24 = _ := hp.2.1
    have r25 : xv 25 = _ := hp.2.2.1
    clear hp
    simp only [putD, List.foldl_nil, List.foldl_cons, List.getD_cons_zero, List.getD_cons_succ, Act.put, List.setIfInBounds_toArray, List.set_cons_zero, List.set_cons_succ]
    refine OpGoal.yes (by simp [yieldD, r23]) ?_
    go_wp2_with fail
    exact ⟨rfl, Ext.refl _, rfl⟩
  case o27 => -- Op.pick (Operand.tmp 72) (Operand.tmp 75) (Operand.const (Value.bool false))
    intro xv W hE hp
    have r23 : xv 23 = _ := hp.1
    have r26 : xv 26 = _ := hp.2.1
    clear hp
    simp only [putD, List.foldl_nil, List.foldl_cons, List.getD_cons_zero, List.getD_cons_succ, Act.put, List.setIfInBounds_toArray, List.set_cons_zero, List.set_cons_succ]
    refine OpGoal.plain ?_
    go_wp2_with fail
    exact ⟨rfl, Ext.refl _, rfl⟩
  case o28 => -- Op.move (Operand.tmp 76)
    intro xv W hE hp
    have r27 : xv 27 = _ := hp.1
    clear hp
    simp only [putD, List.foldl_nil, List.foldl_cons, List.getD_cons_zero, List.getD_cons_succ, Act.put, List.setIfInBounds_toArray, List.set_cons_zero, List.set_cons_succ]
    refine OpGoal.plain ?_
    go_wp2_with fail
    exact ⟨rfl, Ext.refl _, rfl⟩
  case o29 => -- Op.load 29 (Operand.tmp 2)  GUARD (28, 'true')
    intro xv W hE hp
    have r28 : xv 28 = _ := hp.1
    clear hp
    have hEW := (Ext.drew w8).trans hE
    obtain ⟨_, y0, y1, y2, y3, y4, y5, y6⟩ := HB8.out.ext hEW
    obtain ⟨u0, u1, u2, u3⟩ := (hv38.ext hEW).cells
    obtain ⟨v0, v1, v2, v3⟩ := (hv58.ext hEW).cells
    simp only [putD, List.foldl_nil, List.foldl_cons, List.getD_cons_zero, List.getD_cons_succ, Act.put, List.setIfInBounds_toArray, List.set_cons_zero, List.set_cons_succ]
    refine OpGoal.yes (by simp [yieldD, r28]) ?_
    go_wp2_with fail
    exact ⟨rfl, Ext.refl _, rfl⟩
  case o30 => -- Op.call { callee := Callee.value (Operand.func 29), args := #[Operand.tmp 78], a
    intro xv W hE hp
    have r28 : xv 28 = _ := hp.1
    have r29 : xv 29 = _ := hp.2.1
    clear hp
    simp only [putD, List.foldl_nil, List.foldl_cons, List.getD_cons_zero, List.getD_cons_succ, Act.put, List.setIfInBounds_toArray, List.set_cons_zero, List.set_cons_succ]
    refine OpGoal.yes (by simp [yieldD, r28]) ?_
    go_wp2_with fail
    refine (SZ.out W (hE08.trans ((Ext.drew w8).trans hE))).mono ?_
    rintro r w' ⟨rfl, hE9⟩
    go_wp2_with fail
    exact ⟨rfl, hE9, rfl⟩
  case o31 => -- Op.load 29 (Operand.tmp 2)  GUARD (28, 'true')
    intro xv W hE hp
    have r28 : xv 28 = _ := hp.1
    clear hp
    have hEW := (Ext.drew w8).trans hE
    obtain ⟨_, y0, y1, y2, y3, y4, y5, y6⟩ := HB8.out.ext hEW
    obtain ⟨u0, u1, u2, u3⟩ := (hv38.ext hEW).cells
    obtain ⟨v0, v1, v2, v3⟩ := (hv58.ext hEW).cells
    simp only [putD, List.foldl_nil, List.foldl_cons, List.getD_cons_zero, List.getD_cons_succ, Act.put, List.setIfInBounds_toArray, List.set_cons_zero, List.set_cons_succ]
    refine OpGoal.yes (by simp [yieldD, r28]) ?_
    go_wp2_with fail
    exact ⟨rfl, Ext.refl _, rfl⟩
  case o32 => -- Op.call { callee := Callee.value (Operand.func 41), args := #[Operand.tmp 80], a
    intro xv W hE hp
    have r28 : xv 28 = _ := hp.1
    have r31 : xv 31 = _ := hp.2.1
    clear hp
    simp only [putD, List.foldl_nil, List.foldl_cons, List.getD_cons_zero, List.getD_cons_succ, Act.put, List.setIfInBounds_toArray, List.set_cons_zero, List.set_cons_succ]
    refine OpGoal.yes (by simp [yieldD, r28]) ?_
    go_wp2_with fail
    refine (RSZ.out W (hE08.trans ((Ext.drew w8).trans hE))).mono ?_
    rintro r w' ⟨rfl, hE9⟩
    go_wp2_with fail
    exact ⟨rfl, hE9, rfl⟩
  case o33 => -- Op.binOp BinOp.eql 3 (Operand.tmp 79) (Operand.tmp 81) 3  GUARD (28, 'true')
    intro xv W hE hp
    have r28 : xv 28 = _ := hp.1
    have r30 : xv 30 = _ := hp.2.1
    have r32 : xv 32 = _ := hp.2.2.1
    clear hp
    simp only [putD, List.foldl_nil, List.foldl_cons, List.getD_cons_zero, List.getD_cons_succ, Act.put, List.setIfInBounds_toArray, List.set_cons_zero, List.set_cons_succ]
    refine OpGoal.yes (by simp [yieldD, r28]) ?_
    go_wp2_with fail
    exact ⟨rfl, Ext.refl _, rfl⟩
  case o34 => -- Op.pick (Operand.tmp 77) (Operand.tmp 82) (Operand.const (Value.bool false))
    intro xv W hE hp
    have r28 : xv 28 = _ := hp.1
    have r33 : xv 33 = _ := hp.2.1
    clear hp
    simp only [putD, List.foldl_nil, List.foldl_cons, List.getD_cons_zero, List.getD_cons_succ, Act.put, List.setIfInBounds_toArray, List.set_cons_zero, List.set_cons_succ]
    refine OpGoal.plain ?_
    go_wp2_with fail
    exact ⟨rfl, Ext.refl _, rfl⟩
  case o35 => -- Op.move (Operand.tmp 83)
    intro xv W hE hp
    have r34 : xv 34 = _ := hp.1
    clear hp
    simp only [putD, List.foldl_nil, List.foldl_cons, List.getD_cons_zero, List.getD_cons_succ, Act.put, List.setIfInBounds_toArray, List.set_cons_zero, List.set_cons_succ]
    refine OpGoal.plain ?_
    go_wp2_with fail
    exact ⟨rfl, Ext.refl _, rfl⟩
  case o36 => -- Op.load 29 (Operand.tmp 2)  GUARD (35, 'true')
    intro xv W hE hp
    have r35 : xv 35 = _ := hp.1
    clear hp
    have hEW := (Ext.drew w8).trans hE
    obtain ⟨_, y0, y1, y2, y3, y4, y5, y6⟩ := HB8.out.ext hEW
    obtain ⟨u0, u1, u2, u3⟩ := (hv38.ext hEW).cells
    obtain ⟨v0, v1, v2, v3⟩ := (hv58.ext hEW).cells
    simp only [putD, List.foldl_nil, List.foldl_cons, List.getD_cons_zero, List.getD_cons_succ, Act.put, List.setIfInBounds_toArray, List.set_cons_zero, List.set_cons_succ]
    refine OpGoal.yes (by simp [yieldD, r35]) ?_
    go_wp2_with fail
    exact ⟨rfl, Ext.refl _, rfl⟩
  case o37 => -- Op.load 29 (Operand.tmp 2)  GUARD (35, 'true')
    intro xv W hE hp
    have r35 : xv 35 = _ := hp.1
    clear hp
    have hEW := (Ext.drew w8).trans hE
    obtain ⟨_, y0, y1, y2, y3, y4, y5, y6⟩ := HB8.out.ext hEW
    obtain ⟨u0, u1, u2, u3⟩ := (hv38.ext hEW).cells
    obtain ⟨v0, v1, v2, v3⟩ := (hv58.ext hEW).cells
    simp only [putD, List.foldl_nil, List.foldl_cons, List.getD_cons_zero, List.getD_cons_succ, Act.put, List.setIfInBounds_toArray, List.set_cons_zero, List.set_cons_succ]
    refine OpGoal.yes (by simp [yieldD, r35]) ?_
    go_wp2_with fail
    exact ⟨rfl, Ext.refl _, rfl⟩
  case o38 => -- Op.call { callee := Callee.value (Operand.func 35), args := #[Operand.tmp 86], a
    intro xv W hE hp
    have r35 : xv 35 = _ := hp.1
    have r37 : xv 37 = _ := hp.2.1
    clear hp
    simp only [putD, List.foldl_nil, List.foldl_cons, List.getD_cons_zero, List.getD_cons_succ, Act.put, List.setIfInBounds_toArray, List.set_cons_zero, List.set_cons_succ]
    refine OpGoal.yes (by simp [yieldD, r35]) ?_
    go_wp2_with fail
    refine (CP.out W (hE08.trans ((Ext.drew w8).trans hE))).mono ?_
    rintro r w' ⟨A7, c7, rfl, hk7, hE9⟩
    go_wp2_with fail
    exact ⟨rfl, hE9, A7, c7, rfl, hk7.more fun b hb => ⟨Nat.le_trans ((Ext.drew w8).trans hE).sz hb.1, hb.2⟩⟩
  case o39 => -- Op.call { callee := Callee.value (Operand.func 15), args := #[Operand.tmp 85, Op
    intro xv W hE hp
    have r35 : xv 35 = _ := hp.1
    have r36 : xv 36 = _ := hp.2.1
    obtain ⟨A7, c7, r38, hk7⟩ := hp.2.2.1
    clear hp
    simp only [putD, List.foldl_nil, List.foldl_cons, List.getD_cons_zero, List.getD_cons_succ, Act.put, List.setIfInBounds_toArray, List.set_cons_zero, List.set_cons_succ]
    refine OpGoal.yes (by simp [yieldD, r35]) ?_
    go_wp2_with fail
    refine (SM.out W w8 A7 c7 (hE08.trans ((Ext.drew w8).trans hE)) hk7).mono ?_
    rintro r w' ⟨rfl, hE9⟩
    go_wp2_with fail
    exact ⟨rfl, hE9, rfl⟩
  case o40 => -- Op.pick (Operand.tmp 84) (Operand.tmp 88) (Operand.const (Value.bool false))
    intro xv W hE hp
    have r35 : xv 35 = _ := hp.1
    have r39 : xv 39 = _ := hp.2.1
    clear hp
    simp only [putD, List.foldl_nil, List.foldl_cons, List.getD_cons_zero, List.getD_cons_succ, Act.put, List.setIfInBounds_toArray, List.set_cons_zero, List.set_cons_succ]
    refine OpGoal.plain ?_
    go_wp2_with fail
    exact ⟨rfl, Ext.refl _, rfl⟩
  case last =>
    intro xv W hE hp
    have r0 : xv 0 = _ := hp.1
    have r1 : xv 1 = _ := hp.2.1
    have r2 : xv 2 = _ := hp.2.2.1
    have r3 : xv 3 = _ := hp.2.2.2.1
    have r4 : xv 4 = _ := hp.2.2.2.2.1
    have r5 : xv 5 = _ := hp.2.2.2.2.2.1
    have r6 : xv 6 = _ := hp.2.2.2.2.2.2.1
    have r7 : xv 7 = _ := hp.2.2.2.2.2.2.2.1
    have r8 : xv 8 = _ := hp.2.2.2.2.2.2.2.2.1
    have r9 : xv 9 = _ := hp.2.2.2.2.2.2.2.2.2.1
    have r10 : xv 10 = _ := hp.2.2.2.2.2.2.2.2.2.2.1
    have r11 : xv 11 = _ := hp.2.2.2.2.2.2.2.2.2.2.2.1
    have r12 : xv 12 = _ := hp.2.2.2.2.2.2.2.2.2.2.2.2.1
    have r13 : xv 13 = _ := hp.2.2.2.2.2.2.2.2.2.2.2.2.2.1
    have r14 : xv 14 = _ := hp.2.2.2.2.2.2.2.2.2.2.2.2.2.2.1
    have r15 : xv 15 = _ := hp.2.2.2.2.2.2.2.2.2.2.2.2.2.2.2.1
    have r16 : xv 16 = _ := hp.2.2.2.2.2.2.2.2.2.2.2.2.2.2.2.2.1
    have r17 : xv 17 = _ := hp.2.2.2.2.2.2.2.2.2.2.2.2.2.2.2.2.2.1
    have r18 : xv 18 = _ := hp.2.2.2.2.2.2.2.2.2.2.2.2.2.2.2.2.2.2.1
    have r19 : xv 19 = _ := hp.2.2.2.2.2.2.2.2.2.2.2.2.2.2.2.2.2.2.2.1
    have r20 : xv 20 = _ := hp.2.2.2.2.2.2.2.2.2.2.2.2.2.2.2.2.2.2.2.2.1
    have r21 : xv 21 = _ := hp.2.2.2.2.2.2.2.2.2.2.2.2.2.2.2.2.2.2.2.2.2.1
    have r22 : xv 22 = _ := hp.2.2.2.2.2.2.2.2.2.2.2.2.2.2.2.2.2.2.2.2.2.2.1
    have r23 : xv 23 = _ := hp.2.2.2.2.2.2.2.2.2.2.2.2.2.2.2.2.2.2.2.2.2.2.2.1
    have r24 : xv 24 = _ := hp.2.2.2.2.2.2.2.2.2.2.2.2.2.2.2.2.2.2.2.2.2.2.2.2.1
    have r25 : xv 25 = _ := hp.2.2.2.2.2.2.2.2.2.2.2.2.2.2.2.2.2.2.2.2.2.2.2.2.2.1
    have r26 : xv 26 = _ := hp.2.2.2.2.2.2.2.2.2.2.2.2.2.2.2.2.2.2.2.2.2.2.2.2.2.2.1
    have r27 : xv 27 = _ := hp.2.2.2.2.2.2.2.2.2.2.2.2.2.2.2.2.2.2.2.2.2.2.2.2.2.2.2.1
    have r28 : xv 28 = _ := hp.2.2.2.2.2.2.2.2.2.2.2.2.2.2.2.2.2.2.2.2.2.2.2.2.2.2.2.2.1
    have r29 : xv 29 = _ := hp.2.2.2.2.2.2.2.2.2.2.2.2.2.2.2.2.2.2.2.2.2.2.2.2.2.2.2.2.2.1
    have r30 : xv 30 = _ := hp.2.2.2.2.2.2.2.2.2.2.2.2.2.2.2.2.2.2.2.2.2.2.2.2.2.2.2.2.2.2.1
    have r31 : xv 31 = _ := hp.2.2.2.2.2.2.2.2.2.2.2.2.2.2.2.2.2.2.2.2.2.2.2.2.2.2.2.2.2.2.2.1
    have r32 : xv 32 = _ := hp.2.2.2.2.2.2.2.2.2.2.2.2.2.2.2.2.2.2.2.2.2.2.2.2.2.2.2.2.2.2.2.2.1
    have r33 : xv 33 = _ := hp.2.2.2.2.2.2.2.2.2.2.2.2.2.2.2.2.2.2.2.2.2.2.2.2.2.2.2.2.2.2.2.2.2.1
    have r34 : xv 34 = _ := hp.2.2.2.2.2.2.2.2.2.2.2.2.2.2.2.2.2.2.2.2.2.2.2.2.2.2.2.2.2.2.2.2.2.2.1
    have r35 : xv 35 = _ := hp.2.2.2.2.2.2.2.2.2.2.2.2.2.2.2.2.2.2.2.2.2.2.2.2.2.2.2.2.2.2.2.2.2.2.2.1
    have r36 : xv 36 = _ := hp.2.2.2.2.2.2.2.2.2.2.2.2.2.2.2.2.2.2.2.2.2.2.2.2.2.2.2.2.2.2.2.2.2.2.2.2.1
    have r37 : xv 37 = _ := hp.2.2.2.2.2.2.2.2.2.2.2.2.2.2.2.2.2.2.2.2.2.2.2.2.2.2.2.2.2.2.2.2.2.2.2.2.2.1
    obtain ⟨A7, c7, r38, hk7⟩ := hp.2.2.2.2.2.2.2.2.2.2.2.2.2.2.2.2.2.2.2.2.2.2.2.2.2.2.2.2.2.2.2.2.2.2.2.2.2.2.1
    have r39 : xv 39 = _ := hp.2.2.2.2.2.2.2.2.2.2.2.2.2.2.2.2.2.2.2.2.2.2.2.2.2.2.2.2.2.2.2.2.2.2.2.2.2.2.2.1
    have r40 : xv 40 = _ := hp.2.2.2.2.2.2.2.2.2.2.2.2.2.2.2.2.2.2.2.2.2.2.2.2.2.2.2.2.2.2.2.2.2.2.2.2.2.2.2.2.1
    clear hp
    simp only [putD, List.foldl_nil, List.foldl_cons, List.getD_cons_zero, List.getD_cons_succ, Act.put, List.length_cons, List.length_nil, List.range_succ, List.range_zero, List.nil_append, List.cons_append, List.setIfInBounds_toArray, List.set_cons_zero, List.set_cons_succ]
    have hEW := (Ext.drew w8).trans hE
    clear r0 r1 r2 r3 r4 r5 r6 r7 r8 r9 r10 r11 r12 r13 r14 r15 r16 r17 r18 r19 r20 r21 r22 r23 r24 r25 r26 r27 r28 r29 r30 r31 r32 r33 r34 r35 r36 r37 r38 r39
    go_wp2_with fail
    go_ret
    exact ⟨rfl, hE08.trans hEW⟩
end Go.Proofs.YtggkkjnfonbpkaaGreatDoor
