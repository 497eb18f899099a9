/- The contracts of line.right, line.Closed, and of two segments that meet. -/
import Derived.Test.YtompfgofaplffaaGreatDoorQEg
set_option linter.unusedSimpArgs false
set_option linter.unusedVariables false
namespace Go.Proofs.YtompfgofaplffaaGreatDoor
open Go.RowKit Hach

theorem lr1_any (p : Pt) (w : World) : Calls Tryz.prog 174 #[.agg #[.int .i64 p.x, .int .i64 p.y]] w fun e w' => e = .returned (.bool (!rightP p)) ∧ Ext w w' := by
  have hC := right_any p
  have HC := Lib.hid hC
  clear hC
  generalize rightP p = r at *
  go_enter Tryz.func174, Tryz.ntmps174
  go_wp2_with fail
  refine (HC.out _).mono ?_
  rintro e w' ⟨rfl, hE⟩
  go_wp2_with fail
  go_ret
  exact ⟨rfl, Ext.trans (Ext.alloc _ _) hE⟩
theorem lright_any (l : List Pt) (A : Option Addr) (c : Nat) (w : World) (hl : l.length < 9223372036854775808) (hA : Pts w A l) :
    Calls Tryz.prog 128 #[.slice A l.length c] w fun e w' => e = .returned (.bool (l.all rightP)) ∧ Ext w w' := by
  have HC := Lib.hid (cfPt_any 174 #[] (enters_of Tryz.func174 (by kernel_rfl) rfl) A l.length c (fun j => [.int .i64 (gp l j).x, .int .i64 (gp l j).y])
    (fun j => !rightP (gp l j)) w hl (fun _ _ => rfl) (fun W h j hj => by obtain ⟨b, o, e, _, hr⟩ := (hA.keep h) j hj; exact ⟨b, o, e, hr⟩) (fun W h j hj => lr1_any _ W))
  have HI : Hid ((!(List.range l.length).any fun j => !rightP (gp l j)) = l.all rightP) := Lib.hid (all_gp l rightP)
  generalize ((List.range l.length).any fun j => !rightP (gp l j)) = r at *
  clear hA
  go_enter Tryz.func128, Tryz.ntmps128
  go_wp2_with fail
  refine HC.out.mono ?_
  rintro e w' ⟨rfl, hE⟩
  go_wp2_with fail
  go_ret
  exact ⟨ret_b HI.out, hE⟩
set_option maxHeartbeats 1000000 in
theorem closed_any (l : List Pt) (A : Option Addr) (c : Nat) (w : World) (hl : l.length < 4611686018427387904) (hA : Pts w A l) :
    Calls Tryz.prog 130 #[.slice A l.length c] w fun e w' => e = .returned (.bool (closedL l)) ∧ Ext w w' := by
  by_cases h3 : 3 < l.length
  · obtain ⟨b, o, rfl, hb⟩ := hA.some_ (by omega)
    have t3 : decide (3 < l.length) = true := by simpa using h3
    have HR : Hid (closedL l = decide (gp l 0 = lastP l)) := Lib.hid (by unfold closedL; rw [t3]; rfl)
    have HQ := Lib.hid (fun W (h : Ext w.drew W) => And.intro ((hA.keep (Ext.trans (Ext.drew w) h)).cell (j := 0) (i := 0) (v := .int .i64 (gp l 0).x) (by omega) rfl) (And.intro ((hA.keep (Ext.trans (Ext.drew w) h)).cell (j := 0) (i := 1) (v := .int .i64 (gp l 0).y) (by omega) rfl)
      (And.intro ((hA.keep (Ext.trans (Ext.drew w) h)).cell (j := l.length - 1) (i := 0) (v := .int .i64 (lastP l).x) (by omega) rfl) ((hA.keep (Ext.trans (Ext.drew w) h)).cell (j := l.length - 1) (i := 1) (v := .int .i64 (lastP l).y) (by omega) rfl))))
    have e1 : IntKind.i64.wrap ((l.length : Int) - 1) = ((l.length - 1 : Nat) : Int) := by rw [IntWalk.i64_in _ (by omega)]; omega
    have hq : ∀ w, (binOp .eql 73 (.agg #[.int .i64 (gp l 0).x, .int .i64 (gp l 0).y]) (.agg #[.int .i64 (lastP l).x, .int .i64 (lastP l).y])).run Tryz.prog w = .ok (.bool (decide (gp l 0 = lastP l))) w := pt_eql (gp l 0) (lastP l)
    generalize decide (gp l 0 = lastP l) = r at *
    generalize hn : l.length - 1 = n1 at *
    generalize gp l 0 = p at *
    generalize lastP l = q at *
    clear hA
    go_enter Tryz.func130, Tryz.ntmps130
    go_wp2_with fail
    apply wp_region_seq (l := [_, _, _, _, _, _, _, _, _, _, _, _, _, _, _]) (t := [_]) [some 3, some 4, some 5, some 6, some 7, some 8, some 9, some 10, some 11, some 12, some 13, some 14, some 15, some 16, some 17, some 2] [[], [0], [1], [2], [3], [3, 4], [3, 5], [3], [3], [3, 8], [3, 9], [3, 7, 10], [3, 11], [3, 6, 12], [3, 13], [14]] [15, 15, 15, 15, 15, 15, 15, 15, 15, 15, 15, 15, 15, 15, 15] [eqv _, eqv _, (eqv (.bool true)), eqv _, eqv _, eqv _, eqv _, eqv _, eqv _, eqv _, (eqv (.int .i64 (n1 : Nat))), eqv _, eqv _, (eqv (.bool r)), eqv _] (by kernel_rfl) (by kernel_rfl) ⟨?o0, ?o1, ?o2, ?o3, ?o4, ?o5, ?o6, ?o7, ?o8, ?o9, ?o10, ?o11, ?o12, ?o13, ?o14, trivial⟩ ?last
    case o0 => -- Op.move (Operand.tmp 0)
      intro xv W hE _
      simp only [putD, List.foldl_nil, List.getD_cons_zero]
      refine OpGoal.plain ?_
      go_wp2_with fail
      exact ⟨rfl, Ext.refl _, rfl⟩
    case o1 => -- Op.call { callee := Callee.builtin Builtin.len, args := #[Operand.tmp 3], argTyp
      intro xv W hE hp
      have r0 : xv 0 = _ := hp.1
      clear hp
      simp only [putD, List.foldl_nil, List.foldl_cons, List.getD_cons_zero, List.getD_cons_succ, Act.put, List.setIfInBounds_toArray, List.set_cons_zero, List.set_cons_succ]
      refine OpGoal.plain ?_
      go_wp2_with fail
      exact ⟨rfl, Ext.refl _, rfl⟩
    case o2 => -- Op.binOp BinOp.gtr 3 (Operand.tmp 4) (Operand.const (Value.int IntKind.i64 3)) 3
      intro xv W hE hp
      have r1 : xv 1 = _ := hp.1
      clear hp
      simp only [putD, List.foldl_nil, List.foldl_cons, List.getD_cons_zero, List.getD_cons_succ, Act.put, List.setIfInBounds_toArray, List.set_cons_zero, List.set_cons_succ]
      refine OpGoal.plain ?_
      go_wp2_with fail
      exact ⟨rfl, Ext.refl _, congrArg Value.bool (decide_eq_true (by omega))⟩
    case o3 => -- Op.move (Operand.tmp 5)
      intro xv W hE hp
      have r2 : xv 2 = _ := hp.1
      clear hp
      simp only [putD, List.foldl_nil, List.foldl_cons, List.getD_cons_zero, List.getD_cons_succ, Act.put, List.setIfInBounds_toArray, List.set_cons_zero, List.set_cons_succ]
      refine OpGoal.plain ?_
      go_wp2_with fail
      exact ⟨rfl, Ext.refl _, rfl⟩
    case o4 => -- Op.move (Operand.tmp 0)  GUARD (3, 'true')
      intro xv W hE hp
      have r3 : xv 3 = _ := hp.1
      clear hp
      simp only [putD, List.foldl_nil, List.foldl_cons, List.getD_cons_zero, List.getD_cons_succ, Act.put, List.setIfInBounds_toArray, List.set_cons_zero, List.set_cons_succ]
      refine OpGoal.yes (by simp [yieldD, r3]) ?_
      go_wp2_with fail
      exact ⟨rfl, Ext.refl _, rfl⟩
    case o5 => -- Op.indexAddr 75 (Operand.tmp 7) (Operand.const (Value.int IntKind.i64 0))  GUARD
      intro xv W hE hp
      have r3 : xv 3 = _ := hp.1
      have r4 : xv 4 = _ := hp.2.1
      clear hp
      simp only [putD, List.foldl_nil, List.foldl_cons, List.getD_cons_zero, List.getD_cons_succ, Act.put, List.setIfInBounds_toArray, List.set_cons_zero, List.set_cons_succ]
      refine OpGoal.yes (by simp [yieldD, r3]) ?_
      go_wp2_with fail
      exact ⟨rfl, Ext.refl _, rfl⟩
    case o6 => -- Op.load 73 (Operand.tmp 8)  GUARD (3, 'true')
      intro xv W hE hp
      have r3 : xv 3 = _ := hp.1
      have r5 : xv 5 = _ := hp.2.1
      clear hp
      obtain ⟨c0, c1, c2, c3⟩ := HQ.out W hE
      simp only [Nat.zero_mul, Nat.add_zero] at c0 c1 c2 c3
      simp only [putD, List.foldl_nil, List.foldl_cons, List.getD_cons_zero, List.getD_cons_succ, Act.put, List.setIfInBounds_toArray, List.set_cons_zero, List.set_cons_succ]
      refine OpGoal.yes (by simp [yieldD, r3]) ?_
      go_wp2_with fail
      exact ⟨rfl, Ext.refl _, rfl⟩
    case o7 => -- Op.move (Operand.tmp 0)  GUARD (3, 'true')
      intro xv W hE hp
      have r3 : xv 3 = _ := hp.1
      clear hp
      simp only [putD, List.foldl_nil, List.foldl_cons, List.getD_cons_zero, List.getD_cons_succ, Act.put, List.setIfInBounds_toArray, List.set_cons_zero, List.set_cons_succ]
      refine OpGoal.yes (by simp [yieldD, r3]) ?_
      go_wp2_with fail
      exact ⟨rfl, Ext.refl _, rfl⟩
    case o8 => -- Op.move (Operand.tmp 0)  GUARD (3, 'true')
      intro xv W hE hp
      have r3 : xv 3 = _ := hp.1
      clear hp
      simp only [putD, List.foldl_nil, List.foldl_cons, List.getD_cons_zero, List.getD_cons_succ, Act.put, List.setIfInBounds_toArray, List.set_cons_zero, List.set_cons_succ]
      refine OpGoal.yes (by simp [yieldD, r3]) ?_
      go_wp2_with fail
      exact ⟨rfl, Ext.refl _, rfl⟩
    case o9 => -- Op.call { callee := Callee.builtin Builtin.len, args := #[Operand.tmp 11], argTy
      intro xv W hE hp
      have r3 : xv 3 = _ := hp.1
      have r8 : xv 8 = _ := hp.2.1
      clear hp
      simp only [putD, List.foldl_nil, List.foldl_cons, List.getD_cons_zero, List.getD_cons_succ, Act.put, List.setIfInBounds_toArray, List.set_cons_zero, List.set_cons_succ]
      refine OpGoal.yes (by simp [yieldD, r3]) ?_
      go_wp2_with fail
      exact ⟨rfl, Ext.refl _, rfl⟩
    case o10 => -- Op.binOp BinOp.sub 3 (Operand.tmp 12) (Operand.const (Value.int IntKind.i64 1)) 
      intro xv W hE hp
      have r3 : xv 3 = _ := hp.1
      have r9 : xv 9 = _ := hp.2.1
      clear hp
      simp only [putD, List.foldl_nil, List.foldl_cons, List.getD_cons_zero, List.getD_cons_succ, Act.put, List.setIfInBounds_toArray, List.set_cons_zero, List.set_cons_succ]
      refine OpGoal.yes (by simp [yieldD, r3]) ?_
      go_wp2_with fail
      exact ⟨rfl, Ext.refl _, rfl⟩
    case o11 => -- Op.indexAddr 75 (Operand.tmp 10) (Operand.tmp 13)  GUARD (3, 'true')
      intro xv W hE hp
      have r3 : xv 3 = _ := hp.1
      have r7 : xv 7 = _ := hp.2.1
      have r10 : xv 10 = _ := hp.2.2.1
      clear hp
      simp only [putD, List.foldl_nil, List.foldl_cons, List.getD_cons_zero, List.getD_cons_succ, Act.put, List.setIfInBounds_toArray, List.set_cons_zero, List.set_cons_succ]
      refine OpGoal.yes (by simp [yieldD, r3]) ?_
      go_wp2_with fail
      exact ⟨rfl, Ext.refl _, rfl⟩
    case o12 => -- Op.load 73 (Operand.tmp 14)  GUARD (3, 'true')
      intro xv W hE hp
      have r3 : xv 3 = _ := hp.1
      have r11 : xv 11 = _ := hp.2.1
      clear hp
      obtain ⟨c0, c1, c2, c3⟩ := HQ.out W hE
      simp only [Nat.zero_mul, Nat.add_zero] at c0 c1 c2 c3
      simp only [putD, List.foldl_nil, List.foldl_cons, List.getD_cons_zero, List.getD_cons_succ, Act.put, List.setIfInBounds_toArray, List.set_cons_zero, List.set_cons_succ]
      refine OpGoal.yes (by simp [yieldD, r3]) ?_
      go_wp2_with fail
      exact ⟨rfl, Ext.refl _, rfl⟩
    case o13 => -- Op.binOp BinOp.eql 73 (Operand.tmp 9) (Operand.tmp 15) 73  GUARD (3, 'true')
      intro xv W hE hp
      have r3 : xv 3 = _ := hp.1
      have r6 : xv 6 = _ := hp.2.1
      have r12 : xv 12 = _ := hp.2.2.1
      clear hp
      simp only [putD, List.foldl_nil, List.foldl_cons, List.getD_cons_zero, List.getD_cons_succ, Act.put, List.setIfInBounds_toArray, List.set_cons_zero, List.set_cons_succ]
      refine OpGoal.yes (by simp [yieldD, r3]) ?_
      go_wp2_with fail
      exact ⟨rfl, Ext.refl _, rfl⟩
    case o14 => -- Op.pick (Operand.tmp 6) (Operand.tmp 16) (Operand.const (Value.bool false))
      intro xv W hE hp
      have r3 : xv 3 = _ := hp.1
      have r13 : xv 13 = _ := hp.2.1
      clear hp
      simp only [putD, List.foldl_nil, List.foldl_cons, List.getD_cons_zero, List.getD_cons_succ, Act.put, List.setIfInBounds_toArray, List.set_cons_zero, List.set_cons_succ]
      refine OpGoal.plain ?_
      go_wp2_with fail
      exact ⟨rfl, Ext.refl _, rfl⟩
    case last =>
      intro xv W hE hp
      have r0 : xv 0 = _ := hp.1
      have r1 : xv 1 = _ := hp.2.1
      have r2 : xv 2 = _ := hp.2.2.1
      have r3 : xv 3 = _ := hp.2.2.2.1
      have r4 : xv 4 = _ := hp.2.2.2.2.1
      have r5 : xv 5 = _ := hp.2.2.2.2.2.1
      have r6 : xv 6 = _ := hp.2.2.2.2.2.2.1
      have r7 : xv 7 = _ := hp.2.2.2.2.2.2.2.1
      have r8 : xv 8 = _ := hp.2.2.2.2.2.2.2.2.1
      have r9 : xv 9 = _ := hp.2.2.2.2.2.2.2.2.2.1
      have r10 : xv 10 = _ := hp.2.2.2.2.2.2.2.2.2.2.1
      have r11 : xv 11 = _ := hp.2.2.2.2.2.2.2.2.2.2.2.1
      have r12 : xv 12 = _ := hp.2.2.2.2.2.2.2.2.2.2.2.2.1
      have r13 : xv 13 = _ := hp.2.2.2.2.2.2.2.2.2.2.2.2.2.1
      have r14 : xv 14 = _ := hp.2.2.2.2.2.2.2.2.2.2.2.2.2.2.1
      clear hp
      simp only [putD, List.foldl_nil, List.foldl_cons, List.getD_cons_zero, List.getD_cons_succ, Act.put, List.length_cons, List.length_nil, List.range_succ, List.range_zero, List.nil_append, List.cons_append, List.setIfInBounds_toArray, List.set_cons_zero, List.set_cons_succ]
      rw [r14]
      go_wp2_with fail
      go_ret
      exact ⟨ret_b HR.out.symm, Ext.trans (Ext.drew _) hE⟩
  · have t3 : decide (3 < l.length) = false := by simpa using h3
    have HR : Hid (closedL l = false) := Lib.hid (by unfold closedL; rw [t3]; rfl)
    clear hA
    go_enter Tryz.func130, Tryz.ntmps130
    go_wp2_with fail
    apply wp_region_seq (l := [_, _, _, _, _, _, _, _, _, _, _, _, _, _, _]) (t := [_]) [some 3, some 4, some 5, some 6, some 7, some 8, some 9, some 10, some 11, some 12, some 13, some 14, some 15, some 16, some 17, some 2] [[], [0], [1], [2], [3], [3, 4], [3, 5], [3], [3], [3, 8], [3, 9], [3, 7, 10], [3, 11], [3, 6, 12], [3, 13], [14]] [15, 15, 15, 15, 15, 15, 15, 15, 15, 15, 15, 15, 15, 15, 15] [eqv _, eqv _, (eqv (.bool false)), eqv _, eqv _, eqv _, eqv _, eqv _, eqv _, eqv _, eqv _, eqv _, eqv _, eqv _, eqv _] (by kernel_rfl) (by kernel_rfl) ⟨?o0, ?o1, ?o2, ?o3, ?o4, ?o5, ?o6, ?o7, ?o8, ?o9, ?o10, ?o11, ?o12, ?o13, ?o14, trivial⟩ ?last
    case o0 => -- Op.move (Operand.tmp 0)
      intro xv W hE _
      simp only [putD, List.foldl_nil, List.getD_cons_zero]
      refine OpGoal.plain ?_
      go_wp2_with fail
      exact ⟨rfl, Ext.refl _, rfl⟩
    case o1 => -- Op.call { callee := Callee.builtin Builtin.len, args := #[Operand.tmp 3], argTyp
      intro xv W hE hp
      have r0 : xv 0 = _ := hp.1
      clear hp
      simp only [putD, List.foldl_nil, List.foldl_cons, List.getD_cons_zero, List.getD_cons_succ, Act.put, List.setIfInBounds_toArray, List.set_cons_zero, List.set_cons_succ]
      refine OpGoal.plain ?_
      go_wp2_with fail
      exact ⟨rfl, Ext.refl _, rfl⟩
    case o2 => -- Op.binOp BinOp.gtr 3 (Operand.tmp 4) (Operand.const (Value.int IntKind.i64 3)) 3
      intro xv W hE hp
      have r1 : xv 1 = _ := hp.1
      clear hp
      simp only [putD, List.foldl_nil, List.foldl_cons, List.getD_cons_zero, List.getD_cons_succ, Act.put, List.setIfInBounds_toArray, List.set_cons_zero, List.set_cons_succ]
      refine OpGoal.plain ?_
      go_wp2_with fail
      exact ⟨rfl, Ext.refl _, congrArg Value.bool (decide_eq_false (by omega))⟩
    case o3 => -- Op.move (Operand.tmp 5)
      intro xv W hE hp
      have r2 : xv 2 = _ := hp.1
      clear hp
      simp only [putD, List.foldl_nil, List.foldl_cons, List.getD_cons_zero, List.getD_cons_succ, Act.put, List.setIfInBounds_toArray, List.set_cons_zero, List.set_cons_succ]
      refine OpGoal.plain ?_
      go_wp2_with fail
      exact ⟨rfl, Ext.refl _, rfl⟩
    case o4 => -- Op.move (Operand.tmp 0)  GUARD (3, 'true')
      intro xv W hE hp
      have r3 : xv 3 = _ := hp.1
      clear hp
      simp only [putD, List.foldl_nil, List.foldl_cons, List.getD_cons_zero, List.getD_cons_succ, Act.put, List.setIfInBounds_toArray, List.set_cons_zero, List.set_cons_succ]
      exact OpGoal.no (by simp [yieldD, r3]) ⟨Ext.refl _, rfl⟩
    case o5 => -- Op.indexAddr 75 (Operand.tmp 7) (Operand.const (Value.int IntKind.i64 0))  GUARD
      intro xv W hE hp
      have r3 : xv 3 = _ := hp.1
      have r4 : xv 4 = _ := hp.2.1
      clear hp
      simp only [putD, List.foldl_nil, List.foldl_cons, List.getD_cons_zero, List.getD_cons_succ, Act.put, List.setIfInBounds_toArray, List.set_cons_zero, List.set_cons_succ]
      exact OpGoal.no (by simp [yieldD, r3]) ⟨Ext.refl _, rfl⟩
    case o6 => -- Op.load 73 (Operand.tmp 8)  GUARD (3, 'true')
      intro xv W hE hp
      have r3 : xv 3 = _ := hp.1
      have r5 : xv 5 = _ := hp.2.1
      clear hp
      simp only [putD, List.foldl_nil, List.foldl_cons, List.getD_cons_zero, List.getD_cons_succ, Act.put, List.setIfInBounds_toArray, List.set_cons_zero, List.set_cons_succ]
      exact OpGoal.no (by simp [yieldD, r3]) ⟨Ext.refl _, rfl⟩
    case o7 => -- Op.move (Operand.tmp 0)  GUARD (3, 'true')
      intro xv W hE hp
      have r3 : xv 3 = _ := hp.1
      clear hp
      simp only [putD, List.foldl_nil, List.foldl_cons, List.getD_cons_zero, List.getD_cons_succ, Act.put, List.setIfInBounds_toArray, List.set_cons_zero, List.set_cons_succ]
      exact OpGoal.no (by simp [yieldD, r3]) ⟨Ext.refl _, rfl⟩
    case o8 => -- Op.move (Operand.tmp 0)  GUARD (3, 'true')
      intro xv W hE hp
      have r3 : xv 3 = _ := hp.1
      clear hp
      simp only [putD, List.foldl_nil, List.foldl_cons, List.getD_cons_zero, List.getD_cons_succ, Act.put, List.setIfInBounds_toArray, List.set_cons_zero, List.set_cons_succ]
      exact OpGoal.no (by simp [yieldD, r3]) ⟨Ext.refl _, rfl⟩
    case o9 => -- Op.call { callee := Callee.builtin Builtin.len, args := #[Operand.tmp 11], argTy
      intro xv W hE hp
      have r3 : xv 3 = _ := hp.1
      have r8 : xv 8 = _ := hp.2.1
      clear hp
      simp only [putD, List.foldl_nil, List.foldl_cons, List.getD_cons_zero, List.getD_cons_succ, Act.put, List.setIfInBounds_toArray, List.set_cons_zero, List.set_cons_succ]
      exact OpGoal.no (by simp [yieldD, r3]) ⟨Ext.refl _, rfl⟩
    case o10 => -- Op.binOp BinOp.sub 3 (Operand.tmp 12) (Operand.const (Value.int IntKind.i64 1)) 
      intro xv W hE hp
      have r3 : xv 3 = _ := hp.1
      have r9 : xv 9 = _ := hp.2.1
      clear hp
      simp only [putD, List.foldl_nil, List.foldl_cons, List.getD_cons_zero, List.getD_cons_succ, Act.put, List.setIfInBounds_toArray, List.set_cons_zero, List.set_cons_succ]
      exact OpGoal.no (by simp [yieldD, r3]) ⟨Ext.refl _, rfl⟩
    case o11 => -- Op.indexAddr 75 (Operand.tmp 10) (Operand.tmp 13)  GUARD (3, 'true')
      intro xv W hE hp
      have r3 : xv 3 = _ := hp.1
      have r7 : xv 7 = _ := hp.2.1
      have r10 : xv 10 = _ := hp.2.2.1
      clear hp
      simp only [putD, List.foldl_nil, List.foldl_cons, List.getD_cons_zero, List.getD_cons_succ, Act.put, List.setIfInBounds_toArray, List.set_cons_zero, List.set_cons_succ]
      exact OpGoal.no (by simp [yieldD, r3]) ⟨Ext.refl _, rfl⟩
    case o12 => -- Op.load 73 (Operand.tmp 14)  GUARD (3, 'true')
      intro xv W hE hp
      have r3 : xv 3 = _ := hp.1
      have r11 : xv 11 = _ := hp.2.1
      clear hp
      simp only [putD, List.foldl_nil, List.foldl_cons, List.getD_cons_zero, List.getD_cons_succ, Act.put, List.setIfInBounds_toArray, List.set_cons_zero, List.set_cons_succ]
      exact OpGoal.no (by simp [yieldD, r3]) ⟨Ext.refl _, rfl⟩
    case o13 => -- Op.binOp BinOp.eql 73 (Operand.tmp 9) (Operand.tmp 15) 73  GUARD (3, 'true')
      intro xv W hE hp
      have r3 : xv 3 = _ := hp.1
      have r6 : xv 6 = _ := hp.2.1
      have r12 : xv 12 = _ := hp.2.2.1
      clear hp
      simp only [putD, List.foldl_nil, List.foldl_cons, List.getD_cons_zero, List.getD_cons_succ, Act.put, List.setIfInBounds_toArray, List.set_cons_zero, List.set_cons_succ]
      exact OpGoal.no (by simp [yieldD, r3]) ⟨Ext.refl _, rfl⟩
    case o14 => -- Op.pick (Operand.tmp 6) (Operand.tmp 16) (Operand.const (Value.bool false))
      intro xv W hE hp
      have r3 : xv 3 = _ := hp.1
      have r13 : xv 13 = _ := hp.2.1
      clear hp
      simp only [putD, List.foldl_nil, List.foldl_cons, List.getD_cons_zero, List.getD_cons_succ, Act.put, List.setIfInBounds_toArray, List.set_cons_zero, List.set_cons_succ]
      refine OpGoal.plain ?_
      go_wp2_with fail
      exact ⟨rfl, Ext.refl _, rfl⟩
    case last =>
      intro xv W hE hp
      have r0 : xv 0 = _ := hp.1
      have r1 : xv 1 = _ := hp.2.1
      have r2 : xv 2 = _ := hp.2.2.1
      have r3 : xv 3 = _ := hp.2.2.2.1
      have r4 : xv 4 = _ := hp.2.2.2.2.1
      have r5 : xv 5 = _ := hp.2.2.2.2.2.1
      have r6 : xv 6 = _ := hp.2.2.2.2.2.2.1
      have r7 : xv 7 = _ := hp.2.2.2.2.2.2.2.1
      have r8 : xv 8 = _ := hp.2.2.2.2.2.2.2.2.1
      have r9 : xv 9 = _ := hp.2.2.2.2.2.2.2.2.2.1
      have r10 : xv 10 = _ := hp.2.2.2.2.2.2.2.2.2.2.1
      have r11 : xv 11 = _ := hp.2.2.2.2.2.2.2.2.2.2.2.1
      have r12 : xv 12 = _ := hp.2.2.2.2.2.2.2.2.2.2.2.2.1
      have r13 : xv 13 = _ := hp.2.2.2.2.2.2.2.2.2.2.2.2.2.1
      have r14 : xv 14 = _ := hp.2.2.2.2.2.2.2.2.2.2.2.2.2.2.1
      clear hp
      simp only [putD, List.foldl_nil, List.foldl_cons, List.getD_cons_zero, List.getD_cons_succ, Act.put, List.length_cons, List.length_nil, List.range_succ, List.range_zero, List.nil_append, List.cons_append, List.setIfInBounds_toArray, List.set_cons_zero, List.set_cons_succ]
      rw [r14]
      go_wp2_with fail
      go_ret
      exact ⟨ret_b HR.out.symm, Ext.trans (Ext.drew _) hE⟩
def sgC (p q : Pt) : Array Value := #[.int .i64 p.x, .int .i64 p.y, .int .i64 q.x, .int .i64 q.y]
theorem smeet_any (a b c d : Pt) (w : World) : Calls Tryz.prog 131 #[.agg #[.int .i64 a.x, .int .i64 a.y, .int .i64 b.x, .int .i64 b.y], .agg #[.int .i64 c.x, .int .i64 c.y, .int .i64 d.x, .int .i64 d.y]] w
    fun e w' => e = .returned (.int .i64 (meet a b c d)) ∧ Ext w w' := by
  have HM := Lib.hid (meetp_any a b c d)
  generalize meet a b c d = r at *
  go_enter Tryz.func131, Tryz.ntmps131
  go_wp2_with fail
  refine (HM.out _).mono ?_
  rintro e w' ⟨rfl, hE⟩
  go_wp2_with fail
  go_ret
  exact ⟨rfl, Ext.trans (Ext.trans (Ext.alloc _ _) (Ext.alloc _ _)) hE⟩
end Go.Proofs.YtompfgofaplffaaGreatDoor
