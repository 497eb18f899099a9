/- Environments that numbers make: the reference's Env (gen_ih.py). -/
import Derived.Test.YtggkkjnfonbpkaaGreatDoorQIg
import Derived.Test.YtggkkjnfonbpkaaGreatDoorQId
import Derived.Test.YtggkkjnfonbpkaaGreatDoorQXi

set_option linter.unusedSimpArgs false
set_option linter.unusedVariables false
namespace Go.Proofs.YtggkkjnfonbpkaaGreatDoor
open Go.RowKit Hach

/- a step on which a block of numbers is drawn from -/
def DrS (b : Nat) (W W' : World) : Prop := W.grownBy W' (some b) ∧ (DrA W b → DrA W' b)
theorem DrS.refl (b : Nat) (W : World) : DrS b W W := ⟨grown_of (Ext.refl W) _, fun h => h⟩
theorem DrS.trans {b : Nat} {U V W : World} (h : DrS b U V) (k : DrS b V W) : DrS b U W := ⟨grown_trans h.1 k.1, fun x => k.2 (h.2 x)⟩
theorem DrS.ext {b : Nat} {W W' : World} (h : Ext W W') : DrS b W W' := ⟨grown_of h _, fun x => x.ext h⟩
/- a number below m -/
def numP (b : Nat) (l m : Int) : SPr (DrS b) := ⟨fun v _ => ∃ k : Int, v = .int .i64 k ∧ l ≤ k ∧ k < m, fun h _ => h⟩
/- the texts, in a new block -/
def txtP (b : Nat) : SPr (DrS b) := ⟨fun v W => ∃ g, v = .slice (some ⟨g, 0, none⟩) 6 6 ∧ b < g ∧ g < W.heap.size ∧ ∀ j, j < 6 → W.cell? ⟨g, j, none⟩ = some (.string ⟨(txtL.getD j []).toArray⟩), fun h hE => by
  obtain ⟨g, e, h1, h2, h3⟩ := h
  exact ⟨g, e, h1, Nat.lt_of_lt_of_le h2 hE.1.size, fun j hj => (grown_cell hE.1 h2 (by simp; omega) j).trans (h3 j hj)⟩⟩
/- where one of them lies -/
def atP (b : Nat) : SPr (DrS b) := ⟨fun v W => ∃ (g : Nat) (k : Int) (j : Nat), v = .pointer (some ⟨g, j, none⟩) ∧ b < g ∧ g < W.heap.size ∧ j < 6 ∧ W.cell? ⟨g, j, none⟩ = some (.string ⟨(txtL.getD j []).toArray⟩), fun h hE => by
  obtain ⟨g, k, j, e, h1, h2, hj, h3⟩ := h
  exact ⟨g, k, j, e, h1, Nat.lt_of_lt_of_le h2 hE.1.size, hj, (grown_cell hE.1 h2 (by simp; omega) j).trans h3⟩⟩
def oneP (b : Nat) : SPr (DrS b) := ⟨fun v _ => ∃ j : Nat, v = .string ⟨(txtL.getD j []).toArray⟩ ∧ j < 6, fun h _ => h⟩
def boolP (b : Nat) : SPr (DrS b) := ⟨fun v _ => ∃ q : Bool, v = .bool q, fun h _ => h⟩
def evP (b : Nat) : SPr (DrS b) := ⟨fun v W => ∃ g, v = .pointer (some ⟨g, 0, none⟩) ∧ b < g ∧ EvZ W g, fun h hE => by
  obtain ⟨g, e, h1, h2⟩ := h
  exact ⟨g, e, h1, h2.own hE.1 (by simp; omega)⟩⟩
def evVP (b : Nat) : SPr (DrS b) := ⟨fun v _ => ∃ x : En, v = .agg #[.int .i64 x.kind, .string ⟨x.cls.toArray⟩, .string ⟨x.name.toArray⟩, .int .i64 x.weight, .int .i64 x.level, .bool x.stairs, .int .i64 x.scale, .int .i64 x.hour, .int .i64 x.reader] ∧ x.cls.length ≤ 6 ∧ x.name.length ≤ 6, fun h _ => h⟩
theorem txtL_len (j : Nat) : (txtL.getD j []).length ≤ 6 := by
  by_cases h : j < 6
  · rcases (by omega : j = 0 ∨ j = 1 ∨ j = 2 ∨ j = 3 ∨ j = 4 ∨ j = 5) with rfl | rfl | rfl | rfl | rfl | rfl <;> decide
  · have : txtL.getD j [] = [] := by
      rw [List.getD, List.getElem?_eq_none (by show txtL.length ≤ j; have : txtL.length = 6 := rfl; omega)]; rfl
    rw [this]; decide
structure EvSt (w W : World) (b ge : Nat) (x : En) : Prop where
  B : EvB W ge x
  E : Ext w W
  D : DrA W b
  Z : EvZ W w.heap.size
  h1 : b < ge
  h2 : w.heap.size < b
theorem EvSt.ext {w W W' : World} {b ge : Nat} {x : En} (h : EvSt w W b ge x) (hE : Ext W W') : EvSt w W' b ge x := ⟨h.B.ext hE, h.E.trans hE, h.D.ext hE, h.Z.ext hE, h.h1, h.h2⟩
theorem EvSt.draw {w W W' : World} {b ge : Nat} {x : En} (h : EvSt w W b ge x) (hg : W.grownBy W' (some b)) (hD : DrA W' b) : EvSt w W' b ge x :=
  have h1 := h.h1
  have h2 := h.h2
  ⟨h.B.own hg (by simp; omega), Below.trans h.E (below_row' hg h.E.sz (fun g e => by simp only [Option.some.injEq] at e; omega)), hD, h.Z.own hg (by simp; omega), h1, h2⟩
theorem EvSt.put {w W W' : World} {b ge : Nat} {x x' : En} (h : EvSt w W b ge x) (hg : W.grownBy W' (some ge)) (hB : EvB W' ge x') : EvSt w W' b ge x' :=
  have h1 := h.h1
  have h2 := h.h2
  ⟨hB, Below.trans h.E (below_row' hg h.E.sz (fun g e => by simp only [Option.some.injEq] at e; omega)), h.D.own hg (fun g e => by simp only [Option.some.injEq] at e; omega), h.Z.own hg (by simp; omega), h1, h2⟩
theorem EvB.set6 {w : World} {b : Nat} {x : En} (h : EvB w b x) (n : Int) : EvB (w.setCell ⟨b, 6, none⟩ (.int .i64 n)) b { x with scale := n } := by
  have h' : w.heap[b]? = some (.cells (Ev_row x) 31 (0, 0)) := h
  simp [EvB, World.setCell, Array.getElem?_modify, h', Ev_row]
theorem EvB.set7 {w : World} {b : Nat} {x : En} (h : EvB w b x) (n : Int) : EvB (w.setCell ⟨b, 7, none⟩ (.int .i64 n)) b { x with hour := n } := by
  have h' : w.heap[b]? = some (.cells (Ev_row x) 31 (0, 0)) := h
  simp [EvB, World.setCell, Array.getElem?_modify, h', Ev_row]
theorem EvB.set8 {w : World} {b : Nat} {x : En} (h : EvB w b x) (n : Int) : EvB (w.setCell ⟨b, 8, none⟩ (.int .i64 n)) b { x with reader := n } := by
  have h' : w.heap[b]? = some (.cells (Ev_row x) 31 (0, 0)) := h
  simp [EvB, World.setCell, Array.getElem?_modify, h', Ev_row]
def EvR (w : World) (e : Ending) (w' : World) : Prop := ∃ x : En, e = .returned x.v ∧ x.cls.length ≤ 6 ∧ x.name.length ≤ 6 ∧ Ext w w'
set_option maxRecDepth 100000 in
set_option maxHeartbeats 4000000 in
theorem rEnv_any (A : Option Addr) (n c : Nat) (w : World) (hL : LI w A n) : Calls Tryz.prog 12 #[.slice A n c] w (EvR w) := by
  have hz := EvZ.new w
  obtain ⟨w0, hw0⟩ : ∃ w0, w.alloc (.cells Ev_zero 31) = w0 := ⟨_, rfl⟩
  have hE0 : Ext w w0 := by rw [← hw0]; exact Ext.alloc _ _
  have hs0 : w0.heap.size = w.heap.size + 1 := by rw [← hw0]; simp
  rw [hw0] at hz
  have HW := Lib.hid hw0
  have hs0' : w.heap.size + 1 ≤ w0.heap.size := by omega
  have hs0'' : w0.heap.size ≤ w.heap.size + 1 := by omega
  have hD1 := DrA.new c (hL.ext hE0)
  have hE1 : Ext w0 (w0.alloc (.cells #[.slice A n c, .int .i64 0] 63)) := Ext.alloc _ _
  have hz1 := hz.ext hE1
  unfold Ev_zero at HW
  clear hw0 hs0 hL
  go_enter Tryz.func12, Tryz.ntmps12
  go_upto_region 1 with fail
  rw [HW.out]
  go_upto_region 2 with fail
  obtain ⟨b, hb⟩ : ∃ b, w0.heap.size = b := ⟨_, rfl⟩
  obtain ⟨w1, hw1⟩ : ∃ w1, w0.alloc (.cells #[.slice A n c, .int .i64 0] 63) = w1 := ⟨_, rfl⟩
  have hs1 : w1.heap.size = w0.heap.size + 1 := by rw [← hw1]; simp
  rw [hw1] at hE1 hz1 hD1 ⊢
  rw [hb] at hD1 hs1 hs0' hs0'' ⊢
  have HE01 := Lib.hid (hE0.trans hE1)
  have hs1' : b < w1.heap.size := by omega
  clear hw1 hE1 hE0 hz hb hs1
  have DN := Lib.hid (fun (m : Int) (W : World) (h : DrA W b) (h1 : 0 < m) (h2 : m < 4294967296) => draw_any m b W h h1 h2)
  unfold dp at DN
  apply wp_region_rel (E := DrS b) (DrS.refl b) (@DrS.trans b) (l := [_, _, _, _, _, _, _, _, _, _, _, _, _, _, _, _, _, _, _, _, _, _, _]) (t := [_]) [some 8, some 9, some 10, some 11, some 12, some 13, some 14, some 15, some 16, some 17, some 18, some 19, some 20, some 21, some 22, some 23, some 24, some 25, some 26, some 27, some 28, some 29, some 4, none] [[], [0], [1], [], [], [4], [3, 5], [6], [], [], [9], [8, 10], [11], [], [13], [], [15], [16], [], [18], [19], [2, 7, 12, 14, 17, 20], [], [21, 22]] [23, 23, 23, 23, 23, 23, 23, 23, 23, 23, 23, 23, 23, 23, 23, 23, 23, 23, 23, 23, 23, 23, 23] [eqr _, (numP b 0 3), (numP b 1 4), (txtP b), eqr _, (numP b 0 6), (atP b), (oneP b), (txtP b), eqr _, (numP b 0 6), (atP b), (oneP b), eqr _, (numP b 0 60), eqr _, (numP b 0 5), (numP b (-2) 3), eqr _, (numP b 0 2), (boolP b), (evVP b), (evP b)] (by kernel_rfl) (by kernel_rfl) ⟨?o0, ?o1, ?o2, ?o3, ?o4, ?o5, ?o6, ?o7, ?o8, ?o9, ?o10, ?o11, ?o12, ?o13, ?o14, ?o15, ?o16, ?o17, ?o18, ?o19, ?o20, ?o21, ?o22, trivial⟩ ?last
  case o0 => -- Op.move (Operand.tmp 3)
    intro xv W hE _
    simp only [putD, List.foldl_nil, List.getD_cons_zero]
    refine OpGoal.plain ?_
    go_wp2_with fail
    exact ⟨rfl, (DrS.refl b) _, rfl⟩
  case o1 => -- Op.call { callee := Callee.value (Operand.func 34), args := #[Operand.tmp 8, Ope
    intro xv W hE hp
    have r0 : xv 0 = _ := hp.1
    clear hp
    simp only [putD, List.foldl_nil, List.foldl_cons, List.getD_cons_zero, List.getD_cons_succ, Act.put, List.setIfInBounds_toArray, List.set_cons_zero, List.set_cons_succ]
    refine OpGoal.plain ?_
    go_wp2_with fail
    refine (DN.out 3 W (hE.2 (hD1.ext (Ext.drew _))) (by decide) (by decide)).mono ?_
    rintro e w' ⟨k, ka, kb, rfl, hD, hg⟩
    go_wp2_with fail
    exact ⟨rfl, ⟨hg, fun _ => hD⟩, k, rfl, ka, kb⟩
  case o2 => -- Op.binOp BinOp.add 3 (Operand.const (Value.int IntKind.i64 1)) (Operand.tmp 9) 3
    intro xv W hE hp
    obtain ⟨k1, r1, k1a, k1b⟩ := hp.1
    clear hp
    simp only [putD, List.foldl_nil, List.foldl_cons, List.getD_cons_zero, List.getD_cons_succ, Act.put, List.setIfInBounds_toArray, List.set_cons_zero, List.set_cons_succ]
    refine OpGoal.plain ?_
    go_wp2_with fail
    exact ⟨rfl, DrS.refl _ _, 1 + k1, rfl, by omega, by omega⟩
  case o3 => -- Op.call { callee := Callee.value (Operand.func 38), args := #[], argTypes := #[]
    intro xv W hE _
    simp only [putD, List.foldl_nil, List.getD_cons_zero, List.getD_cons_succ]
    refine OpGoal.plain ?_
    go_wp2_with fail
    refine (texts_any W).mono ?_
    rintro e w' ⟨rfl, hc, hlt, hE2⟩
    go_wp2_with fail
    exact ⟨rfl, DrS.ext hE2, W.heap.size, rfl, by have := hE.1.size; rw [show w1.drew.heap.size = w1.heap.size from rfl] at this; omega, hlt, hc⟩
  case o4 => -- Op.move (Operand.tmp 3)
    intro xv W hE _
    simp only [putD, List.foldl_nil, List.getD_cons_zero, List.getD_cons_succ]
    refine OpGoal.plain ?_
    go_wp2_with fail
    exact ⟨rfl, (DrS.refl b) _, rfl⟩
  case o5 => -- Op.call { callee := Callee.value (Operand.func 34), args := #[Operand.tmp 12, Op
    intro xv W hE hp
    have r4 : xv 4 = _ := hp.1
    clear hp
    simp only [putD, List.foldl_nil, List.foldl_cons, List.getD_cons_zero, List.getD_cons_succ, Act.put, List.setIfInBounds_toArray, List.set_cons_zero, List.set_cons_succ]
    refine OpGoal.plain ?_
    go_wp2_with fail
    refine (DN.out 6 W (hE.2 (hD1.ext (Ext.drew _))) (by decide) (by decide)).mono ?_
    rintro e w' ⟨k, ka, kb, rfl, hD, hg⟩
    go_wp2_with fail
    exact ⟨rfl, ⟨hg, fun _ => hD⟩, k, rfl, ka, kb⟩
  case o6 => -- Op.indexAddr 53 (Operand.tmp 11) (Operand.tmp 13)
    intro xv W hE hp
    obtain ⟨g3, r3, g3a, g3b, g3c⟩ := hp.1
    obtain ⟨k5, r5, k5a, k5b⟩ := hp.2.1
    clear hp
    obtain ⟨jj, rfl⟩ : ∃ jj : Nat, k5 = (jj : Int) := ⟨k5.toNat, by omega⟩
    simp only [putD, List.foldl_nil, List.foldl_cons, List.getD_cons_zero, List.getD_cons_succ, Act.put, List.setIfInBounds_toArray, List.set_cons_zero, List.set_cons_succ]
    refine OpGoal.plain ?_
    go_wp2_with fail
    exact ⟨rfl, DrS.refl _ _, g3, jj, jj, rfl, g3a, g3b, by omega, g3c jj (by omega)⟩
  case o7 => -- Op.load 9 (Operand.tmp 14)
    intro xv W hE hp
    obtain ⟨g6, k6, j6, r6, g6a, g6b, g6d, g6c⟩ := hp.1
    clear hp
    simp only [putD, List.foldl_nil, List.foldl_cons, List.getD_cons_zero, List.getD_cons_succ, Act.put, List.setIfInBounds_toArray, List.set_cons_zero, List.set_cons_succ]
    refine OpGoal.plain ?_
    go_wp2_with fail
    exact ⟨rfl, DrS.refl _ _, j6, rfl, g6d⟩
  case o8 => -- Op.call { callee := Callee.value (Operand.func 38), args := #[], argTypes := #[]
    intro xv W hE _
    simp only [putD, List.foldl_nil, List.getD_cons_zero, List.getD_cons_succ]
    refine OpGoal.plain ?_
    go_wp2_with fail
    refine (texts_any W).mono ?_
    rintro e w' ⟨rfl, hc, hlt, hE2⟩
    go_wp2_with fail
    exact ⟨rfl, DrS.ext hE2, W.heap.size, rfl, by have := hE.1.size; rw [show w1.drew.heap.size = w1.heap.size from rfl] at this; omega, hlt, hc⟩
  case o9 => -- Op.move (Operand.tmp 3)
    intro xv W hE _
    simp only [putD, List.foldl_nil, List.getD_cons_zero, List.getD_cons_succ]
    refine OpGoal.plain ?_
    go_wp2_with fail
    exact ⟨rfl, (DrS.refl b) _, rfl⟩
  case o10 => -- Op.call { callee := Callee.value (Operand.func 34), args := #[Operand.tmp 17, Op
    intro xv W hE hp
    have r9 : xv 9 = _ := hp.1
    clear hp
    simp only [putD, List.foldl_nil, List.foldl_cons, List.getD_cons_zero, List.getD_cons_succ, Act.put, List.setIfInBounds_toArray, List.set_cons_zero, List.set_cons_succ]
    refine OpGoal.plain ?_
    go_wp2_with fail
    refine (DN.out 6 W (hE.2 (hD1.ext (Ext.drew _))) (by decide) (by decide)).mono ?_
    rintro e w' ⟨k, ka, kb, rfl, hD, hg⟩
    go_wp2_with fail
    exact ⟨rfl, ⟨hg, fun _ => hD⟩, k, rfl, ka, kb⟩
  case o11 => -- Op.indexAddr 53 (Operand.tmp 16) (Operand.tmp 18)
    intro xv W hE hp
    obtain ⟨g8, r8, g8a, g8b, g8c⟩ := hp.1
    obtain ⟨k10, r10, k10a, k10b⟩ := hp.2.1
    clear hp
    obtain ⟨jj, rfl⟩ : ∃ jj : Nat, k10 = (jj : Int) := ⟨k10.toNat, by omega⟩
    simp only [putD, List.foldl_nil, List.foldl_cons, List.getD_cons_zero, List.getD_cons_succ, Act.put, List.setIfInBounds_toArray, List.set_cons_zero, List.set_cons_succ]
    refine OpGoal.plain ?_
    go_wp2_with fail
    exact ⟨rfl, DrS.refl _ _, g8, jj, jj, rfl, g8a, g8b, by omega, g8c jj (by omega)⟩
  case o12 => -- Op.load 9 (Operand.tmp 19)
    intro xv W hE hp
    obtain ⟨g11, k11, j11, r11, g11a, g11b, g11d, g11c⟩ := hp.1
    clear hp
    simp only [putD, List.foldl_nil, List.foldl_cons, List.getD_cons_zero, List.getD_cons_succ, Act.put, List.setIfInBounds_toArray, List.set_cons_zero, List.set_cons_succ]
    refine OpGoal.plain ?_
    go_wp2_with fail
    exact ⟨rfl, DrS.refl _ _, j11, rfl, g11d⟩
  case o13 => -- Op.move (Operand.tmp 3)
    intro xv W hE _
    simp only [putD, List.foldl_nil, List.getD_cons_zero, List.getD_cons_succ]
    refine OpGoal.plain ?_
    go_wp2_with fail
    exact ⟨rfl, (DrS.refl b) _, rfl⟩
  case o14 => -- Op.call { callee := Callee.value (Operand.func 34), args := #[Operand.tmp 21, Op
    intro xv W hE hp
    have r13 : xv 13 = _ := hp.1
    clear hp
    simp only [putD, List.foldl_nil, List.foldl_cons, List.getD_cons_zero, List.getD_cons_succ, Act.put, List.setIfInBounds_toArray, List.set_cons_zero, List.set_cons_succ]
    refine OpGoal.plain ?_
    go_wp2_with fail
    refine (DN.out 60 W (hE.2 (hD1.ext (Ext.drew _))) (by decide) (by decide)).mono ?_
    rintro e w' ⟨k, ka, kb, rfl, hD, hg⟩
    go_wp2_with fail
    exact ⟨rfl, ⟨hg, fun _ => hD⟩, k, rfl, ka, kb⟩
  case o15 => -- Op.move (Operand.tmp 3)
    intro xv W hE _
    simp only [putD, List.foldl_nil, List.getD_cons_zero, List.getD_cons_succ]
    refine OpGoal.plain ?_
    go_wp2_with fail
    exact ⟨rfl, (DrS.refl b) _, rfl⟩
  case o16 => -- Op.call { callee := Callee.value (Operand.func 34), args := #[Operand.tmp 23, Op
    intro xv W hE hp
    have r15 : xv 15 = _ := hp.1
    clear hp
    simp only [putD, List.foldl_nil, List.foldl_cons, List.getD_cons_zero, List.getD_cons_succ, Act.put, List.setIfInBounds_toArray, List.set_cons_zero, List.set_cons_succ]
    refine OpGoal.plain ?_
    go_wp2_with fail
    refine (DN.out 5 W (hE.2 (hD1.ext (Ext.drew _))) (by decide) (by decide)).mono ?_
    rintro e w' ⟨k, ka, kb, rfl, hD, hg⟩
    go_wp2_with fail
    exact ⟨rfl, ⟨hg, fun _ => hD⟩, k, rfl, ka, kb⟩
  case o17 => -- Op.binOp BinOp.sub 3 (Operand.tmp 24) (Operand.const (Value.int IntKind.i64 2)) 
    intro xv W hE hp
    obtain ⟨k16, r16, k16a, k16b⟩ := hp.1
    clear hp
    simp only [putD, List.foldl_nil, List.foldl_cons, List.getD_cons_zero, List.getD_cons_succ, Act.put, List.setIfInBounds_toArray, List.set_cons_zero, List.set_cons_succ]
    refine OpGoal.plain ?_
    go_wp2_with fail
    exact ⟨rfl, DrS.refl _ _, k16 - 2, rfl, by omega, by omega⟩
  case o18 => -- Op.move (Operand.tmp 3)
    intro xv W hE _
    simp only [putD, List.foldl_nil, List.getD_cons_zero, List.getD_cons_succ]
    refine OpGoal.plain ?_
    go_wp2_with fail
    exact ⟨rfl, (DrS.refl b) _, rfl⟩
  case o19 => -- Op.call { callee := Callee.value (Operand.func 34), args := #[Operand.tmp 26, Op
    intro xv W hE hp
    have r18 : xv 18 = _ := hp.1
    clear hp
    simp only [putD, List.foldl_nil, List.foldl_cons, List.getD_cons_zero, List.getD_cons_succ, Act.put, List.setIfInBounds_toArray, List.set_cons_zero, List.set_cons_succ]
    refine OpGoal.plain ?_
    go_wp2_with fail
    refine (DN.out 2 W (hE.2 (hD1.ext (Ext.drew _))) (by decide) (by decide)).mono ?_
    rintro e w' ⟨k, ka, kb, rfl, hD, hg⟩
    go_wp2_with fail
    exact ⟨rfl, ⟨hg, fun _ => hD⟩, k, rfl, ka, kb⟩
  case o20 => -- Op.binOp BinOp.eql 3 (Operand.tmp 27) (Operand.const (Value.int IntKind.i64 1)) 
    intro xv W hE hp
    obtain ⟨k19, r19, k19a, k19b⟩ := hp.1
    clear hp
    simp only [putD, List.foldl_nil, List.foldl_cons, List.getD_cons_zero, List.getD_cons_succ, Act.put, List.setIfInBounds_toArray, List.set_cons_zero, List.set_cons_succ]
    refine OpGoal.plain ?_
    go_wp2_with fail
    exact ⟨rfl, DrS.refl _ _, _, rfl⟩
  case o21 => -- Op.build 31 #[(0, Operand.tmp 10), (1, Operand.tmp 15), (2, Operand.tmp 20), (3,
    intro xv W hE hp
    obtain ⟨k2, r2, k2a, k2b⟩ := hp.1
    obtain ⟨j7, r7, hj7⟩ := hp.2.1
    obtain ⟨j12, r12, hj12⟩ := hp.2.2.1
    obtain ⟨k14, r14, k14a, k14b⟩ := hp.2.2.2.1
    obtain ⟨k17, r17, k17a, k17b⟩ := hp.2.2.2.2.1
    obtain ⟨q20, r20⟩ := hp.2.2.2.2.2.1
    clear hp
    simp only [putD, List.foldl_nil, List.foldl_cons, List.getD_cons_zero, List.getD_cons_succ, Act.put, List.setIfInBounds_toArray, List.set_cons_zero, List.set_cons_succ]
    refine OpGoal.plain ?_
    go_wp2_with fail
    exact ⟨rfl, DrS.refl _ _, ⟨k2, txtL.getD j7 [], txtL.getD j12 [], k14, k17, q20, 0, 0, 0⟩, rfl, txtL_len _, txtL_len _⟩
  case o22 => -- Op.alloc 31
    intro xv W hE _
    simp only [putD, List.foldl_nil, List.getD_cons_zero, List.getD_cons_succ]
    refine OpGoal.plain ?_
    go_wp2_with fail
    exact ⟨rfl, DrS.ext (Ext.alloc _ _), W.heap.size, rfl, by have := hE.1.size; rw [show w1.drew.heap.size = w1.heap.size from rfl] at this; omega, EvZ.new W⟩
  case last =>
    intro xv W hE hp
    have r0 : xv 0 = _ := hp.1
    obtain ⟨k1, r1, k1a, k1b⟩ := hp.2.1
    obtain ⟨k2, r2, k2a, k2b⟩ := hp.2.2.1
    obtain ⟨g3, r3, g3a, g3b, g3c⟩ := hp.2.2.2.1
    have r4 : xv 4 = _ := hp.2.2.2.2.1
    obtain ⟨k5, r5, k5a, k5b⟩ := hp.2.2.2.2.2.1
    obtain ⟨g6, k6, j6, r6, g6a, g6b, g6d, g6c⟩ := hp.2.2.2.2.2.2.1
    obtain ⟨j7, r7, hj7⟩ := hp.2.2.2.2.2.2.2.1
    obtain ⟨g8, r8, g8a, g8b, g8c⟩ := hp.2.2.2.2.2.2.2.2.1
    have r9 : xv 9 = _ := hp.2.2.2.2.2.2.2.2.2.1
    obtain ⟨k10, r10, k10a, k10b⟩ := hp.2.2.2.2.2.2.2.2.2.2.1
    obtain ⟨g11, k11, j11, r11, g11a, g11b, g11d, g11c⟩ := hp.2.2.2.2.2.2.2.2.2.2.2.1
    obtain ⟨j12, r12, hj12⟩ := hp.2.2.2.2.2.2.2.2.2.2.2.2.1
    have r13 : xv 13 = _ := hp.2.2.2.2.2.2.2.2.2.2.2.2.2.1
    obtain ⟨k14, r14, k14a, k14b⟩ := hp.2.2.2.2.2.2.2.2.2.2.2.2.2.2.1
    have r15 : xv 15 = _ := hp.2.2.2.2.2.2.2.2.2.2.2.2.2.2.2.1
    obtain ⟨k16, r16, k16a, k16b⟩ := hp.2.2.2.2.2.2.2.2.2.2.2.2.2.2.2.2.1
    obtain ⟨k17, r17, k17a, k17b⟩ := hp.2.2.2.2.2.2.2.2.2.2.2.2.2.2.2.2.2.1
    have r18 : xv 18 = _ := hp.2.2.2.2.2.2.2.2.2.2.2.2.2.2.2.2.2.2.1
    obtain ⟨k19, r19, k19a, k19b⟩ := hp.2.2.2.2.2.2.2.2.2.2.2.2.2.2.2.2.2.2.2.1
    obtain ⟨q20, r20⟩ := hp.2.2.2.2.2.2.2.2.2.2.2.2.2.2.2.2.2.2.2.2.1
    obtain ⟨x, r21, hx1, hx2⟩ := hp.2.2.2.2.2.2.2.2.2.2.2.2.2.2.2.2.2.2.2.2.2.1
    obtain ⟨ge, r22, gea, hgz⟩ := hp.2.2.2.2.2.2.2.2.2.2.2.2.2.2.2.2.2.2.2.2.2.2.1
    clear hp
    simp only [putD, List.foldl_nil, List.foldl_cons, List.getD_cons_zero, List.getD_cons_succ, Act.put, List.length_cons, List.length_nil, List.range_succ, List.range_zero, List.nil_append, List.cons_append, List.setIfInBounds_toArray, List.set_cons_zero, List.set_cons_succ]
    have hDW : DrA W b := hE.2 (hD1.ext (Ext.drew _))
    have hE2 : Ext w W := ext_fresh (HE01.out.trans (Ext.drew w1)) hE.1 (by omega)
    have hzW : EvZ W w.heap.size := (hz1.ext (Ext.drew w1)).own hE.1 (by simp; omega)
    rw [r21, r22]
    have hB3 := setEv_z hgz x
    have hG3 := setEv_grown W ge x
    have hE3 : Ext w (setEv W ge x) := Below.trans hE2 (below_row' hG3 hE2.sz (fun g e => by simp only [Option.some.injEq] at e; omega))
    have hD3 : DrA (setEv W ge x) b := hDW.own hG3 (fun g e => by simp only [Option.some.injEq] at e; omega)
    have hz3 := hzW.own hG3 (by simp; omega)
    obtain ⟨q0, q1, q2, q3, q4, q5, q6, q7, q8⟩ := hgz.cells
    obtain ⟨f0, f1, f2, f3, f4, f5, f6, f7, f8⟩ := hgz.free
    have HB3 := Lib.hid hB3
    have HE3 := Lib.hid hE3
    have HD3 := Lib.hid hD3
    have HZ3 := Lib.hid hz3
    clear r0 r1 r2 r3 r4 r5 r6 r7 r8 r9 r10 r11 r12 r13 r14 r15 r16 r17 r18 r19 r20 r21 r22 hB3 hG3 hE3 hD3 hz3 hDW hE2 hzW hE hD1 hz1 HE01
    go_upto_region 3 with fail
    have hB3 := HB3.out
    have hE3 := HE3.out
    have hD3 := HD3.out
    have hz3 := HZ3.out
    show Code.wp _ _ _ _ (setEv W ge x)
    generalize setEv W ge x = w3 at hB3 hE3 hD3 hz3 ⊢
    clear HB3 HE3 HD3 HZ3 q0 q1 q2 q3 q4 q5 q6 q7 q8 f0 f1 f2 f3 f4 f5 f6 f7 f8 hgz
    have hS3 : EvSt w w3 b ge x := ⟨hB3, hE3, hD3, hz3, gea, by omega⟩
    clear hB3 hE3 hD3 hz3 g3c g6c g8c g11c
    have hE4 : Ext w3 (w3.alloc (.cells #[.int .i64 0, .int .i64 1, .int .i64 9, .int .i64 31, .int .i64 32, .int .i64 33, .int .i64 500, .int .i64 1024] 3)) := Ext.alloc _ _
    have hS4 := hS3.ext hE4
    have HCE : Hid (∀ j : Nat, j < 8 → ∃ v : Int, (w3.alloc (.cells #[.int .i64 0, .int .i64 1, .int .i64 9, .int .i64 31, .int .i64 32, .int .i64 33, .int .i64 500, .int .i64 1024] 3)).cell? ⟨w3.heap.size, j, none⟩ = some (.int .i64 v)) := Lib.hid (fun j hj => by
      rcases (by omega : j = 0 ∨ j = 1 ∨ j = 2 ∨ j = 3 ∨ j = 4 ∨ j = 5 ∨ j = 6 ∨ j = 7) with rfl | rfl | rfl | rfl | rfl | rfl | rfl | rfl <;> exact ⟨_, by rw [World.cell?_alloc_new]; rfl⟩)
    have hbw : b < w3.heap.size := hS3.D.lt
    have HS4 := Lib.hid hS4
    clear hS3 hS4 hE4
    go_wp2_with fail
    refine (DN.out 8 _ HS4.out.D (by decide) (by decide)).mono ?_
    rintro e w5 ⟨kz, ka, kb, rfl, hD5, hg5⟩
    obtain ⟨kk, rfl⟩ : ∃ kk : Nat, kz = (kk : Int) := ⟨kz.toNat, by omega⟩
    have hkk : kk < 8 := by omega
    obtain ⟨vv, hvv⟩ := HCE.out kk hkk
    have hvv5 := (grown_cell hg5 (b := w3.heap.size) (by simp) (by simp; omega) kk).trans hvv
    have hS5 := HS4.out.draw hg5 hD5
    have HS5 := Lib.hid hS5
    obtain ⟨_, _, _, _, _, _, q6, _⟩ := hS5.B.cells
    obtain ⟨_, _, _, _, _, _, f6, _⟩ := hS5.B.free
    clear hvv hg5 hD5 hS5 HCE
    go_upto_region 4 with fail
    have hS6 := HS5.out.put (grown_set w5 ge 6 (.int .i64 vv)) (HS5.out.B.set6 vv)
    generalize w5.setCell ⟨ge, 6, none⟩ (.int .i64 vv) = w6 at hS6 ⊢
    clear HS5 HS4 q6 f6 hvv5
    have HS6 := Lib.hid hS6
    clear hS6
    go_wp2_with fail
    refine (DN.out 24 _ HS6.out.D (by decide) (by decide)).mono ?_
    rintro e w7 ⟨kh, kha, khb, rfl, hD7, hg7⟩
    have hS7 := HS6.out.draw hg7 hD7
    have HS7 := Lib.hid hS7
    obtain ⟨_, _, _, _, _, _, _, q7, _⟩ := hS7.B.cells
    obtain ⟨_, _, _, _, _, _, _, f7, _⟩ := hS7.B.free
    clear hg7 hD7 hS7
    go_upto_region 5 with fail
    have hS8 := HS7.out.put (grown_set w7 ge 7 (.int .i64 kh)) (HS7.out.B.set7 kh)
    generalize w7.setCell ⟨ge, 7, none⟩ (.int .i64 kh) = w8 at hS8 ⊢
    clear HS7 HS6 q7 f7
    have HS8 := Lib.hid hS8
    clear hS8
    go_wp2_with fail
    refine (DN.out 3 _ HS8.out.D (by decide) (by decide)).mono ?_
    rintro e w9 ⟨kr, kra, krb, rfl, hD9, hg9⟩
    have hS9 := HS8.out.draw hg9 hD9
    have HS9 := Lib.hid hS9
    obtain ⟨_, _, _, _, _, _, _, _, q8⟩ := hS9.B.cells
    obtain ⟨_, _, _, _, _, _, _, _, f8⟩ := hS9.B.free
    clear hg9 hD9 hS9
    go_upto_region 6 with fail
    have hSa := HS9.out.put (grown_set w9 ge 8 (.int .i64 (1 + kr))) (HS9.out.B.set8 (1 + kr))
    generalize w9.setCell ⟨ge, 8, none⟩ (.int .i64 (1 + kr)) = wa at hSa ⊢
    clear HS9 HS8 q8 f8
    obtain ⟨xf, hxf⟩ : ∃ xf : En, ({ x with scale := vv, hour := kh, reader := 1 + kr } : En) = xf := ⟨_, rfl⟩
    have hc1 : xf.cls.length ≤ 6 ∧ xf.name.length ≤ 6 := by rw [← hxf]; exact ⟨hx1, hx2⟩
    have hSb : EvSt w wa b ge xf := by rw [← hxf]; exact hSa
    clear hSa hxf
    obtain ⟨q0, q1, q2, q3, q4, q5, q6, q7, q8⟩ := hSb.B.cells
    obtain ⟨u0, u1, u2, u3, u4, u5, u6, u7, u8⟩ := hSb.Z.cells
    obtain ⟨f0, f1, f2, f3, f4, f5, f6, f7, f8⟩ := hSb.Z.free
    have hGf := setEv_grown wa w.heap.size xf
    have hEf : Ext w (setEv wa w.heap.size xf) := Below.trans hSb.E (below_row' hGf hSb.E.sz (fun g e => by simp only [Option.some.injEq] at e; omega))
    have HEf := Lib.hid hEf
    have HZb := Lib.hid hSb.Z
    clear hGf hEf hSb
    go_wp2_with fail
    exact finEvZ rfl xf HZb.out rfl ⟨xf, rfl, hc1.1, hc1.2, HEf.out⟩
end Go.Proofs.YtggkkjnfonbpkaaGreatDoor
