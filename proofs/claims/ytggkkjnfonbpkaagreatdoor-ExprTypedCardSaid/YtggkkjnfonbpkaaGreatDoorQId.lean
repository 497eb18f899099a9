/- The contract of the reference's Expr. -/
import Derived.Test.YtggkkjnfonbpkaaGreatDoorQIc

set_option linter.unusedSimpArgs false
set_option linter.unusedVariables false
namespace Go.Proofs.YtggkkjnfonbpkaaGreatDoor
open Go.RowKit Hach

/- a slice of ints that can be read -/
def LI (w : World) (A : Option Addr) (n : Nat) : Prop := n < 9223372036854775808 ∧ (0 < n → ∃ g o, A = some ⟨g, o, none⟩ ∧ g < w.heap.size ∧ ∀ j, j < n → ∃ x : Int, w.cell? ⟨g, o + j, none⟩ = some (.int .i64 x))
theorem LI.ext {w w' : World} {A : Option Addr} {n : Nat} (h : LI w A n) (hE : Ext w w') : LI w' A n := by
  refine ⟨h.1, fun hn => ?_⟩
  obtain ⟨g, o, e, h1, h2⟩ := h.2 hn
  refine ⟨g, o, e, Nat.lt_of_lt_of_le h1 hE.sz, fun j hj => ?_⟩
  obtain ⟨x, hx⟩ := h2 j hj
  exact ⟨x, (hE.old (p := ⟨g, o + j, none⟩) h1).trans hx⟩
theorem DrA.new {w : World} {A : Option Addr} {n : Nat} (c : Nat) (h : LI w A n) : DrA (w.alloc (.cells #[.slice A n c, .int .i64 0] 63)) w.heap.size := by
  refine ⟨A, n, c, 0, Go.heap_alloc_new _ _, h.1, Nat.zero_le _, fun hn => ?_⟩
  obtain ⟨g, o, e, h1, h2⟩ := h.2 hn
  refine ⟨g, o, e, h1, fun j hj => ?_⟩
  obtain ⟨x, hx⟩ := h2 j hj
  exact ⟨x, ((Ext.alloc w _).old (p := ⟨g, o + j, none⟩) h1).trans hx⟩
theorem ext_fresh {w w1 w2 : World} {b : Nat} (hE : Ext w w1) (hg : w1.grownBy w2 (some b)) (hb : w.heap.size ≤ b) : Ext w w2 :=
  Below.trans hE (below_row' hg hE.sz (fun g e => by simp only [Option.some.injEq] at e; omega))
theorem szM_le {m : Nat} (h : m ≤ 4) : szM m ≤ 46 := by
  rcases (by omega : m = 0 ∨ m = 1 ∨ m = 2 ∨ m = 3 ∨ m = 4) with rfl | rfl | rfl | rfl | rfl <;> decide
/- a new expression of a type -/
def NewE (N : Nat) (w : World) (e : Ending) (w' : World) : Prop := ∃ (x : Ex) (t : Int) (A : Option Addr) (c d : Nat), Rt x t ∧ x.size ≤ N ∧ e = .returned (.agg (x.cells A c).toArray) ∧ ExL w' (fun k => w.heap.size ≤ k ∧ k < w'.heap.size) d A x.l ∧ Ext w w'
set_option maxRecDepth 100000 in
set_option maxHeartbeats 2000000 in
theorem expr_any (A : Option Addr) (n c : Nat) (w : World) (hL : LI w A n) : Calls Tryz.prog 9 #[.slice A n c] w (NewE 46 w) := by
  have hz := Z7.new w
  obtain ⟨w0, hw0⟩ : ∃ w0, w.alloc (.cells zero7 29) = w0 := ⟨_, rfl⟩
  have hE0 : Ext w w0 := by rw [← hw0]; exact Ext.alloc _ _
  have hs0 : w0.heap.size = w.heap.size + 1 := by rw [← hw0]; simp
  rw [hw0] at hz
  have HW := Lib.hid hw0
  have hs0' : w.heap.size + 1 ≤ w0.heap.size := by omega
  have hs0'' : w0.heap.size ≤ w.heap.size + 1 := by omega
  have hD1 := DrA.new c (hL.ext hE0)
  have hE1 : Ext w0 (w0.alloc (.cells #[.slice A n c, .int .i64 0] 63)) := Ext.alloc _ _
  have hz1 := hz.ext hE1
  unfold zero7 at HW
  clear hw0 hs0 hL
  go_enter Tryz.func9, Tryz.ntmps9
  go_upto_region 1 with fail
  rw [HW.out]
  go_wp2_with fail
  refine (draw_any 3 _ _ hD1 (by decide) (by decide)).mono ?_
  rintro e w2 ⟨k1, p1, p2, rfl, hD2, hg2⟩
  have hz2 := hz1.own hg2 (by simp; omega)
  go_wp2_with fail
  refine (draw_any 4 _ _ hD2 (by decide) (by decide)).mono ?_
  rintro e w3 ⟨k2, q1, q2, rfl, hD3, hg3⟩
  have hz3 := hz2.own hg3 (by simp; omega)
  have MD := Lib.hid (made_all (1 + k2).toNat (by omega) (1 + k1) (1 + k2) _ w3 (by omega) (by omega) hD3)
  have hm := szM_le (show (1 + k2).toNat ≤ 4 by omega)
  unfold dp at MD
  go_wp2_with fail
  refine MD.out.mono ?_
  rintro e w4 ⟨x, A', c', d, hR, hS, rfl, hX, hD4, hg4⟩
  have hz4 := hz3.own hg4 (by simp; omega)
  have hg24 := grown_trans (grown_trans hg2 hg3) hg4
  have hE4 := ext_fresh (hE0.trans hE1) hg24 (by omega)
  have hsz1 : w0.heap.size < w3.heap.size := by have h1 := hg2.size; have h2 := hg3.size; simp at h1; omega
  obtain ⟨u0, u1, u2, u3, u4, u5, u6⟩ := hz4.cells
  obtain ⟨f0, f1, f2, f3, f4, f5, f6⟩ := hz4.free
  have hG := set7_grown w4 w.heap.size x (.slice A' x.l.length c')
  have hX5 : ExL (set7 w4 w.heap.size x (.slice A' x.l.length c')) (fun k => w.heap.size ≤ k ∧ k < (set7 w4 w.heap.size x (.slice A' x.l.length c')).heap.size) d A' x.l := (hX.keep fun k hk o => grown_cell hG hk.2 (by have := hk.1; simp; omega) o).more fun k hk => ⟨by have := hk.1; omega, Nat.lt_of_lt_of_le hk.2 hG.size⟩
  have HX5 := Lib.hid hX5
  have HG := Lib.hid hG
  clear hX hX5 hG
  unfold Ex.cells
  go_wp2_with fail
  exact fin7 rfl x hz4 A' _ c' rfl rfl ⟨x, 1 + k1, A', c', d, hR, Nat.le_trans hS hm, rfl, HX5.out, ext_fresh hE4 HG.out (Nat.le_refl _)⟩
end Go.Proofs.YtggkkjnfonbpkaaGreatDoor
