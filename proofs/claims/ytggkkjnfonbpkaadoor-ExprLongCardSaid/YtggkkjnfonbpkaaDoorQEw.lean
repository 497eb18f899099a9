/- The contract of the reference's value (printed by gen_ew.py). -/
import Derived.Test.YtggkkjnfonbpkaaDoorQXe

set_option linter.unusedSimpArgs false
set_option linter.unusedVariables false
namespace Go.Proofs.YtggkkjnfonbpkaaDoor
open Go.RowKit Hach

/- a value in a block of its own -/
def V4 (w : World) (g : Nat) (y : Vl) : Prop := w.heap[g]? = some (.cells #[.int .i64 y.ty, .int .i64 y.n, .bool y.b, .string ⟨y.s.toArray⟩] 26 (0, 0))
def vzero : Vl := ⟨0, 0, false, []⟩
theorem V4.lt {w : World} {g : Nat} {y : Vl} (h : V4 w g y) : g < w.heap.size := (Array.getElem?_eq_some_iff.1 h).1
theorem V4.ext {w w' : World} {g : Nat} {y : Vl} (h : V4 w g y) (hE : Ext w w') : V4 w' g y := (hE.below.block g h.lt).trans h
theorem V4.cells {w : World} {g : Nat} {y : Vl} (h : V4 w g y) : w.cell? ⟨g, 0, none⟩ = some (.int .i64 y.ty) ∧ w.cell? ⟨g, 1, none⟩ = some (.int .i64 y.n) ∧ w.cell? ⟨g, 2, none⟩ = some (.bool y.b) ∧ w.cell? ⟨g, 3, none⟩ = some (.string ⟨y.s.toArray⟩) := by
  have h' : w.heap[g]? = _ := h
  refine ⟨?_, ?_, ?_, ?_⟩ <;> simp [World.cell?, h']
theorem V4.free {w : World} {g : Nat} {y : Vl} (h : V4 w g y) : w.frozen? ⟨g, 0, none⟩ = false ∧ w.frozen? ⟨g, 1, none⟩ = false ∧ w.frozen? ⟨g, 2, none⟩ = false ∧ w.frozen? ⟨g, 3, none⟩ = false := by
  have h' : w.heap[g]? = _ := h
  refine ⟨?_, ?_, ?_, ?_⟩ <;> simp [World.frozen?, h']
theorem V4.set {w : World} {g : Nat} {y : Vl} (h : V4 w g y) (z : Vl) : V4 (vset w g (.int .i64 z.ty) (.int .i64 z.n) (.bool z.b) (.string ⟨z.s.toArray⟩)) g z := by
  have h' : w.heap[g]? = _ := h
  simp [V4, vset, World.setCell, Array.getElem?_modify, h']
theorem V4.new (w : World) : V4 (w.alloc (.cells #[.int .i64 0, .int .i64 0, .bool false, .string ⟨#[]⟩] 26)) w.heap.size vzero := Go.heap_alloc_new _ _
def zp (lo : Nat) : SP := ⟨fun v W => ∃ g, v = .pointer (some ⟨g, 0, none⟩) ∧ lo ≤ g ∧ V4 W g vzero, fun h hE => by
  obtain ⟨g, e, h1, h2⟩ := h
  exact ⟨g, e, h1, h2.ext hE⟩⟩
theorem Rt.pos0 {e : Ex} {t : Int} (h : Rt e t) (h1 : e.op ≠ 1) (h2 : e.op ≠ 2) : 0 < e.l.length := by
  rcases h.inv with ⟨h6, hl, _⟩ | ⟨h6, hl, _⟩ | ⟨_, _, a, hl, ha⟩ | ⟨_, _, a, b, hl, ha, hb⟩ | ⟨_, _, s, a, b, hl, ha, hb⟩ | ⟨_, _, a, b, hl, ha, hb⟩ | ⟨_, _, a, b, hl, ha, hb⟩ | ⟨_, a, b, c, hl, ha, hb, hc⟩
  · exact absurd h6 h1
  · exact absurd h6 h2
  all_goals simp [hl]
theorem Rt.pos1 {e : Ex} {t : Int} (h : Rt e t) (h1 : e.op ≠ 1) (h2 : e.op ≠ 2) (h3 : e.op ≠ 3) : 1 < e.l.length := by
  rcases h.inv with ⟨h6, hl, _⟩ | ⟨h6, hl, _⟩ | ⟨h6, _, a, hl, ha⟩ | ⟨_, _, a, b, hl, ha, hb⟩ | ⟨_, _, s, a, b, hl, ha, hb⟩ | ⟨_, _, a, b, hl, ha, hb⟩ | ⟨_, _, a, b, hl, ha, hb⟩ | ⟨_, a, b, c, hl, ha, hb, hc⟩
  · exact absurd h6 h1
  · exact absurd h6 h2
  · exact absurd h6 h3
  all_goals simp [hl]
end Go.Proofs.YtggkkjnfonbpkaaDoor
