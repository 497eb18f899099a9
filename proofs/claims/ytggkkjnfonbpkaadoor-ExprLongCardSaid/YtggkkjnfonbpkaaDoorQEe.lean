/- The contract of the reference's Copy. -/
import Derived.Test.YtggkkjnfonbpkaaDoorQXa

set_option linter.unusedSimpArgs false
set_option linter.unusedVariables false
namespace Go.Proofs.YtggkkjnfonbpkaaDoor
open Go.RowKit Hach

/- a block that holds one expression -/
def cell7 (x : Ex) (v : Value) : Array Value := #[.int .i64 x.op, .int .i64 x.var, .int .i64 x.ty, .int .i64 x.n, .bool x.b, .string ⟨x.s.toArray⟩, v]
def zero7 : Array Value := #[.int .i64 0, .int .i64 0, .int .i64 0, .int .i64 0, .bool false, .string ⟨#[]⟩, .slice none 0 0]
def InBlk (w : World) (b : Nat) (x : Ex) (v : Value) : Prop := w.heap[b]? = some (.cells (cell7 x v) 29 (0, 0))
theorem InBlk.lt {w : World} {b : Nat} {x : Ex} {v : Value} (h : InBlk w b x v) : b < w.heap.size := (Array.getElem?_eq_some_iff.1 h).1
theorem InBlk.free {w : World} {b : Nat} {x : Ex} {v : Value} (h : InBlk w b x v) (o : Nat) : w.frozen? ⟨b, o, none⟩ = false := by simp [World.frozen?, show w.heap[b]? = _ from h]
theorem InBlk.ext {w w' : World} {b : Nat} {x : Ex} {v : Value} (h : InBlk w b x v) (hE : Ext w w') : InBlk w' b x v := (hE.below.block b h.lt).trans h
theorem InBlk.own {w w' : World} {b : Nat} {x : Ex} {v : Value} {r : Option Nat} (h : InBlk w b x v) (hg : w.grownBy w' r) (hb : some b ≠ r) : InBlk w' b x v := (hg.block b h.lt hb).trans h
theorem InBlk.cells {w : World} {b : Nat} {x : Ex} {v : Value} (h : InBlk w b x v) : w.cell? ⟨b, 0, none⟩ = some (.int .i64 x.op) ∧ w.cell? ⟨b, 1, none⟩ = some (.int .i64 x.var) ∧ w.cell? ⟨b, 2, none⟩ = some (.int .i64 x.ty) ∧ w.cell? ⟨b, 3, none⟩ = some (.int .i64 x.n) ∧ w.cell? ⟨b, 4, none⟩ = some (.bool x.b) ∧ w.cell? ⟨b, 5, none⟩ = some (.string ⟨x.s.toArray⟩) ∧ w.cell? ⟨b, 6, none⟩ = some v := by
  have h' : w.heap[b]? = _ := h
  refine ⟨?_, ?_, ?_, ?_, ?_, ?_, ?_⟩ <;> simp [World.cell?, h', cell7]
theorem InBlk.new (w : World) (x : Ex) (v : Value) : InBlk (w.alloc (.cells (cell7 x v) 29)) w.heap.size x v := Go.heap_alloc_new _ _
theorem InBlk.set {w : World} {b : Nat} {x : Ex} {v : Value} (h : InBlk w b x v) (u : Value) : InBlk (w.setCell ⟨b, 6, none⟩ u) b x u := by
  have h' : w.heap[b]? = _ := h
  simp [InBlk, World.setCell, Array.getElem?_modify, h', cell7]
theorem grown_set (w : World) (b o : Nat) (v : Value) : w.grownBy (w.setCell ⟨b, o, none⟩ v) (some b) :=
  ⟨rfl, rfl, rfl, by simp [World.setCell], fun k _ hk => by
    have : b ≠ k := fun e => hk (by rw [e])
    simp [World.setCell, Array.getElem?_modify, this]⟩
def set7 (w : World) (b : Nat) (x : Ex) (v : Value) : World := ((((((w.setCell ⟨b, 0, none⟩ (.int .i64 x.op)).setCell ⟨b, 1, none⟩ (.int .i64 x.var)).setCell ⟨b, 2, none⟩ (.int .i64 x.ty)).setCell ⟨b, 3, none⟩ (.int .i64 x.n)).setCell ⟨b, 4, none⟩ (.bool x.b)).setCell ⟨b, 5, none⟩ (.string ⟨x.s.toArray⟩)).setCell ⟨b, 6, none⟩ v
theorem set7_in {w : World} {b : Nat} (h : w.heap[b]? = some (.cells zero7 29 (0, 0))) (x : Ex) (v : Value) : InBlk (set7 w b x v) b x v := by
  simp [InBlk, set7, World.setCell, Array.getElem?_modify, h, zero7, cell7]
theorem grown_trans {u v w : World} {r : Option Nat} (h : u.grownBy v r) (k : v.grownBy w r) : u.grownBy w r :=
  ⟨k.os.trans h.os, k.tape.trans h.tape, k.output.trans h.output, Nat.le_trans h.size k.size, fun b hb hne => (k.block b (Nat.lt_of_lt_of_le hb h.size) hne).trans (h.block b hb hne)⟩
theorem set7_grown (w : World) (b : Nat) (x : Ex) (v : Value) : w.grownBy (set7 w b x v) (some b) :=
  grown_trans (grown_trans (grown_trans (grown_trans (grown_trans (grown_trans (grown_set _ _ _ _) (grown_set _ _ _ _)) (grown_set _ _ _ _)) (grown_set _ _ _ _)) (grown_set _ _ _ _)) (grown_set _ _ _ _)) (grown_set _ _ _ _)
theorem set7_size (w : World) (b : Nat) (x : Ex) (v : Value) : (set7 w b x v).heap.size = w.heap.size := by
  have h := (set7_grown w b x v).size
  simp only [set7, World.setCell, Array.size_modify]
theorem results_blk {fn : Func} {t : Tmp} (hr : fn.results = #[.cell t 29]) {w : World} {b : Nat} {x : Ex} {A : Option Addr} {n c : Nat} (h : InBlk w b x (.slice A n c)) (tmps : Array Value) (ht : tmps.getD t undef = .pointer (some ⟨b, 0, none⟩)) :
    (results fn tmps).run Tryd.prog w = .ok (.agg #[.int .i64 x.op, .int .i64 x.var, .int .i64 x.ty, .int .i64 x.n, .bool x.b, .string ⟨x.s.toArray⟩, .slice A n c]) w := by
  obtain ⟨p0, p1, p2, p3, p4, p5, p6⟩ := h.cells
  clear h
  rw [Array.getD_eq_getD_getElem?] at ht
  simp only [results, hr]
  go_simp
/- an expression that was made behind lo; a block of one such -/
def ndSP (lo : Nat) (x : Ex) (d : Nat) : SP := ⟨fun v W => ∃ A c, v = .agg #[.int .i64 x.op, .int .i64 x.var, .int .i64 x.ty, .int .i64 x.n, .bool x.b, .string ⟨x.s.toArray⟩, .slice A x.l.length c] ∧ ExL W (fun b => lo ≤ b ∧ b < W.heap.size) d A x.l, fun h hE => by
  obtain ⟨A, c, e, h⟩ := h
  exact ⟨A, c, e, (h.keep fun b hb o => hE.old (p := ⟨b, o, none⟩) hb.2).more fun b hb => ⟨hb.1, Nat.lt_of_lt_of_le hb.2 hE.sz⟩⟩⟩
def slNd (lo : Nat) (x : Ex) (d : Nat) : SP := ⟨fun v W => ∃ g A c, v = .slice (some ⟨g, 0, none⟩) 1 1 ∧ lo ≤ g ∧ g < W.heap.size ∧ (∀ i u, (x.cells A c)[i]? = some u → W.cell? ⟨g, i, none⟩ = some u) ∧ ExL W (fun b => lo ≤ b ∧ b < W.heap.size) d A x.l, fun h hE => by
  obtain ⟨g, A, c, e, h1, h2, h3, h4⟩ := h
  exact ⟨g, A, c, e, h1, Nat.lt_of_lt_of_le h2 hE.sz, fun i u hi => (hE.old (p := ⟨g, i, none⟩) h2).trans (h3 i u hi), (h4.keep fun b hb o => hE.old (p := ⟨b, o, none⟩) hb.2).more fun b hb => ⟨hb.1, Nat.lt_of_lt_of_le hb.2 hE.sz⟩⟩⟩
def SO (B : Nat) (w : World) (v : Value) : Nat → Prop := fun b => B ≤ b ∧ b < w.heap.size ∧ v.ownBlock ≠ some b
theorem below_row' {w w' : World} {B : Nat} {r : Option Nat} (h : w.grownBy w' r) (hB : B ≤ w.heap.size) (hv : ∀ g, r = some g → B ≤ g) : Below B w w' :=
  ⟨h.os, h.tape, h.output, h.size, fun k hk => h.block k (by omega) fun e => by have := hv k e.symm; omega⟩
theorem set_cell_other {w : World} {r o b o' : Nat} {u : Value} (h : b ≠ r) : (w.setCell ⟨r, o, none⟩ u).cell? ⟨b, o', none⟩ = w.cell? ⟨b, o', none⟩ :=
  World.cell?_of_block (a := ⟨b, o', none⟩) (heap_setCell_other w ⟨r, o, none⟩ b u h)
theorem set_size (w : World) (a : Addr) (u : Value) : (w.setCell a u).heap.size = w.heap.size := by simp [World.setCell]
theorem Kids.step {W wb : World} {B : Nat} {v v1 : Value} {d : Nat} {us : List Nd} {nd : Nd} {lo r o : Nat} {u : Value} (hK : Kids W (SO B W v) d us) (hk : ExL W (fun b => lo ≤ b ∧ b < W.heap.size) d nd.A nd.x.l) (hlo : B ≤ lo) (hv : ∀ b, v.ownBlock = some b → b < lo) (hg : W.grownBy wb v.ownBlock) (hn : v1.ownBlock = v.ownBlock ∨ v1.ownBlock = some W.heap.size) (hr : r < B) :
    Kids (wb.setCell ⟨r, o, none⟩ u) (SO B (wb.setCell ⟨r, o, none⟩ u) v1) d (us ++ [nd]) := by
  have hsz := hg.size
  have hz := set_size wb ⟨r, o, none⟩ u
  have key : ∀ b, B ≤ b → b < W.heap.size → v.ownBlock ≠ some b → (∀ o', (wb.setCell ⟨r, o, none⟩ u).cell? ⟨b, o', none⟩ = W.cell? ⟨b, o', none⟩) ∧ SO B (wb.setCell ⟨r, o, none⟩ u) v1 b := fun b h1 h2 h3 => ⟨fun o' => (set_cell_other (by omega)).trans (grown_cell hg h2 h3 o'), h1, by omega, fun e => by
    rcases hn with h | h
    · exact h3 (h ▸ e)
    · rw [h] at e; simp only [Option.some.injEq] at e; omega⟩
  refine Kids.snoc (Kids.more (Kids.keep hK fun b hb o' => (key b hb.1 hb.2.1 hb.2.2).1 o') fun b hb => (key b hb.1 hb.2.1 hb.2.2).2) ?_
  have h4 : ∀ b, lo ≤ b → v.ownBlock ≠ some b := fun b h e => by have := hv b e; omega
  exact (hk.keep fun b hb o' => (key b (by omega) hb.2 (h4 b hb.1)).1 o').more fun b hb => (key b (by omega) hb.2 (h4 b hb.1)).2
end Go.Proofs.YtggkkjnfonbpkaaDoor
