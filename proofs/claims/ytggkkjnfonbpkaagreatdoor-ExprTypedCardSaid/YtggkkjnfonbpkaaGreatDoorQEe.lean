/- The contract of the reference's Copy. -/
import Derived.Test.YtggkkjnfonbpkaaGreatDoorQXa

set_option linter.unusedSimpArgs false
set_option linter.unusedVariables false
namespace Go.Proofs.YtggkkjnfonbpkaaGreatDoor
open Go.RowKit Hach

/- a block that holds one expression -/
def cell7 (x : Ex) (v : Value) : Array Value := #[.int .i64 x.op, .int .i64 x.var, .int .i64 x.ty, .int .i64 x.n, .bool x.b, .string ⟨x.s.toArray⟩, v]
def zero7 : Array Value := #[.int .i64 0, .int .i64 0, .int .i64 0, .int .i64 0, .bool false, .string ⟨#[]⟩, .slice none 0 0]
def InBlk (w : World) (b : Nat) (x : Ex) (v : Value) : Prop := w.heap[b]? = some (.cells (cell7 x v) 29 (0, 0))
theorem InBlk.lt {w : World} {b : Nat} {x : Ex} {v : Value} (h : InBlk w b x v) : b < w.heap.size := (Array.getElem?_eq_some_iff.1 h).1
theorem InBlk.free {w : World} {b : Nat} {x : Ex} {v : Value} (h : InBlk w b x v) (o : Nat) : w.frozen? ⟨b, o, none⟩ = false := by simp [World.frozen?, show w.heap[b]? = _ from h]
theorem InBlk.ext {w w' : World} {b : Nat} {x : Ex} {v : Value} (h : InBlk w b x v) (hE : Ext w w') : InBlk w' b x v := (hE.below.block b h.lt).trans h
theorem InBlk.own {w w' : World} {b : Nat} {x : Ex} {v : Value} {r : Option Nat} (h : InBlk w b x v) (hg : w.grownBy w' r) (hb : some b ≠ r) : InBlk w' b x v := (hg.block b h.lt hb).trans h
theorem InBlk.cells {w : World} {b : Nat} {x : Ex} {v : Value} (h : InBlk w b x v) : w.cell? ⟨b, 0, none⟩ = some (.int .i64 x.op) ∧ w.cell? ⟨b, 1, none⟩ = some (.int .i64 x.var) ∧ w.cell? ⟨b, 2, none⟩ = some (.int .i64 x.ty) ∧ w.cell? ⟨b, 3, none⟩ = some (.int .i64 x.n) ∧ w.cell? ⟨b, 4, none⟩ = some (.bool x.b) ∧ w.cell? ⟨b, 5, none⟩ = some (.string ⟨x.s.toArray⟩) ∧ w.cell? ⟨b, 6, none⟩ = some v := by
  have h' : w.heap[b]? = _ := h
  refine ⟨?_, ?_, ?_, ?_, ?_, ?_, ?_⟩ <;> simp [World.cell?, h', cell7]
theorem InBlk.new (w : World) (x : Ex) (v : Value) : InBlk (w.alloc (.cells (cell7 x v) 29)) w.heap.size x v := Go.heap_alloc_new _ _
theorem InBlk.set {w : World} {b : Nat} {x : Ex} {v : Value} (h : InBlk w b x v) (u : Value) : InBlk (w.setCell ⟨b, 6, none⟩ u) b x u := by
  have h' : w.heap[b]? = _ := h
  simp [InBlk, World.setCell, Array.getElem?_modify, h', cell7]
theorem grown_set (w : World) (b o : Nat) (v : Value) : w.grownBy (w.setCell ⟨b, o, none⟩ v) (some b) :=
  ⟨rfl, rfl, rfl, by simp [World.setCell], fun k _ hk => by
    have : b ≠ k := fun e => hk (by rw [e])
    simp [World.setCell, Array.getElem?_modify, this]⟩
def set7 (w : World) (b : Nat) (x : Ex) (v : Value) : World := ((((((w.setCell ⟨b, 0, none⟩ (.int .i64 x.op)).setCell ⟨b, 1, none⟩ (.int .i64 x.var)).setCell ⟨b, 2, none⟩ (.int .i64 x.ty)).setCell ⟨b, 3, none⟩ (.int .i64 x.n)).setCell ⟨b, 4, none⟩ (.bool x.b)).setCell ⟨b, 5, none⟩ (.string ⟨x.s.toArray⟩)).setCell ⟨b, 6, none⟩ v
theorem set7_in {w : World} {b : Nat} (h : w.heap[b]? = some (.cells zero7 29 (0, 0))) (x : Ex) (v : Value) : InBlk (set7 w b x v) b x v := by
  simp [InBlk, set7, World.setCell, Array.getElem?_modify, h, zero7, cell7]
theorem grown_trans {u v w : World} {r : Option Nat} (h : u.grownBy v r) (k : v.grownBy w r) : u.grownBy w r :=
  ⟨k.os.trans h.os, k.tape.trans h.tape, k.output.trans h.output, Nat.le_trans h.size k.size, fun b hb hne => (k.block b (Nat.lt_of_lt_of_le hb h.size) hne).trans (h.block b hb hne)⟩
theorem set7_grown (w : World) (b : Nat) (x : Ex) (v : Value) : w.grownBy (set7 w b x v) (some b) :=
  grown_trans (grown_trans (grown_trans (grown_trans (grown_trans (grown_trans (grown_set _ _ _ _) (grown_set _ _ _ _)) (grown_set _ _ _ _)) (grown_set _ _ _ _)) (grown_set _ _ _ _)) (grown_set _ _ _ _)) (grown_set _ _ _ _)
theorem set7_size (w : World) (b : Nat) (x : Ex) (v : Value) : (set7 w b x v).heap.size = w.heap.size := by
  have h := (set7_grown w b x v).size
  simp only [set7, World.setCell, Array.size_modify]
theorem results_blk {fn : Func} {t : Tmp} (hr : fn.results = #[.cell t 29]) {w : World} {b : Nat} {x : Ex} {A : Option Addr} {n c : Nat} (h : InBlk w b x (.slice A n c)) (tmps : Array Value) (ht : tmps.getD t undef = .pointer (some ⟨b, 0, none⟩)) :
    (results fn tmps).run Tryz.prog w = .ok (.agg #[.int .i64 x.op, .int .i64 x.var, .int .i64 x.ty, .int .i64 x.n, .bool x.b, .string ⟨x.s.toArray⟩, .slice A n c]) w := by
  obtain ⟨p0, p1, p2, p3, p4, p5, p6⟩ := h.cells
  clear h
  rw [Array.getD_eq_getD_getElem?] at ht
  simp only [results, hr]
  go_simp
/- an expression that was made behind lo; a block of one such -/
def ndSP (lo : Nat) (x : Ex) (d : Nat) : SP := ⟨fun v W => ∃ A c, v = .agg #[.int .i64 x.op, .int .i64 x.var, .int .i64 x.ty, .int .i64 x.n, .bool x.b, .string ⟨x.s.toArray⟩, .slice A x.l.length c] ∧ ExL W (fun b => lo ≤ b ∧ b < W.heap.size) d A x.l, fun h hE => by
  obtain ⟨A, c, e, h⟩ := h
  exact ⟨A, c, e, (h.keep fun b hb o => hE.old (p := ⟨b, o, none⟩) hb.2).more fun b hb => ⟨hb.1, Nat.lt_of_lt_of_le hb.2 hE.sz⟩⟩⟩
def slNd (lo : Nat) (x : Ex) (d : Nat) : SP := ⟨fun v W => ∃ g A c, v = .slice (some ⟨g, 0, none⟩) 1 1 ∧ lo ≤ g ∧ g < W.heap.size ∧ (∀ i u, (x.cells A c)[i]? = some u → W.cell? ⟨g, i, none⟩ = some u) ∧ ExL W (fun b => lo ≤ b ∧ b < W.heap.size) d A x.l, fun h hE => by
  obtain ⟨g, A, c, e, h1, h2, h3, h4⟩ := h
  exact ⟨g, A, c, e, h1, Nat.lt_of_lt_of_le h2 hE.sz, fun i u hi => (hE.old (p := ⟨g, i, none⟩) h2).trans (h3 i u hi), (h4.keep fun b hb o => hE.old (p := ⟨b, o, none⟩) hb.2).more fun b hb => ⟨hb.1, Nat.lt_of_lt_of_le hb.2 hE.sz⟩⟩⟩
def SO (B : Nat) (w : World) (v : Value) : Nat → Prop := fun b => B ≤ b ∧ b < w.heap.size ∧ v.ownBlock ≠ some b
theorem below_row' {w w' : World} {B : Nat} {r : Option Nat} (h : w.grownBy w' r) (hB : B ≤ w.heap.size) (hv : ∀ g, r = some g → B ≤ g) : Below B w w' :=
  ⟨h.os, h.tape, h.output, h.size, fun k hk => h.block k (by omega) fun e => by have := hv k e.symm; omega⟩
theorem set_cell_other {w : World} {r o b o' : Nat} {u : Value} (h : b ≠ r) : (w.setCell ⟨r, o, none⟩ u).cell? ⟨b, o', none⟩ = w.cell? ⟨b, o', none⟩ :=
  World.cell?_of_block (a := ⟨b, o', none⟩) (heap_setCell_other w ⟨r, o, none⟩ b u h)
theorem set_size (w : World) (a : Addr) (u : Value) : (w.setCell a u).heap.size = w.heap.size := by simp [World.setCell]
theorem Kids.step {W wb : World} {B : Nat} {v v1 : Value} {d : Nat} {us : List Nd} {nd : Nd} {lo r o : Nat} {u : Value} (hK : Kids W (SO B W v) d us) (hk : ExL W (fun b => lo ≤ b ∧ b < W.heap.size) d nd.A nd.x.l) (hlo : B ≤ lo) (hv : ∀ b, v.ownBlock = some b → b < lo) (hg : W.grownBy wb v.ownBlock) (hn : v1.ownBlock = v.ownBlock ∨ v1.ownBlock = some W.heap.size) (hr : r < B) :
    Kids (wb.setCell ⟨r, o, none⟩ u) (SO B (wb.setCell ⟨r, o, none⟩ u) v1) d (us ++ [nd]) := by
  have hsz := hg.size
  have hz := set_size wb ⟨r, o, none⟩ u
  have key : ∀ b, B ≤ b → b < W.heap.size → v.ownBlock ≠ some b → (∀ o', (wb.setCell ⟨r, o, none⟩ u).cell? ⟨b, o', none⟩ = W.cell? ⟨b, o', none⟩) ∧ SO B (wb.setCell ⟨r, o, none⟩ u) v1 b := fun b h1 h2 h3 => ⟨fun o' => (set_cell_other (by omega)).trans (grown_cell hg h2 h3 o'), h1, by omega, fun e => by
    rcases hn with h | h
    · exact h3 (h ▸ e)
    · rw [h] at e; simp only [Option.some.injEq] at e; omega⟩
  refine Kids.snoc (Kids.more (Kids.keep hK fun b hb o' => (key b hb.1 hb.2.1 hb.2.2).1 o') fun b hb => (key b hb.1 hb.2.1 hb.2.2).2) ?_
  have h4 : ∀ b, lo ≤ b → v.ownBlock ≠ some b := fun b h e => by have := hv b e; omega
  exact (hk.keep fun b hb o' => (key b (by omega) hb.2 (h4 b hb.1)).1 o').more fun b hb => (key b (by omega) hb.2 (h4 b hb.1)).2
set_option maxRecDepth 100000 in
set_option maxHeartbeats 2000000 in
theorem Copy_any (d : Nat) : ∀ (e : Ex) (A : Option Addr) (c : Nat) (w : World), ExB w w.heap.size d A e.l → e.size < 4294967296 →
    Calls Tryz.prog 35 #[.agg (e.cells A c).toArray] w fun r w' => ∃ A' c', r = .returned (.agg (e.cells A' c').toArray) ∧ ExL w' (fun b => w.heap.size ≤ b ∧ b < w'.heap.size) d A' e.l ∧ Ext w w' := by
  induction d using Nat.strongRecOn with
  | _ d ih =>
    intro e A c w hX hsz
    have hk := Nat.lt_trans e.kids_lt hsz
    have hll := Nat.lt_of_le_of_lt (Ex.len_le e.l) hk
    obtain ⟨w3, hw3⟩ : ∃ w3, ((w.alloc (.cells (e.cells A c).toArray 29)).alloc (.cells zero7 29)).alloc (.cells (cell7 e (.slice none 0 0)) 29) = w3 := ⟨_, rfl⟩
    have hsz3 : w3.heap.size = w.heap.size + 3 := by rw [← hw3]; simp
    have hE3 : Ext w w3 := by rw [← hw3]; exact ((Ext.alloc _ _).trans (Ext.alloc _ _)).trans (Ext.alloc _ _)
    have hbox : Box w3 w.heap.size e A c := by rw [← hw3]; exact ((Box.new w e A c _).ext (Ext.alloc _ _)).ext (Ext.alloc _ _)
    have hzero : w3.heap[w.heap.size + 1]? = some (.cells zero7 29 (0, 0)) := by
      rw [← hw3]
      have h1 := Go.heap_alloc_new (w.alloc (.cells (e.cells A c).toArray 29)) (.cells zero7 29)
      rw [World.size_alloc] at h1
      exact ((Ext.alloc ((w.alloc (.cells (e.cells A c).toArray 29)).alloc (.cells zero7 29)) _).below.block _ (by simp)).trans h1
    have hout : InBlk w3 (w.heap.size + 2) e (.slice none 0 0) := by
      rw [← hw3]
      have h1 := InBlk.new ((w.alloc (.cells (e.cells A c).toArray 29)).alloc (.cells zero7 29)) e (.slice none 0 0)
      rw [World.size_alloc, World.size_alloc] at h1
      exact h1
    have HZ3 := Lib.hid hsz3
    clear hsz3
    unfold Ex.cells at hw3 ⊢
    unfold zero7 cell7 at hw3
    have HW3 := Lib.hid hw3
    clear hw3
    go_enter Tryz.func35, Tryz.ntmps35
    go_wp2_with fail
    rw [HW3.out]
    go_loopw [4] (fun kv wr => ∃ (k : Nat) (v : Value) (us : List Nd), k ≤ e.l.length ∧ kv = .int .i64 k ∧ us.map (·.x) = e.l.take k ∧ OwnN wr (w.heap.size + 3) v us ∧ Kids wr (SO (w.heap.size + 3) wr v) (d - 1) us ∧ InBlk wr (w.heap.size + 2) e v ∧ Below (w.heap.size + 2) w3 wr ∧ w.heap.size + 3 ≤ wr.heap.size) (fun kv _ => e.l.length - (intOf kv).toNat)
    case atStart => exact ⟨0, _, [], Nat.zero_le _, rfl, rfl, OwnN.nil _ _, Kids.nil _ _ _, hout, Below.refl _ _, by have := HZ3.out; omega⟩
    case round =>
      obtain ⟨k, v, us, hkl, rfl, hmap, hO, hK, hI, hB, hBs⟩ := hrel
      have hul : us.length = k := by have := congrArg List.length hmap; simp at this; omega
      obtain ⟨q0, q1, q2, q3, q4, q5, q6⟩ := hI.cells
      have q6b := (hB.cell (p := ⟨w.heap.size, 6, none⟩) (show w.heap.size < w.heap.size + 2 by omega)).trans hbox.c6
      by_cases hlt : k < e.l.length
      · have hXr : ExB wr w.heap.size d A e.l := hX.keep fun b hb o => ((hB.mono (by omega)).cell (p := ⟨b, o, none⟩) hb).trans (hE3.old (p := ⟨b, o, none⟩) hb)
        obtain ⟨b, o, A', c', d', hd, rfl, hb, hX', hOne⟩ := hXr.at_ hlt
        have ihx := ih d' (by omega)
        obtain ⟨o0, o1, o2, o3, o4, o5, o6⟩ := hOne
        have hsx := Nat.lt_of_le_of_lt (Ex.size_mem (List.getElem_mem hlt)) hk
        have hsnoc : e.l.take (k + 1) = e.l.take k ++ [e.l[k]] := List.take_succ_eq_append_getElem hlt
        have hbw : b < wr.heap.size := by omega
        have HMAP := Lib.hid hmap
        have HSN := Lib.hid hsnoc
        have HD := Lib.hid hd
        obtain ⟨x, hx⟩ : ∃ x, e.l[k] = x := ⟨_, rfl⟩
        rw [hx] at o0 o1 o2 o3 o4 o5 o6 hX' hsx HSN
        have hul2 : us.length < 4294967296 := by omega
        have HUL := Lib.hid hul
        clear hmap hsnoc hx hd hul
        have hwrN : w.heap.size + 3 ≤ wr.heap.size := hBs
        have hKd : Kids wr (SO (w.heap.size + 3) wr v) d' us := by rw [show d' = d - 1 by have := HD.out; omega]; exact hK
        go_wp2_with fail
        apply wp_region_seq (l := [_, _, _, _, _, _, _, _, _]) (t := [_, _, _]) [some 14, some 15, some 16, some 17, some 18, some 19, some 20, some 21, some 22, some 23, some 24, none] [[], [0], [], [2], [], [3, 4], [5], [6], [7], [1, 8], [], [9, 10]] [1, 9, 3, 5, 5, 6, 7, 9, 9] [eqv _, eqv _, eqv _, eqv _, eqv _, eqv _, eqv _, (ndSP wr.heap.size x d'), (slNd wr.heap.size x d')] (by kernel_rfl) (by kernel_rfl) ⟨?o0, ?o1, ?o2, ?o3, ?o4, ?o5, ?o6, ?o7, ?o8, trivial⟩ ?last
        case o0 => -- Op.fieldAddr 29 (Operand.tmp 3) 3
          intro xv W hE _
          simp only [putD, List.foldl_nil, List.getD_cons_zero]
          refine OpGoal.plain ?_
          go_wp2_with fail
          exact ⟨rfl, Ext.refl _, rfl⟩
        case o1 => -- Op.load 27 (Operand.tmp 14)
          intro xv W hE hp
          have r0 : xv 0 = _ := hp.1
          clear hp
          have l6 : W.cell? ⟨w.heap.size + 2, 6, none⟩ = some v := (hE.old (p := ⟨w.heap.size + 2, 6, none⟩) hI.lt).trans q6
          have m6 : W.cell? ⟨w.heap.size, 6, none⟩ = some (.slice (some ⟨b, o, none⟩) e.l.length c) := (hE.old (p := ⟨w.heap.size, 6, none⟩) (show w.heap.size < wr.heap.size by omega)).trans q6b
          obtain ⟨y0, y1, y2, y3, y4, y5, y6⟩ := One.ext (w := wr) (b := b) (o := o + k * 7) (x := x) (A := A') (c := c') ⟨o0, o1, o2, o3, o4, o5, o6⟩ hbw ((Ext.drew _).trans hE)
          simp only [putD, List.foldl_nil, List.foldl_cons, List.getD_cons_zero, List.getD_cons_succ, Act.put, List.setIfInBounds_toArray, List.set_cons_zero, List.set_cons_succ]
          refine OpGoal.plain ?_
          go_wp2_with fail
          exact ⟨rfl, Ext.refl _, rfl⟩
        case o2 => -- Op.fieldAddr 29 (Operand.tmp 1) 3
          intro xv W hE _
          simp only [putD, List.foldl_nil, List.getD_cons_zero, List.getD_cons_succ]
          refine OpGoal.plain ?_
          go_wp2_with fail
          exact ⟨rfl, Ext.refl _, rfl⟩
        case o3 => -- Op.load 27 (Operand.tmp 16)
          intro xv W hE hp
          have r2 : xv 2 = _ := hp.1
          clear hp
          have l6 : W.cell? ⟨w.heap.size + 2, 6, none⟩ = some v := (hE.old (p := ⟨w.heap.size + 2, 6, none⟩) hI.lt).trans q6
          have m6 : W.cell? ⟨w.heap.size, 6, none⟩ = some (.slice (some ⟨b, o, none⟩) e.l.length c) := (hE.old (p := ⟨w.heap.size, 6, none⟩) (show w.heap.size < wr.heap.size by omega)).trans q6b
          obtain ⟨y0, y1, y2, y3, y4, y5, y6⟩ := One.ext (w := wr) (b := b) (o := o + k * 7) (x := x) (A := A') (c := c') ⟨o0, o1, o2, o3, o4, o5, o6⟩ hbw ((Ext.drew _).trans hE)
          simp only [putD, List.foldl_nil, List.foldl_cons, List.getD_cons_zero, List.getD_cons_succ, Act.put, List.setIfInBounds_toArray, List.set_cons_zero, List.set_cons_succ]
          refine OpGoal.plain ?_
          go_wp2_with fail
          exact ⟨rfl, Ext.refl _, rfl⟩
        case o4 => -- Op.move (Operand.tmp 4)
          intro xv W hE _
          simp only [putD, List.foldl_nil, List.getD_cons_zero, List.getD_cons_succ]
          refine OpGoal.plain ?_
          go_wp2_with fail
          exact ⟨rfl, Ext.refl _, rfl⟩
        case o5 => -- Op.indexAddr 27 (Operand.tmp 17) (Operand.tmp 18)
          intro xv W hE hp
          have r3 : xv 3 = _ := hp.1
          have r4 : xv 4 = _ := hp.2.1
          clear hp
          simp only [putD, List.foldl_nil, List.foldl_cons, List.getD_cons_zero, List.getD_cons_succ, Act.put, List.setIfInBounds_toArray, List.set_cons_zero, List.set_cons_succ]
          refine OpGoal.plain ?_
          go_wp2_with fail
          exact ⟨rfl, Ext.refl _, rfl⟩
        case o6 => -- Op.load 29 (Operand.tmp 19)
          intro xv W hE hp
          have r5 : xv 5 = _ := hp.1
          clear hp
          have l6 : W.cell? ⟨w.heap.size + 2, 6, none⟩ = some v := (hE.old (p := ⟨w.heap.size + 2, 6, none⟩) hI.lt).trans q6
          have m6 : W.cell? ⟨w.heap.size, 6, none⟩ = some (.slice (some ⟨b, o, none⟩) e.l.length c) := (hE.old (p := ⟨w.heap.size, 6, none⟩) (show w.heap.size < wr.heap.size by omega)).trans q6b
          obtain ⟨y0, y1, y2, y3, y4, y5, y6⟩ := One.ext (w := wr) (b := b) (o := o + k * 7) (x := x) (A := A') (c := c') ⟨o0, o1, o2, o3, o4, o5, o6⟩ hbw ((Ext.drew _).trans hE)
          simp only [putD, List.foldl_nil, List.foldl_cons, List.getD_cons_zero, List.getD_cons_succ, Act.put, List.setIfInBounds_toArray, List.set_cons_zero, List.set_cons_succ]
          refine OpGoal.plain ?_
          go_wp2_with fail
          exact ⟨rfl, Ext.refl _, rfl⟩
        case o7 => -- Op.call { callee := Callee.value (Operand.func 35), args := #[Operand.tmp 20], a
          intro xv W hE hp
          have r6 : xv 6 = _ := hp.1
          clear hp
          simp only [putD, List.foldl_nil, List.foldl_cons, List.getD_cons_zero, List.getD_cons_succ, Act.put, List.setIfInBounds_toArray, List.set_cons_zero, List.set_cons_succ]
          refine OpGoal.plain ?_
          go_wp2_with fail
          refine (ihx x A' c' W (hX'.keep (fun b hb o => ((Ext.drew wr).trans hE).old (p := ⟨b, o, none⟩) (show b < wr.heap.size by omega)) |>.up (by have := ((Ext.drew wr).trans hE).sz; omega)) hsx).mono ?_
          rintro r w' ⟨A7, c7, rfl, hk7, hE7⟩
          go_wp2_with fail
          exact ⟨rfl, hE7, A7, c7, rfl, hk7.more fun b hb => ⟨Nat.le_trans ((Ext.drew wr).trans hE).sz hb.1, hb.2⟩⟩
        case o8 => -- Op.buildSlice 27 1 #[(0, Operand.tmp 21)]
          intro xv W hE hp
          obtain ⟨A7, c7, r7, hk7⟩ := hp.1
          clear hp
          simp only [putD, List.foldl_nil, List.foldl_cons, List.getD_cons_zero, List.getD_cons_succ, Act.put, List.setIfInBounds_toArray, List.set_cons_zero, List.set_cons_succ]
          refine OpGoal.plain ?_
          go_wp2_with fail
          exact ⟨rfl, Ext.alloc _ _, W.heap.size, A7, c7, rfl, ((Ext.drew wr).trans hE).sz, by simp, fun i u hi => by rw [World.cell?_alloc_new]; exact (by simpa [Ex.cells] using hi), (hk7.keep fun b hb o => (Ext.alloc W _).old (p := ⟨b, o, none⟩) hb.2).more fun b hb => ⟨hb.1, Nat.lt_of_lt_of_le hb.2 (Ext.alloc W _).sz⟩⟩
        case last =>
          intro xv W hE hp
          have r0 : xv 0 = _ := hp.1
          have r1 : xv 1 = _ := hp.2.1
          have r2 : xv 2 = _ := hp.2.2.1
          have r3 : xv 3 = _ := hp.2.2.2.1
          have r4 : xv 4 = _ := hp.2.2.2.2.1
          have r5 : xv 5 = _ := hp.2.2.2.2.2.1
          have r6 : xv 6 = _ := hp.2.2.2.2.2.2.1
          obtain ⟨A7, c7, r7, hk7⟩ := hp.2.2.2.2.2.2.2.1
          obtain ⟨g, A8, c8, r8, hg1, hg2, hcg, hk8⟩ := hp.2.2.2.2.2.2.2.2.1
          clear hp
          simp only [putD, List.foldl_nil, List.foldl_cons, List.getD_cons_zero, List.getD_cons_succ, Act.put, List.length_cons, List.length_nil, List.range_succ, List.range_zero, List.nil_append, List.cons_append, List.setIfInBounds_toArray, List.set_cons_zero, List.set_cons_succ]
          have hEw : Ext wr W := (Ext.drew wr).trans hE
          have hOW := hO.ext hEw
          have hKW : Kids W (SO (w.heap.size + 3) W v) d' us := (hKd.keep fun b hb o => hEw.old (p := ⟨b, o, none⟩) hb.2.1).more fun b hb => ⟨hb.1, Nat.lt_of_lt_of_le hb.2.1 hEw.sz, hb.2.2⟩
          have hIW := hI.ext hEw
          have hBW : Below (w.heap.size + 2) w3 W := Below.trans hB (hEw.below.mono (by omega))
          have hsW : wr.heap.size ≤ W.heap.size := hEw.sz
          have hvw : ∀ b, v.ownBlock = some b → w.heap.size + 3 ≤ b ∧ b < wr.heap.size := fun b e => hO.lt b e
          have hul4 : us.length < 4294967296 := by have := HUL.out; omega
          have r1' : xv 1 = v := r1
          rw [r8, r1']
          clear r0 r1 r2 r3 r4 r5 r6 r7 r8 r1' hO hI hKd hB hE q0 q1 q2 q3 q4 q5 q6 q6b o0 o1 o2 o3 o4 o5 o6 hk7 hK
          have hne2 : some (w.heap.size + 2) ≠ v.ownBlock := fun e => by have := (hvw _ e.symm).1; omega
          go_wp2_with (at_builtin; refine app_N rfl 15 22 rfl (w.heap.size + 3) v us rfl hOW g ⟨x, A8, c8⟩ rfl hcg hul4 (by omega) ?_; intro v1 wb hO1 hg1 hn1; obtain ⟨A1, c1, hv1, hf1⟩ := OwnN.form hO1; subst hv1; clear hf1; have hIb := InBlk.own hIW hg1 hne2; have hc6 := hIb.cells.2.2.2.2.2.2; have hf6 := hIb.free 6)
          go_roundw
          case rel =>
            have hlen1 : (us ++ [(⟨x, A8, c8⟩ : Nd)]).length = us.length + 1 := by simp
            rw [hlen1] at hO1
            have hlow1 : ∀ b, (Value.slice A1 (us.length + 1) c1).ownBlock = some b → w.heap.size + 3 ≤ b := fun b e => (hO1.lt b e).1
            refine ⟨k + 1, .slice A1 (us.length + 1) c1, us ++ [⟨x, A8, c8⟩], by omega, by go_num, by rw [List.map_append, HMAP.out, HSN.out]; rfl, ?_, ?_, hIb.set _, ?_, ?_⟩
            · refine hO1.keep (grown_set wb (w.heap.size + 2) 6 _) ?_
              cases hq : (Value.slice A1 (us.length + 1) c1).ownBlock with
              | none => exact .inl rfl
              | some b => exact .inr fun e => by have := hlow1 b hq; simp only [Option.some.injEq] at e; omega
            · rw [show d - 1 = d' by have := HD.out; omega]
              exact Kids.step hKW hk8 hwrN (fun b e => (hvw b e).2) hg1 (by simpa using hn1) (by omega)
            · have h1 : Below (w.heap.size + 2) W wb := below_row' hg1 (by omega) (fun b e => by have := (hvw b e).1; omega)
              exact Below.trans (Below.trans hBW h1) (below_row' (grown_set wb (w.heap.size + 2) 6 _) (by have := h1.size; omega) (fun b e => by simp only [Option.some.injEq] at e; omega))
            · have := hg1.size
              rw [show (wb.setCell ⟨w.heap.size + 1 + 1, 6, none⟩ (Value.slice A1 (us.length + 1) c1)).heap.size = wb.heap.size from set_size _ _ _]
              omega
          case measure => simp [intOf]; omega
      · have tn : decide (k < e.l.length) = false := by simp; omega
        have hz1 : wr.heap[w.heap.size + 1]? = some (.cells zero7 29 (0, 0)) := (hB.block _ (by omega)).trans hzero
        have fz : ∀ o, wr.frozen? ⟨w.heap.size + 1, o, none⟩ = false := fun o => by simp [World.frozen?, hz1]
        have zc : ∀ o, wr.cell? ⟨w.heap.size + 1, o, none⟩ = zero7[o]? := fun o => by simp [World.cell?, hz1]
        have z0 := zc 0
        have z1 := zc 1
        have z2 := zc 2
        have z3 := zc 3
        have z4 := zc 4
        have z5 := zc 5
        have z6 := zc 6
        have f0 := fz 0
        have f1 := fz 1
        have f2 := fz 2
        have f3 := fz 3
        have f4 := fz 4
        have f5 := fz 5
        have f6 := fz 6
        obtain ⟨A1, c1, hv1, _⟩ := OwnN.form hO
        rw [hul] at hv1
        subst hv1
        simp only [zero7] at z0 z1 z2 z3 z4 z5 z6
        clear fz zc
        go_wp2_with fail
        have hS := set7_size wr (w.heap.size + 1) e (.slice A1 k c1)
        have hG := set7_grown wr (w.heap.size + 1) e (.slice A1 k c1)
        have hIn := set7_in hz1 e (.slice A1 k c1)
        obtain ⟨hLs, _⟩ := OwnN.list (S := fun b => w.heap.size + 3 ≤ b ∧ b < wr.heap.size) hO (hK.more fun b hb => ⟨hb.1, hb.2.1⟩) (fun b h1 h2 => ⟨h1, h2⟩)
        have hke : k = e.l.length := by omega
        rw [hmap, hke, List.take_length] at hLs
        have hdep : ExL wr (fun b => w.heap.size + 3 ≤ b ∧ b < wr.heap.size) (d - 1 + 1) A1 e.l → ExL wr (fun b => w.heap.size + 3 ≤ b ∧ b < wr.heap.size) d A1 e.l := fun h => by
          by_cases h0 : d = 0
          · subst h0
            rw [show e.l = [] from hX]
            exact ExL.nil _ _ _ _
          · rw [show d = d - 1 + 1 by omega]; exact h
        have hLd := hdep hLs
        have HKE := Lib.hid hke
        show bodyPost _ _ _ _ _ (set7 wr (w.heap.size + 1) e (.slice A1 k c1))
        generalize set7 wr (w.heap.size + 1) e (.slice A1 k c1) = wf at hS hG hIn ⊢
        refine bodyPost_ret (v := .agg #[.int .i64 e.op, .int .i64 e.var, .int .i64 e.ty, .int .i64 e.n, .bool e.b, .string ⟨e.s.toArray⟩, .slice A1 k c1]) (results_blk rfl hIn _ rfl) rfl ⟨A1, c1, by rw [HKE.out], ?_, ?_⟩
        · refine (hLd.keep fun b hb o => grown_cell hG hb.2 (by simp; omega) o).more fun b hb => ⟨by omega, ?_⟩
          exact Nat.lt_of_lt_of_eq hb.2 hS.symm
        · exact Below.trans (Below.trans hE3 (hB.mono (by omega))) (below_row' hG (by omega) (by simp))
end Go.Proofs.YtggkkjnfonbpkaaGreatDoor
