/- The contract of the program's Meet. -/
import Derived.Test.YtompfgofaplffaaGreatDoorQOnce
set_option linter.unusedSimpArgs false
set_option linter.unusedVariables false
namespace Go.Proofs.YtompfgofaplffaaGreatDoor
open Go.RowKit Hach

/-- A point in a box. -/
def Bx (W : World) (g : Nat) (p : Pt) : Prop := W.heap[g]? = some (.cells #[.int .i64 p.x, .int .i64 p.y] 73 (0, 0))
theorem Bx.ext {w w' : World} {g : Nat} {p : Pt} (h : Bx w g p) (hE : Ext w w') : Bx w' g p := blk_ext h hE
theorem Bx.cells {w : World} {g : Nat} {p : Pt} (h : Bx w g p) : w.cell? ⟨g, 0, none⟩ = some (.int .i64 p.x) ∧ w.cell? ⟨g, 1, none⟩ = some (.int .i64 p.y) ∧ ∀ i, w.frozen? ⟨g, i, none⟩ = false :=
  ⟨cells_of h 0 _ rfl, cells_of h 1 _ rfl, blk_free h⟩
theorem Bx.new {w : World} {p : Pt} : Bx (w.alloc (.cells #[.int .i64 p.x, .int .i64 p.y] 73)) w.heap.size p := Go.heap_alloc_new _ _
theorem Bx.lt {w : World} {g : Nat} {p : Pt} (h : Bx w g p) : g < w.heap.size := (Array.getElem?_eq_some_iff.1 h).1
theorem Bx.stay {w : World} {g : Nat} {p : Pt} (h : Bx w g p) {g' i : Nat} (hne : g ≠ g') (v : Value) : Bx (w.setCell ⟨g', i, none⟩ v) g p := by
  unfold Bx; rw [heap_setCell_other _ _ _ _ hne]; exact h
theorem Bx.put {w : World} {g : Nat} {p : Pt} (h : Bx w g p) (q : Pt) : Bx ((w.setCell ⟨g, 0, none⟩ (.int .i64 q.x)).setCell ⟨g, 1, none⟩ (.int .i64 q.y)) g q :=
  heap_setCell_same _ g 1 _ _ _ (heap_setCell_same w g 0 _ _ _ h)
theorem Bx.drew {w : World} {g : Nat} {p : Pt} (h : Bx w g p) : Bx w.drew g p := h
/-- Four points in boxes. -/
def P4 (W : World) (k : Nat) (a b c d : Pt) : Prop := Bx W k a ∧ Bx W (k + 1) b ∧ Bx W (k + 1 + 1) c ∧ Bx W (k + 1 + 1 + 1) d
theorem P4.ext {w w' : World} {k : Nat} {a b c d : Pt} (h : P4 w k a b c d) (hE : Ext w w') : P4 w' k a b c d := ⟨h.1.ext hE, h.2.1.ext hE, h.2.2.1.ext hE, h.2.2.2.ext hE⟩
theorem four_pts (w : World) (a b c d : Pt) : ∃ w3, ((((w.alloc (.cells #[.int .i64 a.x, .int .i64 a.y] 73)).alloc (.cells #[.int .i64 b.x, .int .i64 b.y] 73)).alloc (.cells #[.int .i64 c.x, .int .i64 c.y] 73)).alloc (.cells #[.int .i64 d.x, .int .i64 d.y] 73)) = w3 ∧ Ext w w3 ∧ P4 w3 w.heap.size a b c d := by
  obtain ⟨w3, hw, hE0, hC⟩ := boxes w [.cells #[.int .i64 a.x, .int .i64 a.y] 73, .cells #[.int .i64 b.x, .int .i64 b.y] 73, .cells #[.int .i64 c.x, .int .i64 c.y] 73, .cells #[.int .i64 d.x, .int .i64 d.y] 73]
  exact ⟨w3, hw, hE0, hC w3 (Ext.refl w3) 0 _ rfl, hC w3 (Ext.refl w3) 1 _ rfl, hC w3 (Ext.refl w3) 2 _ rfl, hC w3 (Ext.refl w3) 3 _ rfl⟩
theorem side_small (a b c : Pt) : -1 ≤ side a b c ∧ side a b c ≤ 1 := by
  unfold side
  split
  · unfold sgI
    rcases Int.sign_trichotomy ((b.x - a.x) * (c.y - a.y) - (b.y - a.y) * (c.x - a.x)) with h | h | h <;> rw [h] <;> decide
  · decide
theorem mul_side {a b c d e f : Pt} : wrap64 (side a b c * side d e f) = side a b c * side d e f := wrap_small (mul_small (side_small a b c) (side_small d e f))
theorem meet_not {a b c d : Pt} (h : (bnd a && bnd b && bnd c && bnd d) = false) : meet a b c d = 0 := by unfold meet; rw [h]; rfl
theorem meet_skew {a b c d : Pt} (hb : (bnd a && bnd b && bnd c && bnd d) = true) (h : ¬ (side a b c = 0 ∧ side a b d = 0 ∧ side c d a = 0 ∧ side c d b = 0)) :
    meet a b c d = (if (decide (0 < side a b c * side a b d) || decide (0 < side c d a * side c d b)) = true then 0 else 1) ∧ (a = b → decide (0 < side c d a * side c d b) = true) ∧ (c = d → decide (0 < side a b c * side a b d) = true) := by
  refine ⟨?_, ?_, ?_⟩
  · unfold meet; rw [hb, if_pos rfl, if_neg h]; simp
  · rintro rfl
    simp only [decide_eq_true_eq]
    exact meet_dead fun g => h ⟨side_same a c, side_same a d, g.2.2, g.2.2⟩
  · rintro rfl
    simp only [decide_eq_true_eq]
    exact meet_dead (a := c) (c := a) (d := b) fun g => h ⟨g.2.2, g.2.2, side_same c a, side_same c b⟩
theorem four_new {w W : World} {a b c d : Pt} {T : TypeId} (hE : Ext (w.alloc (.cells #[.int .i64 a.x, .int .i64 a.y, .int .i64 b.x, .int .i64 b.y, .int .i64 c.x, .int .i64 c.y, .int .i64 d.x, .int .i64 d.y] T)) W) (j : Nat) (hj : j < 4) :
    ∃ g o, some (⟨w.heap.size, 0, none⟩ : Addr) = some ⟨g, o, none⟩ ∧ W.rangeAt g (o + j * 2) [.int .i64 (gp [a, b, c, d] j).x, .int .i64 (gp [a, b, c, d] j).y] := by
  have hc := fun i v h => cell_ext hE (cells_of (Go.heap_alloc_new w (.cells #[.int .i64 a.x, .int .i64 a.y, .int .i64 b.x, .int .i64 b.y, .int .i64 c.x, .int .i64 c.y, .int .i64 d.x, .int .i64 d.y] T)) i v h)
  refine ⟨_, _, rfl, fun i v hv => ?_⟩
  match j, hj, i, hv with
  | 0, _, 0, hv => cases hv; exact hc 0 _ rfl
  | 0, _, 1, hv => cases hv; exact hc 1 _ rfl
  | 1, _, 0, hv => cases hv; exact hc 2 _ rfl
  | 1, _, 1, hv => cases hv; exact hc 3 _ rfl
  | 2, _, 0, hv => cases hv; exact hc 4 _ rfl
  | 2, _, 1, hv => cases hv; exact hc 5 _ rfl
  | 3, _, 0, hv => cases hv; exact hc 6 _ rfl
  | 3, _, 1, hv => cases hv; exact hc 7 _ rfl
theorem bounded4_any (a b c d : Pt) (w : World) (g : Nat) (hg : w.heap.size = g) :
    Calls Tryz.prog 228 #[.slice (some ⟨g, 0, none⟩) 4 4] (w.alloc (.cells #[.int .i64 a.x, .int .i64 a.y, .int .i64 b.x, .int .i64 b.y, .int .i64 c.x, .int .i64 c.y, .int .i64 d.x, .int .i64 d.y] 73)) fun e w' => e = .returned (.bool (bnd a && bnd b && bnd c && bnd d)) ∧ Ext (w.alloc (.cells #[.int .i64 a.x, .int .i64 a.y, .int .i64 b.x, .int .i64 b.y, .int .i64 c.x, .int .i64 c.y, .int .i64 d.x, .int .i64 d.y] 73)) w' := by
  subst hg
  rw [show (bnd a && bnd b && bnd c && bnd d) = [a, b, c, d].all bnd by simp [Bool.and_assoc]]
  exact bounded_any [a, b, c, d] _ 4 _ (by simp) (fun W h j hj => four_new h j hj)
theorem arr_neq (s t u v : Int) (w : World) : (binOp .neq 266 (.agg #[.int .i64 s, .int .i64 t]) (.agg #[.int .i64 u, .int .i64 v])).run Tryz.prog w = .ok (.bool (!(decide (s = u) && decide (t = v)))) w := by
  have he : ∀ (k : Nat) (a b : Int), (Op.equalIn (k + 1) 3 (.int .i64 a) (.int .i64 b)).run Tryz.prog w = .ok (a == b) w := fun k a b => run_equalIn_int w k _ _ _ a b Tryz.underlying3
  have hr : List.range' 0 2 = [0, 1] := rfl
  have h1 : (Op.equalIn 10000 266 (.agg #[.int .i64 s, .int .i64 t]) (.agg #[.int .i64 u, .int .i64 v])).run Tryz.prog w = .ok (decide (s = u) && decide (t = v)) w := by
    unfold Op.equalIn
    simp [run_underlying Tryz.underlying266, hr, part, he, Tryz.sizeOf3, Tryz.isAgg3]
    (repeat' split) <;> simp [*]
  go_simp
theorem ari_info : (Tryz.prog.info? 266).map (·.size) = some 2 := by kernel_rfl
theorem two_one {s t : Int} : ∀ v ∈ [Value.int .i64 s, .int .i64 t], v.oneCell' = true := fun v hv => by
  simp only [List.mem_cons, List.not_mem_nil, or_false] at hv
  rcases hv with rfl | rfl <;> rfl
theorem two_of {w : World} {g : Nat} {T : TypeId} {x y z u : Value} (h : w.heap[g]? = some (.cells #[x, y] T (0, 0)) ∨ w.heap[g]? = some (.cells #[z, u] T (0, 0))) : ∃ C : List Value, w.heap[g]? = some (.cells C.toArray T (0, 0)) ∧ C.length = 2 := by
  rcases h with h | h
  · exact ⟨_, h, rfl⟩
  · exact ⟨_, h, rfl⟩
def slP2 (p q : Pt) : SP := ⟨fun v W => ∃ g, v = .slice (some ⟨g, 0, none⟩) 2 2 ∧ W.cell? ⟨g, 0, none⟩ = some (.int .i64 p.x) ∧ W.cell? ⟨g, 1, none⟩ = some (.int .i64 p.y) ∧ W.cell? ⟨g, 2, none⟩ = some (.int .i64 q.x) ∧ W.cell? ⟨g, 3, none⟩ = some (.int .i64 q.y), fun h hE => by
  obtain ⟨g, e, h0, h1, h2, h3⟩ := h
  exact ⟨g, e, cell_ext hE h0, cell_ext hE h1, cell_ext hE h2, cell_ext hE h3⟩⟩
def nwB (B : Nat) (T : TypeId) (Z : Array Value) : SP := ⟨fun v W => ∃ g, v = .pointer (some ⟨g, 0, none⟩) ∧ B ≤ g ∧ W.heap[g]? = some (.cells Z T (0, 0)), fun h hE => by
  obtain ⟨g, e, hb, h1⟩ := h
  exact ⟨g, e, hb, blk_ext h1 hE⟩⟩
theorem grown_cellE {w w' : World} {r : Nat} (h : w.grownBy w' (some r)) {g i : Nat} {v : Value} (hc : w.cell? ⟨g, i, none⟩ = some v) (hne : g ≠ r) : w'.cell? ⟨g, i, none⟩ = some v := by
  have hlt : g < w.heap.size := by
    rcases Nat.lt_or_ge g w.heap.size with h | h
    · exact h
    · simp [World.cell?, Array.getElem?_eq_none h] at hc
  exact (World.cell?_of_block (a := ⟨g, i, none⟩) (h.block g hlt (by simpa using hne))).trans hc
theorem cmp2_three (a b : Pt) : cmp2 a b = -1 ∧ lt2 a b = true ∨ cmp2 a b = 0 ∧ a = b ∨ cmp2 a b = 1 ∧ lt2 b a = true := by
  have h1 := cmp2_lt a b
  unfold cmp2 orI cmpI
  obtain ⟨ax, ay⟩ := a
  obtain ⟨bx, b2⟩ := b
  simp only [lt2, Pt.mk.injEq, Bool.or_eq_true, Bool.and_eq_true, decide_eq_true_eq]
  by_cases h1 : ax < bx
  · left; simp [h1]
  · by_cases h2 : bx < ax
    · right; right; simp [h1, h2]
    · have e : ax = bx := by omega
      by_cases h3 : ay < b2
      · left; simp [e, h3]
      · by_cases h4 : b2 < ay
        · right; right; simp [e, h3, h4]
        · right; left; simp [e, h3, h4]; omega
def zAr : Array Value := #[.int .i64 0, .int .i64 0]
def xAr (s t : Int) : Array Value := #[.int .i64 s, .int .i64 t]
/-- Four points in boxes, and in a slice behind them. -/
theorem meet_pre (a b c d : Pt) (w : World) : ∃ w3, ((((w.alloc (.cells #[.int .i64 a.x, .int .i64 a.y] 73)).alloc (.cells #[.int .i64 b.x, .int .i64 b.y] 73)).alloc (.cells #[.int .i64 c.x, .int .i64 c.y] 73)).alloc (.cells #[.int .i64 d.x, .int .i64 d.y] 73)) = w3 ∧ Ext w w3 ∧ P4 w3 w.heap.size a b c d ∧
    Calls Tryz.prog 228 #[.slice (some ⟨w.heap.size + 1 + 1 + 1 + 1, 0, none⟩) 4 4] (w3.alloc (.cells #[.int .i64 a.x, .int .i64 a.y, .int .i64 b.x, .int .i64 b.y, .int .i64 c.x, .int .i64 c.y, .int .i64 d.x, .int .i64 d.y] 73)) fun e w' => e = .returned (.bool (bnd a && bnd b && bnd c && bnd d)) ∧ Ext w3 w' := by
  obtain ⟨w3, hw, hE0, hP⟩ := four_pts w a b c d
  have hsz : w3.heap.size = w.heap.size + 1 + 1 + 1 + 1 := by rw [← hw]; simp
  refine ⟨w3, hw, hE0, hP, (bounded4_any a b c d w3 _ hsz).mono ?_⟩
  rintro e w' ⟨rfl, hE⟩
  exact ⟨rfl, Ext.trans (Ext.alloc _ _) hE⟩
set_option maxHeartbeats 2000000 in
theorem meetp_not (a b c d : Pt) (h : (bnd a && bnd b && bnd c && bnd d) = false) (w : World) : Calls Tryz.prog 177 #[.agg #[.int .i64 a.x, .int .i64 a.y], .agg #[.int .i64 b.x, .int .i64 b.y], .agg #[.int .i64 c.x, .int .i64 c.y], .agg #[.int .i64 d.x, .int .i64 d.y]] w
    fun e w' => e = .returned (.int .i64 (meet a b c d)) ∧ Ext w w' := by
  rw [meet_not h]
  obtain ⟨w3, hw, hE0, hP, hB⟩ := meet_pre a b c d w
  rw [h] at hB
  have HB := Lib.hid hB
  have HW := Lib.hid hw
  have HE := Lib.hid hE0
  clear hw hE0 hB h hP
  go_enter Tryz.func177, Tryz.ntmps177
  go_wp2_with fail
  rw [HW.out]
  refine HB.out.mono ?_
  rintro e V ⟨rfl, hE⟩
  go_wp2_with fail
  go_ret
  exact ⟨rfl, Ext.trans HE.out hE⟩
set_option maxHeartbeats 4000000 in
theorem meetp_yes (a b c d : Pt) (h : (bnd a && bnd b && bnd c && bnd d) = true) (w : World) : Calls Tryz.prog 177 #[.agg #[.int .i64 a.x, .int .i64 a.y], .agg #[.int .i64 b.x, .int .i64 b.y], .agg #[.int .i64 c.x, .int .i64 c.y], .agg #[.int .i64 d.x, .int .i64 d.y]] w
    fun e w' => e = .returned (.int .i64 (meet a b c d)) ∧ Ext w w' := by
  have m12 := mul_side (a := a) (b := b) (c := c) (d := a) (e := b) (f := d)
  have m34 := mul_side (a := c) (b := d) (c := a) (d := c) (e := d) (f := b)
  have hsk := meet_skew (a := a) (b := b) (c := c) (d := d) h
  have hcl : side a b c = 0 ∧ side a b d = 0 ∧ side c d a = 0 ∧ side c d b = 0 → meet a b c d = if lt2 (lo2 (hi2 a b) (hi2 c d)) (hi2 (lo2 a b) (lo2 c d)) then 0 else if lo2 (hi2 a b) (hi2 c d) = hi2 (lo2 a b) (lo2 c d) then 1 else 2 := fun hh => by
    unfold meet; rw [if_pos h, if_pos hh]
  obtain ⟨w3, hw, hE0, hP, hB⟩ := meet_pre a b c d w
  rw [h] at hB
  have HB := Lib.hid hB
  have HW := Lib.hid hw
  have HE := Lib.hid hE0
  have HP := Lib.hid hP
  have HS := Lib.hid side_any
  have HK := Lib.hid hsk
  have HL := Lib.hid hcl
  clear hw hE0 hB h hP hsk hcl
  generalize meet a b c d = R at *
  generalize g1 : side a b c = s1 at *
  generalize g2 : side a b d = s2 at *
  generalize g3 : side c d a = s3 at *
  generalize g4 : side c d b = s4 at *
  have HS1 := Lib.hid g1
  have HS2 := Lib.hid g2
  have HS3 := Lib.hid g3
  have HS4 := Lib.hid g4
  have HM1 := Lib.hid m12
  have HM2 := Lib.hid m34
  clear g1 g2 g3 g4 m12 m34
  go_enter Tryz.func177, Tryz.ntmps177
  go_wp2_with fail
  rw [HW.out]
  refine HB.out.mono ?_
  rintro e V ⟨rfl, hE⟩
  have HP := Lib.hid (HP.out.ext hE)
  have HE := Lib.hid (Ext.trans HE.out hE)
  clear hE HB HW
  generalize w.heap.size = k at *
  obtain ⟨⟨a0, a1, _⟩, ⟨b0, b1, _⟩, ⟨c0, c1, _⟩, d0, d1, _⟩ : _ ∧ _ ∧ _ ∧ _ := ⟨HP.out.1.cells, HP.out.2.1.cells, HP.out.2.2.1.cells, HP.out.2.2.2.cells⟩
  go_wp2_with fail
  clear a0 a1 b0 b1 c0 c1 d0 d1
  have HX := Lib.hid (fun (W : World) (h : OnceS V.heap.size 266 zAr (xAr s1 s2) V.drew W) => (Ext.trans (Ext.drew V) (show Ext V.drew W from h.1) : Ext V W))
  have HSZ := Lib.hid (fun (W : World) (h : OnceS V.heap.size 266 zAr (xAr s1 s2) V.drew W) => (show V.heap.size ≤ W.heap.size from h.1.size))
  apply wp_region_new (E := OnceS V.heap.size 266 zAr (xAr s1 s2)) [18, 19] (fun h => OnceS.sz h) (OnceS.refl V.heap.size 266 zAr (xAr s1 s2)) (@OnceS.trans V.heap.size 266 zAr (xAr s1 s2)) (l := [_, _, _, _, _, _, _, _, _, _, _, _, _, _, _, _, _, _, _, _, _]) (t := [_]) [some 22, some 23, some 24, some 25, some 26, some 27, some 28, some 29, some 30, some 31, some 32, some 33, some 34, some 35, some 36, some 37, some 38, some 39, some 9, some 10, none, none] [[], [], [], [0, 1, 2], [], [], [], [4, 5, 6], [3, 7], [], [], [], [9, 10, 11], [], [], [], [13, 14, 15], [12, 16], [], [], [8, 18], [17, 19]] [21, 21, 21, 21, 21, 21, 21, 21, 21, 21, 21, 21, 21, 21, 21, 21, 21, 21, 21, 21, 21] [eql _, eql _, eql _, (eql (.int .i64 s1)), eql _, eql _, eql _, (eql (.int .i64 s2)), (eql (.agg #[.int .i64 s1, .int .i64 s2])), eql _, eql _, eql _, (eql (.int .i64 s3)), eql _, eql _, eql _, (eql (.int .i64 s4)), (eql (.agg #[.int .i64 s3, .int .i64 s4])), (newL V.heap.size 266 zAr (xAr s1 s2)), (newL V.heap.size 266 zAr (xAr s1 s2)), (putL V.heap.size 266 zAr (xAr s1 s2) 18)] (by kernel_rfl) (by kernel_rfl) (by kernel_rfl) ⟨?o0, ?o1, ?o2, ?o3, ?o4, ?o5, ?o6, ?o7, ?o8, ?o9, ?o10, ?o11, ?o12, ?o13, ?o14, ?o15, ?o16, ?o17, ?o18, ?o19, ?o20, trivial⟩ ?last
  case o0 => -- Op.load 73 (Operand.tmp 4)
    intro xv W hE _
    obtain ⟨⟨a0, a1, _⟩, ⟨b0, b1, _⟩, ⟨c0, c1, _⟩, d0, d1, _⟩ : _ ∧ _ ∧ _ ∧ _ := ⟨(HP.out.ext (HX.out W hE)).1.cells, (HP.out.ext (HX.out W hE)).2.1.cells, (HP.out.ext (HX.out W hE)).2.2.1.cells, (HP.out.ext (HX.out W hE)).2.2.2.cells⟩
    simp only [putD, List.foldl_nil, List.getD_cons_zero]
    refine OpGoal.plain ?_
    go_wp2_with fail
    exact ⟨rfl, (OnceS.refl V.heap.size 266 zAr (xAr s1 s2)) _, rfl⟩
  case o1 => -- Op.load 73 (Operand.tmp 5)
    intro xv W hE _
    obtain ⟨⟨a0, a1, _⟩, ⟨b0, b1, _⟩, ⟨c0, c1, _⟩, d0, d1, _⟩ : _ ∧ _ ∧ _ ∧ _ := ⟨(HP.out.ext (HX.out W hE)).1.cells, (HP.out.ext (HX.out W hE)).2.1.cells, (HP.out.ext (HX.out W hE)).2.2.1.cells, (HP.out.ext (HX.out W hE)).2.2.2.cells⟩
    simp only [putD, List.foldl_nil, List.getD_cons_zero, List.getD_cons_succ]
    refine OpGoal.plain ?_
    go_wp2_with fail
    exact ⟨rfl, (OnceS.refl V.heap.size 266 zAr (xAr s1 s2)) _, rfl⟩
  case o2 => -- Op.load 73 (Operand.tmp 6)
    intro xv W hE _
    obtain ⟨⟨a0, a1, _⟩, ⟨b0, b1, _⟩, ⟨c0, c1, _⟩, d0, d1, _⟩ : _ ∧ _ ∧ _ ∧ _ := ⟨(HP.out.ext (HX.out W hE)).1.cells, (HP.out.ext (HX.out W hE)).2.1.cells, (HP.out.ext (HX.out W hE)).2.2.1.cells, (HP.out.ext (HX.out W hE)).2.2.2.cells⟩
    simp only [putD, List.foldl_nil, List.getD_cons_zero, List.getD_cons_succ]
    refine OpGoal.plain ?_
    go_wp2_with fail
    exact ⟨rfl, (OnceS.refl V.heap.size 266 zAr (xAr s1 s2)) _, rfl⟩
  case o3 => -- Op.call { callee := Callee.value (Operand.func 229), args := #[Operand.tmp 22, O
    intro xv W hE hp
    have r0 : xv 0 = _ := hp.1
    have r1 : xv 1 = _ := hp.2.1
    have r2 : xv 2 = _ := hp.2.2.1
    clear hp
    simp only [putD, List.foldl_nil, List.foldl_cons, List.getD_cons_zero, List.getD_cons_succ, Act.put, List.setIfInBounds_toArray, List.set_cons_zero, List.set_cons_succ]
    refine OpGoal.plain ?_
    go_wp2_with fail
    refine (HS.out _ _ _ W).mono ?_
    rintro e w' ⟨rfl, hE'⟩
    simp only [HS1.out]
    go_wp2_with fail
    exact ⟨rfl, ⟨OnceS.ext hE' (HSZ.out W hE), rfl⟩, fun h => absurd h (by decide)⟩
  case o4 => -- Op.load 73 (Operand.tmp 4)
    intro xv W hE _
    obtain ⟨⟨a0, a1, _⟩, ⟨b0, b1, _⟩, ⟨c0, c1, _⟩, d0, d1, _⟩ : _ ∧ _ ∧ _ ∧ _ := ⟨(HP.out.ext (HX.out W hE)).1.cells, (HP.out.ext (HX.out W hE)).2.1.cells, (HP.out.ext (HX.out W hE)).2.2.1.cells, (HP.out.ext (HX.out W hE)).2.2.2.cells⟩
    simp only [putD, List.foldl_nil, List.getD_cons_zero, List.getD_cons_succ]
    refine OpGoal.plain ?_
    go_wp2_with fail
    exact ⟨rfl, (OnceS.refl V.heap.size 266 zAr (xAr s1 s2)) _, rfl⟩
  case o5 => -- Op.load 73 (Operand.tmp 5)
    intro xv W hE _
    obtain ⟨⟨a0, a1, _⟩, ⟨b0, b1, _⟩, ⟨c0, c1, _⟩, d0, d1, _⟩ : _ ∧ _ ∧ _ ∧ _ := ⟨(HP.out.ext (HX.out W hE)).1.cells, (HP.out.ext (HX.out W hE)).2.1.cells, (HP.out.ext (HX.out W hE)).2.2.1.cells, (HP.out.ext (HX.out W hE)).2.2.2.cells⟩
    simp only [putD, List.foldl_nil, List.getD_cons_zero, List.getD_cons_succ]
    refine OpGoal.plain ?_
    go_wp2_with fail
    exact ⟨rfl, (OnceS.refl V.heap.size 266 zAr (xAr s1 s2)) _, rfl⟩
  case o6 => -- Op.load 73 (Operand.tmp 7)
    intro xv W hE _
    obtain ⟨⟨a0, a1, _⟩, ⟨b0, b1, _⟩, ⟨c0, c1, _⟩, d0, d1, _⟩ : _ ∧ _ ∧ _ ∧ _ := ⟨(HP.out.ext (HX.out W hE)).1.cells, (HP.out.ext (HX.out W hE)).2.1.cells, (HP.out.ext (HX.out W hE)).2.2.1.cells, (HP.out.ext (HX.out W hE)).2.2.2.cells⟩
    simp only [putD, List.foldl_nil, List.getD_cons_zero, List.getD_cons_succ]
    refine OpGoal.plain ?_
    go_wp2_with fail
    exact ⟨rfl, (OnceS.refl V.heap.size 266 zAr (xAr s1 s2)) _, rfl⟩
  case o7 => -- Op.call { callee := Callee.value (Operand.func 229), args := #[Operand.tmp 26, O
    intro xv W hE hp
    have r4 : xv 4 = _ := hp.1
    have r5 : xv 5 = _ := hp.2.1
    have r6 : xv 6 = _ := hp.2.2.1
    clear hp
    simp only [putD, List.foldl_nil, List.foldl_cons, List.getD_cons_zero, List.getD_cons_succ, Act.put, List.setIfInBounds_toArray, List.set_cons_zero, List.set_cons_succ]
    refine OpGoal.plain ?_
    go_wp2_with fail
    refine (HS.out _ _ _ W).mono ?_
    rintro e w' ⟨rfl, hE'⟩
    simp only [HS2.out]
    go_wp2_with fail
    exact ⟨rfl, ⟨OnceS.ext hE' (HSZ.out W hE), rfl⟩, fun h => absurd h (by decide)⟩
  case o8 => -- Op.build 266 #[(0, Operand.tmp 25), (1, Operand.tmp 29)]
    intro xv W hE hp
    have r3 : xv 3 = _ := hp.1
    have r7 : xv 7 = _ := hp.2.1
    clear hp
    simp only [putD, List.foldl_nil, List.foldl_cons, List.getD_cons_zero, List.getD_cons_succ, Act.put, List.setIfInBounds_toArray, List.set_cons_zero, List.set_cons_succ]
    refine OpGoal.plain ?_
    go_wp2_with fail
    exact ⟨rfl, OnceS.refl V.heap.size 266 zAr (xAr s1 s2) _, rfl⟩
  case o9 => -- Op.load 73 (Operand.tmp 6)
    intro xv W hE _
    obtain ⟨⟨a0, a1, _⟩, ⟨b0, b1, _⟩, ⟨c0, c1, _⟩, d0, d1, _⟩ : _ ∧ _ ∧ _ ∧ _ := ⟨(HP.out.ext (HX.out W hE)).1.cells, (HP.out.ext (HX.out W hE)).2.1.cells, (HP.out.ext (HX.out W hE)).2.2.1.cells, (HP.out.ext (HX.out W hE)).2.2.2.cells⟩
    simp only [putD, List.foldl_nil, List.getD_cons_zero, List.getD_cons_succ]
    refine OpGoal.plain ?_
    go_wp2_with fail
    exact ⟨rfl, (OnceS.refl V.heap.size 266 zAr (xAr s1 s2)) _, rfl⟩
  case o10 => -- Op.load 73 (Operand.tmp 7)
    intro xv W hE _
    obtain ⟨⟨a0, a1, _⟩, ⟨b0, b1, _⟩, ⟨c0, c1, _⟩, d0, d1, _⟩ : _ ∧ _ ∧ _ ∧ _ := ⟨(HP.out.ext (HX.out W hE)).1.cells, (HP.out.ext (HX.out W hE)).2.1.cells, (HP.out.ext (HX.out W hE)).2.2.1.cells, (HP.out.ext (HX.out W hE)).2.2.2.cells⟩
    simp only [putD, List.foldl_nil, List.getD_cons_zero, List.getD_cons_succ]
    refine OpGoal.plain ?_
    go_wp2_with fail
    exact ⟨rfl, (OnceS.refl V.heap.size 266 zAr (xAr s1 s2)) _, rfl⟩
  case o11 => -- Op.load 73 (Operand.tmp 4)
    intro xv W hE _
    obtain ⟨⟨a0, a1, _⟩, ⟨b0, b1, _⟩, ⟨c0, c1, _⟩, d0, d1, _⟩ : _ ∧ _ ∧ _ ∧ _ := ⟨(HP.out.ext (HX.out W hE)).1.cells, (HP.out.ext (HX.out W hE)).2.1.cells, (HP.out.ext (HX.out W hE)).2.2.1.cells, (HP.out.ext (HX.out W hE)).2.2.2.cells⟩
    simp only [putD, List.foldl_nil, List.getD_cons_zero, List.getD_cons_succ]
    refine OpGoal.plain ?_
    go_wp2_with fail
    exact ⟨rfl, (OnceS.refl V.heap.size 266 zAr (xAr s1 s2)) _, rfl⟩
  case o12 => -- Op.call { callee := Callee.value (Operand.func 229), args := #[Operand.tmp 31, O
    intro xv W hE hp
    have r9 : xv 9 = _ := hp.1
    have r10 : xv 10 = _ := hp.2.1
    have r11 : xv 11 = _ := hp.2.2.1
    clear hp
    simp only [putD, List.foldl_nil, List.foldl_cons, List.getD_cons_zero, List.getD_cons_succ, Act.put, List.setIfInBounds_toArray, List.set_cons_zero, List.set_cons_succ]
    refine OpGoal.plain ?_
    go_wp2_with fail
    refine (HS.out _ _ _ W).mono ?_
    rintro e w' ⟨rfl, hE'⟩
    simp only [HS3.out]
    go_wp2_with fail
    exact ⟨rfl, ⟨OnceS.ext hE' (HSZ.out W hE), rfl⟩, fun h => absurd h (by decide)⟩
  case o13 => -- Op.load 73 (Operand.tmp 6)
    intro xv W hE _
    obtain ⟨⟨a0, a1, _⟩, ⟨b0, b1, _⟩, ⟨c0, c1, _⟩, d0, d1, _⟩ : _ ∧ _ ∧ _ ∧ _ := ⟨(HP.out.ext (HX.out W hE)).1.cells, (HP.out.ext (HX.out W hE)).2.1.cells, (HP.out.ext (HX.out W hE)).2.2.1.cells, (HP.out.ext (HX.out W hE)).2.2.2.cells⟩
    simp only [putD, List.foldl_nil, List.getD_cons_zero, List.getD_cons_succ]
    refine OpGoal.plain ?_
    go_wp2_with fail
    exact ⟨rfl, (OnceS.refl V.heap.size 266 zAr (xAr s1 s2)) _, rfl⟩
  case o14 => -- Op.load 73 (Operand.tmp 7)
    intro xv W hE _
    obtain ⟨⟨a0, a1, _⟩, ⟨b0, b1, _⟩, ⟨c0, c1, _⟩, d0, d1, _⟩ : _ ∧ _ ∧ _ ∧ _ := ⟨(HP.out.ext (HX.out W hE)).1.cells, (HP.out.ext (HX.out W hE)).2.1.cells, (HP.out.ext (HX.out W hE)).2.2.1.cells, (HP.out.ext (HX.out W hE)).2.2.2.cells⟩
    simp only [putD, List.foldl_nil, List.getD_cons_zero, List.getD_cons_succ]
    refine OpGoal.plain ?_
    go_wp2_with fail
    exact ⟨rfl, (OnceS.refl V.heap.size 266 zAr (xAr s1 s2)) _, rfl⟩
  case o15 => -- Op.load 73 (Operand.tmp 5)
    intro xv W hE _
    obtain ⟨⟨a0, a1, _⟩, ⟨b0, b1, _⟩, ⟨c0, c1, _⟩, d0, d1, _⟩ : _ ∧ _ ∧ _ ∧ _ := ⟨(HP.out.ext (HX.out W hE)).1.cells, (HP.out.ext (HX.out W hE)).2.1.cells, (HP.out.ext (HX.out W hE)).2.2.1.cells, (HP.out.ext (HX.out W hE)).2.2.2.cells⟩
    simp only [putD, List.foldl_nil, List.getD_cons_zero, List.getD_cons_succ]
    refine OpGoal.plain ?_
    go_wp2_with fail
    exact ⟨rfl, (OnceS.refl V.heap.size 266 zAr (xAr s1 s2)) _, rfl⟩
  case o16 => -- Op.call { callee := Callee.value (Operand.func 229), args := #[Operand.tmp 35, O
    intro xv W hE hp
    have r13 : xv 13 = _ := hp.1
    have r14 : xv 14 = _ := hp.2.1
    have r15 : xv 15 = _ := hp.2.2.1
    clear hp
    simp only [putD, List.foldl_nil, List.foldl_cons, List.getD_cons_zero, List.getD_cons_succ, Act.put, List.setIfInBounds_toArray, List.set_cons_zero, List.set_cons_succ]
    refine OpGoal.plain ?_
    go_wp2_with fail
    refine (HS.out _ _ _ W).mono ?_
    rintro e w' ⟨rfl, hE'⟩
    simp only [HS4.out]
    go_wp2_with fail
    exact ⟨rfl, ⟨OnceS.ext hE' (HSZ.out W hE), rfl⟩, fun h => absurd h (by decide)⟩
  case o17 => -- Op.build 266 #[(0, Operand.tmp 34), (1, Operand.tmp 38)]
    intro xv W hE hp
    have r12 : xv 12 = _ := hp.1
    have r16 : xv 16 = _ := hp.2.1
    clear hp
    simp only [putD, List.foldl_nil, List.foldl_cons, List.getD_cons_zero, List.getD_cons_succ, Act.put, List.setIfInBounds_toArray, List.set_cons_zero, List.set_cons_succ]
    refine OpGoal.plain ?_
    go_wp2_with fail
    exact ⟨rfl, OnceS.refl V.heap.size 266 zAr (xAr s1 s2) _, rfl⟩
  case o18 => -- Op.alloc 266
    intro xv W hE _
    simp only [putD, List.foldl_nil, List.getD_cons_zero, List.getD_cons_succ]
    refine OpGoal.plain ?_
    go_wp2_with fail
    exact ⟨rfl, ⟨OnceS.ext (Ext.alloc _ _) (HSZ.out W hE), W.heap.size, rfl, HSZ.out W hE, .inl (Go.heap_alloc_new _ _)⟩, ⟨W.heap.size, rfl, Nat.le_refl _, by simp⟩⟩
  case o19 => -- Op.alloc 266
    intro xv W hE _
    simp only [putD, List.foldl_nil, List.getD_cons_zero, List.getD_cons_succ]
    refine OpGoal.plain ?_
    go_wp2_with fail
    exact ⟨rfl, ⟨OnceS.ext (Ext.alloc _ _) (HSZ.out W hE), W.heap.size, rfl, HSZ.out W hE, .inl (Go.heap_alloc_new _ _)⟩, ⟨W.heap.size, rfl, Nat.le_refl _, by simp⟩⟩
  case o20 => -- Op.store 266 (Operand.tmp 9) (Operand.tmp 30)
    intro xv W hE hp
    have r8 : xv 8 = _ := hp.1
    obtain ⟨g18, r18, lo18, hz18⟩ := hp.2.1
    clear hp
    simp only [putD, List.foldl_nil, List.foldl_cons, List.getD_cons_zero, List.getD_cons_succ, Act.put, List.setIfInBounds_toArray, List.set_cons_zero, List.set_cons_succ]
    refine OpGoal.plain ?_
    obtain ⟨C, hC, hC2⟩ := two_of hz18
    refine store_TE 266 266 g18 C [.int .i64 s1, .int .i64 s2] hC hC2 ari_info two_one rfl _ _ rfl r18 r8 ?_
    intro w' hx' hg'
    go_wp2_with fail
    exact ⟨rfl, fun _ => ⟨OnceS.put (HSZ.out W hE) lo18 hz18 hx' hg', g18, r18, lo18, hx'⟩⟩
  case last =>
    intro xv W hE hp hpr
    have r0 : xv 0 = _ := hp.1
    have r1 : xv 1 = _ := hp.2.1
    have r2 : xv 2 = _ := hp.2.2.1
    have r3 : xv 3 = _ := hp.2.2.2.1
    have r4 : xv 4 = _ := hp.2.2.2.2.1
    have r5 : xv 5 = _ := hp.2.2.2.2.2.1
    have r6 : xv 6 = _ := hp.2.2.2.2.2.2.1
    have r7 : xv 7 = _ := hp.2.2.2.2.2.2.2.1
    have r8 : xv 8 = _ := hp.2.2.2.2.2.2.2.2.1
    have r9 : xv 9 = _ := hp.2.2.2.2.2.2.2.2.2.1
    have r10 : xv 10 = _ := hp.2.2.2.2.2.2.2.2.2.2.1
    have r11 : xv 11 = _ := hp.2.2.2.2.2.2.2.2.2.2.2.1
    have r12 : xv 12 = _ := hp.2.2.2.2.2.2.2.2.2.2.2.2.1
    have r13 : xv 13 = _ := hp.2.2.2.2.2.2.2.2.2.2.2.2.2.1
    have r14 : xv 14 = _ := hp.2.2.2.2.2.2.2.2.2.2.2.2.2.2.1
    have r15 : xv 15 = _ := hp.2.2.2.2.2.2.2.2.2.2.2.2.2.2.2.1
    have r16 : xv 16 = _ := hp.2.2.2.2.2.2.2.2.2.2.2.2.2.2.2.2.1
    have r17 : xv 17 = _ := hp.2.2.2.2.2.2.2.2.2.2.2.2.2.2.2.2.2.1
    obtain ⟨g18, r18, lo18, hz18⟩ := hp.2.2.2.2.2.2.2.2.2.2.2.2.2.2.2.2.2.2.1
    obtain ⟨g19, r19, lo19, hz19⟩ := hp.2.2.2.2.2.2.2.2.2.2.2.2.2.2.2.2.2.2.2.1
    obtain ⟨g20, r20, lo20, hx20⟩ := hp.2.2.2.2.2.2.2.2.2.2.2.2.2.2.2.2.2.2.2.2.1
    clear hp
    simp only [putD, List.foldl_nil, List.foldl_cons, List.getD_cons_zero, List.getD_cons_succ, Act.put, List.length_cons, List.length_nil, List.range_succ, List.range_zero, List.nil_append, List.cons_append, List.setIfInBounds_toArray, List.set_cons_zero, List.set_cons_succ]
    have hne : g20 ≠ g19 := fun e => hpr 18 (by simp) 19 (by simp) (by simp) (by simp) (by decide) (by rw [r20, r19, e])
    clear hpr
    simp only [r20, r19, r17]
    obtain ⟨C, hC, hC2⟩ := two_of hz19
    refine store_TE 266 266 g19 C [.int .i64 s3, .int .i64 s4] hC hC2 ari_info two_one rfl _ _ rfl rfl rfl ?_
    intro W2 hx2 hg2
    have hx1 : W2.heap[g20]? = some (.cells (xAr s1 s2) 266 (0, 0)) := (hg2.block _ (Array.getElem?_eq_some_iff.1 hx20).1 (by simpa using hne)).trans hx20
    have hEV : Ext V W2 := Below.trans (show Below V.heap.size V W from HX.out W hE) (below_rowE hg2 (HSZ.out W hE) (fun g e => by cases e; exact lo19))
    have HP2 := Lib.hid (HP.out.ext hEV)
    have HE2 := Lib.hid (Ext.trans HE.out hEV)
    have e0 := cells_of hx1 0 (.int .i64 s1) rfl
    have e1 := cells_of hx1 1 (.int .i64 s2) rfl
    have e2 : W2.cell? ⟨g19, 0, none⟩ = some (.int .i64 s3) := cells_of (show W2.heap[g19]? = some (.cells #[.int .i64 s3, .int .i64 s4] 266 (0, 0)) from hx2) 0 _ rfl
    have e3 : W2.cell? ⟨g19, 1, none⟩ = some (.int .i64 s4) := cells_of (show W2.heap[g19]? = some (.cells #[.int .i64 s3, .int .i64 s4] 266 (0, 0)) from hx2) 1 _ rfl
    clear hE hg2 hEV hC hC2 hx1 hx2 hx20 hz18 hz19 lo18 lo19 lo20 r18 r19 r20 HP HE HX HSZ hne
    by_cases hz : s1 = 0 ∧ s2 = 0 ∧ s3 = 0 ∧ s4 = 0
    · obtain ⟨rfl, rfl, rfl, rfl⟩ := hz
      have hR := HL.out ⟨rfl, rfl, rfl, rfl⟩
      have q1 : ∀ w, (binOp .neq 266 (.agg #[.int .i64 0, .int .i64 0]) (.agg #[.int .i64 0, .int .i64 0])).run Tryz.prog w = .ok (.bool false) w := fun w => arr_neq 0 0 0 0 w
      have HR := Lib.hid hR
      clear hR HK HL HM1 HM2
      obtain ⟨⟨a0, a1, _⟩, ⟨b0, b1, _⟩, ⟨c0, c1, _⟩, d0, d1, _⟩ : _ ∧ _ ∧ _ ∧ _ := ⟨HP2.out.1.cells, HP2.out.2.1.cells, HP2.out.2.2.1.cells, HP2.out.2.2.2.cells⟩
      obtain ⟨l0, l1, l2, l3⟩ : k < W2.heap.size ∧ k + 1 < W2.heap.size ∧ k + 1 + 1 < W2.heap.size ∧ k + 1 + 1 + 1 < W2.heap.size := ⟨HP2.out.1.lt, HP2.out.2.1.lt, HP2.out.2.2.1.lt, HP2.out.2.2.2.lt⟩
      go_wp2_with fail
      clear a0 a1 b0 b1 c0 c1 d0 d1 l0 l1 l2 l3 q1 e0 e1 e2 e3 HS HS1 HS2 HS3 HS4 HP
      obtain ⟨V3, hV3, hE3, hB3⟩ := boxes W2 [.cells #[.int .i64 a.x, .int .i64 a.y, .int .i64 b.x, .int .i64 b.y] 73, .cells #[.int .i64 c.x, .int .i64 c.y, .int .i64 d.x, .int .i64 d.y] 73]
      have HV3 : Hid (((W2.alloc (.cells #[.int .i64 a.x, .int .i64 a.y, .int .i64 b.x, .int .i64 b.y] 73)).alloc (.cells #[.int .i64 c.x, .int .i64 c.y, .int .i64 d.x, .int .i64 d.y] 73)) = V3) := Lib.hid hV3
      rw [HV3.out]
      have k0 : V3.heap[W2.heap.size]? = _ := hB3 V3 (Ext.refl _) 0 _ rfl
      have k1 : V3.heap[W2.heap.size + 1]? = _ := hB3 V3 (Ext.refl _) 1 _ rfl
      have HE3 := Lib.hid hE3
      have hn2 : W2.heap.size ≠ W2.heap.size + 1 := by omega
      clear hV3 HV3 hB3 hE3
      generalize hG : W2.heap.size = G at *
      have HG := Lib.hid hG
      have HNE := Lib.hid hn2
      clear hG hn2
      refine (sort2_any a b G V3 k0).mono ?_
      rintro e V4 ⟨rfl, hg4, p0, p1, p2, p3⟩
      have k2 := (hg4.block (G + 1) (Array.getElem?_eq_some_iff.1 k1).1 (by simp)).trans k1
      have H4 := Lib.hid hg4
      have HP4 := Lib.hid (And.intro p0 (And.intro p1 (And.intro p2 p3)))
      have HK2 := Lib.hid k2
      clear hg4 k0 k1 k2 p0 p1 p2 p3
      go_wp2_with fail
      refine (sort2_any c d (G + 1) V4 HK2.out).mono ?_
      rintro e V5 ⟨rfl, hg5, q0, q1, q2, q3⟩
      have hb5 : Ext W2 V5 := by
        have h3 := HE3.out
        have hz := HG.out
        exact Below.trans h3 (Below.trans (below_rowE (B := W2.heap.size) H4.out h3.sz (fun g e => by cases e; omega)) (below_rowE hg5 (Nat.le_trans h3.sz H4.out.size) (fun g e => by cases e; omega)))
      have HC5 : Hid (V5.cell? ⟨G, 0, none⟩ = some (.int .i64 (lo2 a b).x) ∧ V5.cell? ⟨G, 1, none⟩ = some (.int .i64 (lo2 a b).y) ∧ V5.cell? ⟨G, 2, none⟩ = some (.int .i64 (hi2 a b).x) ∧ V5.cell? ⟨G, 3, none⟩ = some (.int .i64 (hi2 a b).y) ∧
          V5.cell? ⟨G + 1, 0, none⟩ = some (.int .i64 (lo2 c d).x) ∧ V5.cell? ⟨G + 1, 1, none⟩ = some (.int .i64 (lo2 c d).y) ∧ V5.cell? ⟨G + 1, 2, none⟩ = some (.int .i64 (hi2 c d).x) ∧ V5.cell? ⟨G + 1, 3, none⟩ = some (.int .i64 (hi2 c d).y)) :=
        Lib.hid ⟨grown_cellE hg5 HP4.out.1 HNE.out, grown_cellE hg5 HP4.out.2.1 HNE.out, grown_cellE hg5 HP4.out.2.2.1 HNE.out, grown_cellE hg5 HP4.out.2.2.2 HNE.out, q0, q1, q2, q3⟩
      have HE5 := Lib.hid (Ext.trans HE2.out hb5)
      have HQ12 := Lib.hid (fun W (hE : Ext V5.drew W) => And.intro (cell_ext (Ext.trans (Ext.drew V5) hE) HC5.out.1) (And.intro (cell_ext (Ext.trans (Ext.drew V5) hE) HC5.out.2.1) (And.intro (cell_ext (Ext.trans (Ext.drew V5) hE) HC5.out.2.2.1) (And.intro (cell_ext (Ext.trans (Ext.drew V5) hE) HC5.out.2.2.2.1) (And.intro (cell_ext (Ext.trans (Ext.drew V5) hE) HC5.out.2.2.2.2.1) (And.intro (cell_ext (Ext.trans (Ext.drew V5) hE) HC5.out.2.2.2.2.2.1) (And.intro (cell_ext (Ext.trans (Ext.drew V5) hE) HC5.out.2.2.2.2.2.2.1) (cell_ext (Ext.trans (Ext.drew V5) hE) HC5.out.2.2.2.2.2.2.2))))))))
      have HZ12 := Lib.hid (fun W (hE : Ext V5.drew W) => Ext.sz (Ext.trans (Ext.drew V5) hE))
      clear hg5 q0 q1 q2 q3 hb5 H4 HP4 HK2 HE3 HE2 HP2 HNE HE
      generalize lo2 a b = u1 at *
      generalize hi2 a b = u2 at *
      generalize lo2 c d = v1 at *
      generalize hi2 c d = v2 at *
      go_wp2_with fail
      apply wp_region_seq (l := [_, _, _, _, _, _, _, _, _]) (t := [_]) [some 72, some 73, some 74, some 75, some 76, some 77, some 78, some 79, some 13, none] [[], [0], [1], [], [3], [4], [2, 5], [6], [], [7, 8]] [9, 9, 9, 9, 9, 9, 9, 9, 9] [eqv _, eqv _, (eqv (.agg #[.int .i64 u1.x, .int .i64 u1.y])), eqv _, eqv _, (eqv (.agg #[.int .i64 v1.x, .int .i64 v1.y])), (slP2 u1 v1), (eqv (.agg #[.int .i64 (hi2 u1 v1).x, .int .i64 (hi2 u1 v1).y])), (nwB V5.heap.size 73 #[.int .i64 0, .int .i64 0])] (by kernel_rfl) (by kernel_rfl) ⟨?o0, ?o1, ?o2, ?o3, ?o4, ?o5, ?o6, ?o7, ?o8, trivial⟩ ?last
      case o0 => -- Op.move (Operand.tmp 11)
        intro xv W hE _
        simp only [putD, List.foldl_nil, List.getD_cons_zero]
        refine OpGoal.plain ?_
        go_wp2_with fail
        exact ⟨rfl, Ext.refl _, rfl⟩
      case o1 => -- Op.indexAddr 75 (Operand.tmp 72) (Operand.const (Value.int IntKind.i64 0))
        intro xv W hE hp
        have r0 : xv 0 = _ := hp.1
        clear hp
        simp only [putD, List.foldl_nil, List.foldl_cons, List.getD_cons_zero, List.getD_cons_succ, Act.put, List.setIfInBounds_toArray, List.set_cons_zero, List.set_cons_succ]
        refine OpGoal.plain ?_
        go_wp2_with fail
        exact ⟨rfl, Ext.refl _, rfl⟩
      case o2 => -- Op.load 73 (Operand.tmp 73)
        intro xv W hE hp
        have r1 : xv 1 = _ := hp.1
        clear hp
        obtain ⟨p0, p1, p2, p3, q0, q1, q2, q3⟩ := HQ12.out W hE
        simp only [putD, List.foldl_nil, List.foldl_cons, List.getD_cons_zero, List.getD_cons_succ, Act.put, List.setIfInBounds_toArray, List.set_cons_zero, List.set_cons_succ]
        refine OpGoal.plain ?_
        go_wp2_with fail
        exact ⟨rfl, Ext.refl _, rfl⟩
      case o3 => -- Op.move (Operand.tmp 12)
        intro xv W hE _
        simp only [putD, List.foldl_nil, List.getD_cons_zero, List.getD_cons_succ]
        refine OpGoal.plain ?_
        go_wp2_with fail
        exact ⟨rfl, Ext.refl _, rfl⟩
      case o4 => -- Op.indexAddr 75 (Operand.tmp 75) (Operand.const (Value.int IntKind.i64 0))
        intro xv W hE hp
        have r3 : xv 3 = _ := hp.1
        clear hp
        simp only [putD, List.foldl_nil, List.foldl_cons, List.getD_cons_zero, List.getD_cons_succ, Act.put, List.setIfInBounds_toArray, List.set_cons_zero, List.set_cons_succ]
        refine OpGoal.plain ?_
        go_wp2_with fail
        exact ⟨rfl, Ext.refl _, rfl⟩
      case o5 => -- Op.load 73 (Operand.tmp 76)
        intro xv W hE hp
        have r4 : xv 4 = _ := hp.1
        clear hp
        obtain ⟨p0, p1, p2, p3, q0, q1, q2, q3⟩ := HQ12.out W hE
        simp only [putD, List.foldl_nil, List.foldl_cons, List.getD_cons_zero, List.getD_cons_succ, Act.put, List.setIfInBounds_toArray, List.set_cons_zero, List.set_cons_succ]
        refine OpGoal.plain ?_
        go_wp2_with fail
        exact ⟨rfl, Ext.refl _, rfl⟩
      case o6 => -- Op.buildSlice 75 2 #[(0, Operand.tmp 74), (1, Operand.tmp 77)]
        intro xv W hE hp
        have r2 : xv 2 = _ := hp.1
        have r5 : xv 5 = _ := hp.2.1
        clear hp
        simp only [putD, List.foldl_nil, List.foldl_cons, List.getD_cons_zero, List.getD_cons_succ, Act.put, List.setIfInBounds_toArray, List.set_cons_zero, List.set_cons_succ]
        refine OpGoal.plain ?_
        go_wp2_with fail
        exact ⟨rfl, Ext.alloc _ _, W.heap.size, rfl, cells_of (Go.heap_alloc_new _ _) 0 _ rfl, cells_of (Go.heap_alloc_new _ _) 1 _ rfl, cells_of (Go.heap_alloc_new _ _) 2 _ rfl, cells_of (Go.heap_alloc_new _ _) 3 _ rfl⟩
      case o7 => -- Op.call { callee := Callee.value (Operand.func 232), args := #[Operand.tmp 78, O
        intro xv W hE hp
        obtain ⟨g6, r6, z0, z1, z2, z3⟩ := hp.1
        clear hp
        simp only [putD, List.foldl_nil, List.foldl_cons, List.getD_cons_zero, List.getD_cons_succ, Act.put, List.setIfInBounds_toArray, List.set_cons_zero, List.set_cons_succ]
        refine OpGoal.plain ?_
        go_wp2_with fail
        refine (max2_any u1 v1 g6 W z0 z1 z2 z3).mono ?_
        rintro e w' ⟨rfl, hE'⟩
        go_wp2_with fail
        exact ⟨rfl, hE', rfl⟩
      case o8 => -- Op.alloc 73
        intro xv W hE _
        simp only [putD, List.foldl_nil, List.getD_cons_zero, List.getD_cons_succ]
        refine OpGoal.plain ?_
        go_wp2_with fail
        exact ⟨rfl, Ext.alloc _ _, W.heap.size, rfl, HZ12.out W hE, Go.heap_alloc_new _ _⟩
      case last =>
        intro xv W hE hp
        have r0 : xv 0 = _ := hp.1
        have r1 : xv 1 = _ := hp.2.1
        have r2 : xv 2 = _ := hp.2.2.1
        have r3 : xv 3 = _ := hp.2.2.2.1
        have r4 : xv 4 = _ := hp.2.2.2.2.1
        have r5 : xv 5 = _ := hp.2.2.2.2.2.1
        obtain ⟨g6, r6, z0, z1, z2, z3⟩ := hp.2.2.2.2.2.2.1
        have r7 : xv 7 = _ := hp.2.2.2.2.2.2.2.1
        obtain ⟨g8, r8, lo8, hz8⟩ := hp.2.2.2.2.2.2.2.2.1
        clear hp
        simp only [putD, List.foldl_nil, List.foldl_cons, List.getD_cons_zero, List.getD_cons_succ, Act.put, List.length_cons, List.length_nil, List.range_succ, List.range_zero, List.nil_append, List.cons_append, List.setIfInBounds_toArray, List.set_cons_zero, List.set_cons_succ]
        simp only [r8, r7]
        refine store_TE 73 73 g8 [.int .i64 0, .int .i64 0] [.int .i64 (hi2 u1 v1).x, .int .i64 (hi2 u1 v1).y] hz8 rfl infoPt (ptC_one _) rfl _ _ rfl rfl rfl ?_
        intro V6 hx6 hg6
        have hE6 : Ext V5 V6 := Below.trans (Ext.trans (Ext.drew V5) hE) (below_rowE hg6 (HZ12.out W hE) (fun g e => by cases e; exact lo8))
        have HC6 := Lib.hid (And.intro (cell_ext hE6 HC5.out.1) (And.intro (cell_ext hE6 HC5.out.2.1) (And.intro (cell_ext hE6 HC5.out.2.2.1) (And.intro (cell_ext hE6 HC5.out.2.2.2.1) (And.intro (cell_ext hE6 HC5.out.2.2.2.2.1) (And.intro (cell_ext hE6 HC5.out.2.2.2.2.2.1) (And.intro (cell_ext hE6 HC5.out.2.2.2.2.2.2.1) (cell_ext hE6 HC5.out.2.2.2.2.2.2.2))))))))
        have HE6 := Lib.hid (Ext.trans HE5.out hE6)
        have HX6 : Hid (V6.heap[g8]? = some (.cells #[.int .i64 (hi2 u1 v1).x, .int .i64 (hi2 u1 v1).y] 73 (0, 0))) := Lib.hid hx6
        have HQ13 := Lib.hid (fun W (hE : Ext V6.drew W) => And.intro (cell_ext (Ext.trans (Ext.drew V6) hE) HC6.out.1) (And.intro (cell_ext (Ext.trans (Ext.drew V6) hE) HC6.out.2.1) (And.intro (cell_ext (Ext.trans (Ext.drew V6) hE) HC6.out.2.2.1) (And.intro (cell_ext (Ext.trans (Ext.drew V6) hE) HC6.out.2.2.2.1) (And.intro (cell_ext (Ext.trans (Ext.drew V6) hE) HC6.out.2.2.2.2.1) (And.intro (cell_ext (Ext.trans (Ext.drew V6) hE) HC6.out.2.2.2.2.2.1) (And.intro (cell_ext (Ext.trans (Ext.drew V6) hE) HC6.out.2.2.2.2.2.2.1) (cell_ext (Ext.trans (Ext.drew V6) hE) HC6.out.2.2.2.2.2.2.2))))))))
        have HZ13 := Lib.hid (fun W (hE : Ext V6.drew W) => Ext.sz (Ext.trans (Ext.drew V6) hE))
        clear hE hz8 lo8 r0 r1 r2 r3 r4 r5 r6 r7 r8 z0 z1 z2 z3 hx6 hg6 hE6 HQ12 HZ12 HC5 HE5 HG
        generalize hi2 u1 v1 = mm at *
        go_wp2_with fail
        apply wp_region_seq (l := [_, _, _, _, _, _, _, _, _]) (t := [_]) [some 80, some 81, some 82, some 83, some 84, some 85, some 86, some 87, some 14, none] [[], [0], [1], [], [3], [4], [2, 5], [6], [], [7, 8]] [9, 9, 9, 9, 9, 9, 9, 9, 9] [eqv _, eqv _, (eqv (.agg #[.int .i64 u2.x, .int .i64 u2.y])), eqv _, eqv _, (eqv (.agg #[.int .i64 v2.x, .int .i64 v2.y])), (slP2 u2 v2), (eqv (.agg #[.int .i64 (lo2 u2 v2).x, .int .i64 (lo2 u2 v2).y])), (nwB V6.heap.size 73 #[.int .i64 0, .int .i64 0])] (by kernel_rfl) (by kernel_rfl) ⟨?o0, ?o1, ?o2, ?o3, ?o4, ?o5, ?o6, ?o7, ?o8, trivial⟩ ?last
        case o0 => -- Op.move (Operand.tmp 11)
          intro xv W hE _
          simp only [putD, List.foldl_nil, List.getD_cons_zero]
          refine OpGoal.plain ?_
          go_wp2_with fail
          exact ⟨rfl, Ext.refl _, rfl⟩
        case o1 => -- Op.indexAddr 75 (Operand.tmp 80) (Operand.const (Value.int IntKind.i64 1))
          intro xv W hE hp
          have r0 : xv 0 = _ := hp.1
          clear hp
          simp only [putD, List.foldl_nil, List.foldl_cons, List.getD_cons_zero, List.getD_cons_succ, Act.put, List.setIfInBounds_toArray, List.set_cons_zero, List.set_cons_succ]
          refine OpGoal.plain ?_
          go_wp2_with fail
          exact ⟨rfl, Ext.refl _, rfl⟩
        case o2 => -- Op.load 73 (Operand.tmp 81)
          intro xv W hE hp
          have r1 : xv 1 = _ := hp.1
          clear hp
          obtain ⟨p0, p1, p2, p3, q0, q1, q2, q3⟩ := HQ13.out W hE
          simp only [putD, List.foldl_nil, List.foldl_cons, List.getD_cons_zero, List.getD_cons_succ, Act.put, List.setIfInBounds_toArray, List.set_cons_zero, List.set_cons_succ]
          refine OpGoal.plain ?_
          go_wp2_with fail
          exact ⟨rfl, Ext.refl _, rfl⟩
        case o3 => -- Op.move (Operand.tmp 12)
          intro xv W hE _
          simp only [putD, List.foldl_nil, List.getD_cons_zero, List.getD_cons_succ]
          refine OpGoal.plain ?_
          go_wp2_with fail
          exact ⟨rfl, Ext.refl _, rfl⟩
        case o4 => -- Op.indexAddr 75 (Operand.tmp 83) (Operand.const (Value.int IntKind.i64 1))
          intro xv W hE hp
          have r3 : xv 3 = _ := hp.1
          clear hp
          simp only [putD, List.foldl_nil, List.foldl_cons, List.getD_cons_zero, List.getD_cons_succ, Act.put, List.setIfInBounds_toArray, List.set_cons_zero, List.set_cons_succ]
          refine OpGoal.plain ?_
          go_wp2_with fail
          exact ⟨rfl, Ext.refl _, rfl⟩
        case o5 => -- Op.load 73 (Operand.tmp 84)
          intro xv W hE hp
          have r4 : xv 4 = _ := hp.1
          clear hp
          obtain ⟨p0, p1, p2, p3, q0, q1, q2, q3⟩ := HQ13.out W hE
          simp only [putD, List.foldl_nil, List.foldl_cons, List.getD_cons_zero, List.getD_cons_succ, Act.put, List.setIfInBounds_toArray, List.set_cons_zero, List.set_cons_succ]
          refine OpGoal.plain ?_
          go_wp2_with fail
          exact ⟨rfl, Ext.refl _, rfl⟩
        case o6 => -- Op.buildSlice 75 2 #[(0, Operand.tmp 82), (1, Operand.tmp 85)]
          intro xv W hE hp
          have r2 : xv 2 = _ := hp.1
          have r5 : xv 5 = _ := hp.2.1
          clear hp
          simp only [putD, List.foldl_nil, List.foldl_cons, List.getD_cons_zero, List.getD_cons_succ, Act.put, List.setIfInBounds_toArray, List.set_cons_zero, List.set_cons_succ]
          refine OpGoal.plain ?_
          go_wp2_with fail
          exact ⟨rfl, Ext.alloc _ _, W.heap.size, rfl, cells_of (Go.heap_alloc_new _ _) 0 _ rfl, cells_of (Go.heap_alloc_new _ _) 1 _ rfl, cells_of (Go.heap_alloc_new _ _) 2 _ rfl, cells_of (Go.heap_alloc_new _ _) 3 _ rfl⟩
        case o7 => -- Op.call { callee := Callee.value (Operand.func 233), args := #[Operand.tmp 86, O
          intro xv W hE hp
          obtain ⟨g6, r6, z0, z1, z2, z3⟩ := hp.1
          clear hp
          simp only [putD, List.foldl_nil, List.foldl_cons, List.getD_cons_zero, List.getD_cons_succ, Act.put, List.setIfInBounds_toArray, List.set_cons_zero, List.set_cons_succ]
          refine OpGoal.plain ?_
          go_wp2_with fail
          refine (min2_any u2 v2 g6 W z0 z1 z2 z3).mono ?_
          rintro e w' ⟨rfl, hE'⟩
          go_wp2_with fail
          exact ⟨rfl, hE', rfl⟩
        case o8 => -- Op.alloc 73
          intro xv W hE _
          simp only [putD, List.foldl_nil, List.getD_cons_zero, List.getD_cons_succ]
          refine OpGoal.plain ?_
          go_wp2_with fail
          exact ⟨rfl, Ext.alloc _ _, W.heap.size, rfl, HZ13.out W hE, Go.heap_alloc_new _ _⟩
        case last =>
          intro xv W hE hp
          have r0 : xv 0 = _ := hp.1
          have r1 : xv 1 = _ := hp.2.1
          have r2 : xv 2 = _ := hp.2.2.1
          have r3 : xv 3 = _ := hp.2.2.2.1
          have r4 : xv 4 = _ := hp.2.2.2.2.1
          have r5 : xv 5 = _ := hp.2.2.2.2.2.1
          obtain ⟨g6, r6, z0, z1, z2, z3⟩ := hp.2.2.2.2.2.2.1
          have r7 : xv 7 = _ := hp.2.2.2.2.2.2.2.1
          obtain ⟨g8, r8, lo8, hz8⟩ := hp.2.2.2.2.2.2.2.2.1
          clear hp
          simp only [putD, List.foldl_nil, List.foldl_cons, List.getD_cons_zero, List.getD_cons_succ, Act.put, List.length_cons, List.length_nil, List.range_succ, List.range_zero, List.nil_append, List.cons_append, List.setIfInBounds_toArray, List.set_cons_zero, List.set_cons_succ]
          simp only [r8, r7]
          refine store_TE 73 73 g8 [.int .i64 0, .int .i64 0] [.int .i64 (lo2 u2 v2).x, .int .i64 (lo2 u2 v2).y] hz8 rfl infoPt (ptC_one _) rfl _ _ rfl rfl rfl ?_
          intro V7 hx7 hg7
          have hE7 : Ext V6 V7 := Below.trans (Ext.trans (Ext.drew V6) hE) (below_rowE hg7 (HZ13.out W hE) (fun g e => by cases e; exact lo8))
          have hm7 := blk_ext HX6.out hE7
          have HE7 := Lib.hid (Ext.trans HE6.out hE7)
          have m0 := cells_of hm7 0 (.int .i64 mm.x) rfl
          have m1 := cells_of hm7 1 (.int .i64 mm.y) rfl
          have n0 := cells_of (show V7.heap[g8]? = some (.cells #[.int .i64 (lo2 u2 v2).x, .int .i64 (lo2 u2 v2).y] 73 (0, 0)) from hx7) 0 (.int .i64 (lo2 u2 v2).x) rfl
          have n1 := cells_of (show V7.heap[g8]? = some (.cells #[.int .i64 (lo2 u2 v2).x, .int .i64 (lo2 u2 v2).y] 73 (0, 0)) from hx7) 1 (.int .i64 (lo2 u2 v2).y) rfl
          have h3 := cmp2_three (lo2 u2 v2) mm
          have hc := pcompare_any (lo2 u2 v2) mm
          have hR := HR.out
          clear hE hz8 lo8 r0 r1 r2 r3 r4 r5 r6 r7 r8 z0 z1 z2 z3 hx7 hg7 hE7 HQ13 HZ13 HC6 HE6 HX6 HR hm7
          generalize lo2 u2 v2 = nn at *
          generalize cmp2 nn mm = cc at *
          have HCC := Lib.hid hc
          clear hc
          rcases h3 with ⟨rfl, h⟩ | ⟨rfl, h⟩ | ⟨rfl, h⟩
          · rw [if_pos h] at hR
            have HR := Lib.hid hR
            clear hR h
            go_wp2_with fail
            refine (HCC.out _).mono ?_
            rintro e V8 ⟨rfl, hE8⟩
            go_wp2_with fail
            go_ret
            exact ⟨ret_i HR.out.symm, Ext.trans HE7.out hE8⟩
          · rw [if_neg (by rw [h, lt2_irr]; simp), if_pos h] at hR
            have HR := Lib.hid hR
            clear hR h
            go_wp2_with fail
            refine (HCC.out _).mono ?_
            rintro e V8 ⟨rfl, hE8⟩
            go_wp2_with fail
            go_ret
            exact ⟨ret_i HR.out.symm, Ext.trans HE7.out hE8⟩
          · rw [if_neg (by rw [lt2_asym h]; simp), if_neg (fun e => by rw [e, lt2_irr] at h; cases h)] at hR
            have HR := Lib.hid hR
            clear hR h
            go_wp2_with fail
            refine (HCC.out _).mono ?_
            rintro e V8 ⟨rfl, hE8⟩
            go_wp2_with fail
            go_ret
            exact ⟨ret_i HR.out.symm, Ext.trans HE7.out hE8⟩
    · have hR := (HK.out hz).1
      have m12 := HM1.out
      have m34 := HM2.out
      clear HK HL HM1 HM2 HS HS1 HS2 HS3 HS4
      have hq : ∀ s t w, (binOp .neq 266 (.agg #[.int .i64 s, .int .i64 t]) (.agg #[.int .i64 0, .int .i64 0])).run Tryz.prog w = .ok (.bool (!(decide (s = 0) && decide (t = 0)))) w := fun s t w => arr_neq s t 0 0 w
      cases t1 : decide (0 < s1 * s2) <;> cases t2 : decide (0 < s3 * s4)
      all_goals
        rw [t1, t2] at hR
        have HR := Lib.hid hR
        clear hR
        by_cases hy : s1 = 0 ∧ s2 = 0
        · have hy2 : ¬ (s3 = 0 ∧ s4 = 0) := fun h => hz ⟨hy.1, hy.2, h.1, h.2⟩
          have q1 : ∀ w, (binOp .neq 266 (.agg #[.int .i64 s1, .int .i64 s2]) (.agg #[.int .i64 0, .int .i64 0])).run Tryz.prog w = .ok (.bool false) w := fun w => by rw [hq, decide_eq_true hy.1, decide_eq_true hy.2]; rfl
          have q2 : ∀ w, (binOp .neq 266 (.agg #[.int .i64 s3, .int .i64 s4]) (.agg #[.int .i64 0, .int .i64 0])).run Tryz.prog w = .ok (.bool true) w := fun w => by
            rw [hq]
            have : (decide (s3 = 0) && decide (s4 = 0)) = false := by simpa using hy2
            rw [this]; rfl
          clear hq hz hy hy2
          go_wp2_with fail
          go_ret
          exact ⟨ret_i HR.out.symm, HE2.out⟩
        · have q1 : ∀ w, (binOp .neq 266 (.agg #[.int .i64 s1, .int .i64 s2]) (.agg #[.int .i64 0, .int .i64 0])).run Tryz.prog w = .ok (.bool true) w := fun w => by
            rw [hq]
            have : (decide (s1 = 0) && decide (s2 = 0)) = false := by simpa using hy
            rw [this]; rfl
          clear hq hz hy
          go_wp2_with fail
          go_ret
          exact ⟨ret_i HR.out.symm, HE2.out⟩
theorem meetp_any (a b c d : Pt) (w : World) : Calls Tryz.prog 177 #[.agg #[.int .i64 a.x, .int .i64 a.y], .agg #[.int .i64 b.x, .int .i64 b.y], .agg #[.int .i64 c.x, .int .i64 c.y], .agg #[.int .i64 d.x, .int .i64 d.y]] w
    fun e w' => e = .returned (.int .i64 (meet a b c d)) ∧ Ext w w' := by
  cases h : (bnd a && bnd b && bnd c && bnd d)
  · exact meetp_not a b c d h w
  · exact meetp_yes a b c d h w
end Go.Proofs.YtompfgofaplffaaGreatDoor
