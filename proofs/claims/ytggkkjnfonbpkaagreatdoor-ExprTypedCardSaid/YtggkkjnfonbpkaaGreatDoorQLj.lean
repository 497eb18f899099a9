/- The law ExprTyped: its walk (printed by gen_lj.py). -/
import Derived.Test.YtggkkjnfonbpkaaGreatDoorQLi
import Derived.Test.YtggkkjnfonbpkaaGreatDoorQIg
import Derived.Test.YtggkkjnfonbpkaaGreatDoorQLr
import Derived.Laws.EntriesVeiled
import Derived.Deep.Cut

set_option linter.unusedSimpArgs false
set_option linter.unusedVariables false
namespace Go.Proofs.YtggkkjnfonbpkaaGreatDoor
open Go.RowKit Hach

/- an operator over new operands; a new row of expressions -/
def opSP (o : Int) (l : List Ex) (n d : Nat) : SP := ⟨fun v W => ∃ g c, v = .agg #[.int .i64 o, .int .i64 0, .int .i64 0, .int .i64 0, .bool false, .string ⟨#[]⟩, .slice (some ⟨g, 0, none⟩) n c] ∧ ExB W W.heap.size d (some ⟨g, 0, none⟩) l, fun h hE => by
  obtain ⟨g, c, e, h⟩ := h
  exact ⟨g, c, e, ExL.ext h hE⟩⟩
def slSP (l : List Ex) (n d : Nat) : SP := ⟨fun v W => ∃ g, v = .slice (some ⟨g, 0, none⟩) n n ∧ ExB W W.heap.size d (some ⟨g, 0, none⟩) l, fun h hE => by
  obtain ⟨g, e, h⟩ := h
  exact ⟨g, e, ExL.ext h hE⟩⟩
theorem veq (y : Vl) : ∀ W, (binOp .eql 26 (.agg #[.int .i64 y.ty, .int .i64 y.n, .bool y.b, .string ⟨y.s.toArray⟩]) (.agg #[.int .i64 y.ty, .int .i64 y.n, .bool y.b, .string ⟨y.s.toArray⟩])).run Tryz.prog W = .ok (.bool true) W := fun W => by
  rw [val_eql, show valB y.ty y.n y.b y.s y.ty y.n y.b y.s = true by unfold valB; simp]
theorem V4.put' (w : World) (y : Vl) : V4 (w.alloc (.cells #[.int .i64 y.ty, .int .i64 y.n, .bool y.b, .string ⟨y.s.toArray⟩] 26)) w.heap.size y := Go.heap_alloc_new _ _
@[go_sem] theorem fld_n (a : Value) (x : Int) (c d : Value) (w : World) : (Instr.field 26 (.agg #[a, .int .i64 x, c, d]) 1).run Tryz.prog w = .ok (.int .i64 x) w := by kernel_rfl
@[go_sem] theorem fld_b (a b : Value) (x : Bool) (d : Value) (w : World) : (Instr.field 26 (.agg #[a, b, .bool x, d]) 2).run Tryz.prog w = .ok (.bool x) w := by kernel_rfl
theorem En.fits_big (x : En) : x.fits x.big := by unfold En.fits En.big; omega
set_option maxRecDepth 100000 in
set_option maxHeartbeats 16000000 in
theorem ExprTyped_any (B0 B1 B2 B3 : Option Addr) (m0 e0 m1 e1 m2 e2 m3 e3 : Nat) (x0 : En) (w : World) (htab : Tabs w) (hL0 : LI w B0 m0) (hL1 : LI w B1 m1) (hL2 : LI w B2 m2) (hL3 : LI w B3 m3) (hx : x0.raw) :
    Calls Tryz.prog 6 #[.agg #[.slice B0 m0 e0, .slice B1 m1 e1, .slice B2 m2 e2, .slice B3 m3 e3], x0.v] w fun e w' => e = .returned (.bool true) ∧ Ext w w' := by
  obtain ⟨w0, hw0⟩ : ∃ w0, w.alloc (.cells #[.slice B0 m0 e0, .slice B1 m1 e1, .slice B2 m2 e2, .slice B3 m3 e3] 59) = w0 := ⟨_, rfl⟩
  have hE0 : Ext w w0 := by rw [← hw0]; exact Ext.alloc _ _
  have hs0 : w0.heap.size = w.heap.size + 1 := by rw [← hw0]; simp
  have hq : ∀ j v, (#[.slice B0 m0 e0, .slice B1 m1 e1, .slice B2 m2 e2, .slice B3 m3 e3] : Array Value)[j]? = some v → w0.cell? ⟨w.heap.size, j, none⟩ = some v := fun j v hj => by rw [← hw0, World.cell?_alloc_new]; exact hj
  obtain ⟨w1, hw1⟩ : ∃ w1, w0.alloc (.cells (Ev_row x0) 31) = w1 := ⟨_, rfl⟩
  have hE1 : Ext w0 w1 := by rw [← hw1]; exact Ext.alloc _ _
  have hs1 : w1.heap.size = w.heap.size + 2 := by rw [← hw1]; simp; omega
  have hB1 := EvB.new w0 x0
  rw [hw1, hs0] at hB1
  have hE01 := hE0.trans hE1
  have hq1 : ∀ j v, (#[.slice B0 m0 e0, .slice B1 m1 e1, .slice B2 m2 e2, .slice B3 m3 e3] : Array Value)[j]? = some v → w1.cell? ⟨w.heap.size, j, none⟩ = some v := fun j v hj => (hE1.old (p := ⟨w.heap.size, j, none⟩) (by show w.heap.size < _; omega)).trans (hq j v hj)
  have HT := Lib.hid (htab.ext hE01)
  have HL0 := Lib.hid hL0
  have HL1 := Lib.hid hL1
  have HL2 := Lib.hid hL2
  have HL3 := Lib.hid hL3
  have HX := Lib.hid hx
  have HQ := Lib.hid hq1
  have HB1 := Lib.hid hB1
  unfold Ev_row at hw1
  have HW0 := Lib.hid hw0
  have HW1 := Lib.hid hw1
  have HE01 := Lib.hid hE01
  have HS1 := Lib.hid hs1
  clear hw0 hw1 hs0 hs1 hE0 hE1 hE01 hq hq1 htab hL0 hL1 hL2 hL3 hx hB1
  unfold En.v
  go_enter Tryz.func6, Tryz.ntmps6
  go_upto_region 1 with fail
  rw [HW0.out, HW1.out]
  go_wp2_with fail
  refine (sanity_any w1 HT.out).mono ?_
  rintro e w2 ⟨rfl, hE2⟩
  obtain ⟨p0, p1, p2, p3, p4, p5, p6, p7, p8⟩ := (HB1.out.ext hE2).cells
  go_wp2_with fail
  refine (lawEnv_any x0 HX.out w2).mono ?_
  rintro e w3 ⟨rfl, hE3⟩
  obtain ⟨x, hxx⟩ : ∃ x, x0.cut 30 = x := ⟨_, rfl⟩
  rw [hxx]
  clear hxx p0 p1 p2 p3 p4 p5 p6 p7 p8
  have hB3 := (HB1.out.ext hE2).ext hE3
  obtain ⟨p0, p1, p2, p3, p4, p5, p6, p7, p8⟩ := hB3.cells
  obtain ⟨f0, f1, f2, f3, f4, f5, f6, f7, f8⟩ := hB3.free
  unfold En.v
  go_upto_region 3 with fail
  show Code.wp _ _ _ _ (setEv w3 (w.heap.size + 1) x)
  have hB4 := setEv_in hB3 x
  have hG4 := setEv_grown w3 (w.heap.size + 1) x
  have hE03 := (HE01.out.trans hE2).trans hE3
  have hE4 : Ext w (setEv w3 (w.heap.size + 1) x) := Below.trans hE03 (below_row' hG4 hE03.sz (fun g e => by simp only [Option.some.injEq] at e; omega))
  have hs3 : w.heap.size + 1 < w3.heap.size := hB3.lt
  have hq4 : ∀ j v, (#[.slice B0 m0 e0, .slice B1 m1 e1, .slice B2 m2 e2, .slice B3 m3 e3] : Array Value)[j]? = some v → (setEv w3 (w.heap.size + 1) x).cell? ⟨w.heap.size, j, none⟩ = some v := fun j v hj => (grown_cell hG4 (by omega) (by simp) j).trans (((hE2.trans hE3).old (p := ⟨w.heap.size, j, none⟩) (by have := HS1.out; show w.heap.size < _; omega)).trans (HQ.out j v hj))
  have hs4 : w.heap.size + 1 < (setEv w3 (w.heap.size + 1) x).heap.size := Nat.lt_of_lt_of_le hs3 hG4.size
  generalize setEv w3 (w.heap.size + 1) x = w4 at hB4 hE4 hq4 hs4 ⊢
  clear p0 p1 p2 p3 p4 p5 p6 p7 p8 f0 f1 f2 f3 f4 f5 f6 f7 f8 hB3 hG4 hE03 hs3 hE2 hE3
  obtain ⟨w5, hw5⟩ : ∃ w5, w4.alloc (.cells #[.func (.func 27) #[] #[]] 68) = w5 := ⟨_, rfl⟩
  have hE45 : Ext w4 w5 := by rw [← hw5]; exact Ext.alloc _ _
  have hf5 : w5.cell? ⟨w4.heap.size, 0, none⟩ = some (.func (.func 27) #[] #[]) := by rw [← hw5, World.cell?_alloc_new]; rfl
  have hs5 : w4.heap.size < w5.heap.size := by rw [← hw5]; simp
  have HQ5 : Hid (∀ j v, (#[.slice B0 m0 e0, .slice B1 m1 e1, .slice B2 m2 e2, .slice B3 m3 e3] : Array Value)[j]? = some v → w5.cell? ⟨w.heap.size, j, none⟩ = some v) := Lib.hid (fun j v hj => (hE45.old (p := ⟨w.heap.size, j, none⟩) (by show w.heap.size < _; omega)).trans (hq4 j v hj))
  have HW5 := Lib.hid hw5
  have HE5 := Lib.hid (hE4.trans hE45)
  have HB5 := Lib.hid (hB4.ext hE45)
  have MA : Hid (∀ (k : Nat) (t : Int) (A : Option Addr) (n c : Nat) (W : World), k < 4 → 1 ≤ t ∧ t ≤ 3 → LI w A n → Ext w5 W → (#[.slice B0 m0 e0, .slice B1 m1 e1, .slice B2 m2 e2, .slice B3 m3 e3] : Array Value)[k]? = some (.slice A n c) → Calls Tryz.prog 23 #[.int .i64 (k : Nat), .int .i64 t, .pointer (some ⟨w.heap.size, 0, none⟩)] W (NewT t 10 W)) := Lib.hid (fun k t A n c W hk ht hL hE hc =>
    made1_any k t A n c w.heap.size W hk ht (hL.ext (HE5.out.trans hE)) (by have := hE.sz; omega) ((hE.old (p := ⟨w.heap.size, k, none⟩) (by show w.heap.size < _; omega)).trans (HQ5.out k _ hc)))
  clear hw5 hE4 hE45 hB4 hq4
  go_upto_region 6 with fail
  rw [HW5.out]
  go_wp2_with fail
  refine (MA.out 0 2 B0 m0 e0 w5 (by decide) (by decide) HL0.out (Ext.refl _) rfl).mono ?_
  rintro e v1 ⟨a, Aa, ca, da, hRa, hSa, rfl, hXa, hEa⟩
  have HRa := Lib.hid hRa
  clear hRa
  go_wp2_with fail
  refine (MA.out 1 2 B1 m1 e1 v1 (by decide) (by decide) HL1.out hEa rfl).mono ?_
  rintro e v2 ⟨b, Ab, cb, db, hRb, hSb, rfl, hXb, hEb⟩
  have HRb := Lib.hid hRb
  clear hRb
  go_wp2_with fail
  refine (MA.out 2 1 B2 m2 e2 v2 (by decide) (by decide) HL2.out (hEa.trans hEb) rfl).mono ?_
  rintro e v3 ⟨c, Ac, cc, dc, hRc, hSc, rfl, hXc, hEc⟩
  have HRc := Lib.hid hRc
  clear hRc
  go_wp2_with fail
  refine (MA.out 3 1 B3 m3 e3 v3 (by decide) (by decide) HL3.out ((hEa.trans hEb).trans hEc) rfl).mono ?_
  rintro e v4 ⟨d, Ad, cd, dd, hRd, hSd, rfl, hXd, hEd⟩
  have HRd := Lib.hid hRd
  clear hRd
  go_upto_region 7 with fail
  have hEn : EnBox w5 (w.heap.size + 1) x := by
    have h := HB5.out
    obtain ⟨p0, p1, p2, p3, p4, p5, p6, p7, p8⟩ := h.cells
    exact ⟨h.lt, p0, p1, p2, p3, p4, p5, p6, p7, p8⟩
  have hE54 := ((hEa.trans hEb).trans hEc).trans hEd
  obtain ⟨y1, hy1⟩ : ∃ y, v4.alloc (.cells #[.int .i64 a.op, .int .i64 a.var, .int .i64 a.ty, .int .i64 a.n, .bool a.b, .string ⟨a.s.toArray⟩, .slice Aa a.l.length ca] 29) = y := ⟨_, rfl⟩
  obtain ⟨y2, hy2⟩ : ∃ y, y1.alloc (.cells #[.int .i64 b.op, .int .i64 b.var, .int .i64 b.ty, .int .i64 b.n, .bool b.b, .string ⟨b.s.toArray⟩, .slice Ab b.l.length cb] 29) = y := ⟨_, rfl⟩
  obtain ⟨y3, hy3⟩ : ∃ y, y2.alloc (.cells #[.int .i64 c.op, .int .i64 c.var, .int .i64 c.ty, .int .i64 c.n, .bool c.b, .string ⟨c.s.toArray⟩, .slice Ac c.l.length cc] 29) = y := ⟨_, rfl⟩
  obtain ⟨w8, hw8⟩ : ∃ y, y3.alloc (.cells #[.int .i64 d.op, .int .i64 d.var, .int .i64 d.ty, .int .i64 d.n, .bool d.b, .string ⟨d.s.toArray⟩, .slice Ad d.l.length cd] 29) = y := ⟨_, rfl⟩
  have hX1 : Ext v4 y1 := by rw [← hy1]; exact Ext.alloc _ _
  have hX2 : Ext y1 y2 := by rw [← hy2]; exact Ext.alloc _ _
  have hX3 : Ext y2 y3 := by rw [← hy3]; exact Ext.alloc _ _
  have hX4 : Ext y3 w8 := by rw [← hw8]; exact Ext.alloc _ _
  have hs1 : y1.heap.size = v4.heap.size + 1 := by rw [← hy1]; simp
  have hs2 : y2.heap.size = v4.heap.size + 1 + 1 := by rw [← hy2]; simp [hs1]
  have hs3 : y3.heap.size = v4.heap.size + 1 + 1 + 1 := by rw [← hy3]; simp [hs2]
  have hia := InBlk.new2 v4 a Aa ca
  have hib := InBlk.new2 y1 b Ab cb
  have hic := InBlk.new2 y2 c Ac cc
  have hid' := InBlk.new2 y3 d Ad cd
  unfold Ex.cells at hia hib hic hid'
  rw [hy1] at hia
  rw [hy2, hs1] at hib
  rw [hy3, hs2] at hic
  rw [hw8, hs3] at hid'
  have h4 := ((hX1.trans hX2).trans hX3).trans hX4
  have HIa := Lib.hid (hia.ext ((hX2.trans hX3).trans hX4))
  have HIb := Lib.hid (hib.ext (hX3.trans hX4))
  have HIc := Lib.hid (hic.ext hX4)
  have HId := Lib.hid hid'
  have HXa := Lib.hid (ExL.ext (hXa.more fun k hk => hk.2) (((hEb.trans hEc).trans hEd).trans h4))
  have HXb := Lib.hid (ExL.ext (hXb.more fun k hk => hk.2) ((hEc.trans hEd).trans h4))
  have HXc := Lib.hid (ExL.ext (hXc.more fun k hk => hk.2) (hEd.trans h4))
  have HXd := Lib.hid (ExL.ext (hXd.more fun k hk => hk.2) h4)
  have HE8 := Lib.hid (HE5.out.trans (hE54.trans h4))
  have hbf : w4.heap.size < w8.heap.size := Nat.lt_of_lt_of_le hs5 (hE54.trans h4).sz
  have HF := Lib.hid (fun (W : World) (h : Ext w8 W) => (((hE54.trans h4).trans h).old (p := ⟨w4.heap.size, 0, none⟩) hs5).trans hf5)
  have HEn := Lib.hid (hEn.ext (hE54.trans h4))
  have HY1 := Lib.hid hy1
  have HY2 := Lib.hid hy2
  have HY3 := Lib.hid hy3
  have HY4 := Lib.hid hw8
  rw [HY1.out, HY2.out, HY3.out, HY4.out]
  obtain ⟨bf, hbfe⟩ : ∃ q, w4.heap.size = q := ⟨_, rfl⟩
  obtain ⟨bx, hbxe⟩ : ∃ q, w.heap.size + 1 = q := ⟨_, rfl⟩
  rw [hbfe] at hbf HF ⊢
  rw [hbxe] at HEn ⊢
  clear hy1 hy2 hy3 hw8 hX1 hX2 hX3 hX4 hs1 hs2 hs3 hia hib hic hid' h4 hXa hXb hXc hXd hE54 hEn hf5 hs5 hs4 hEa hEb hEc hEd hbfe hbxe MA HQ5 HW5 HY1 HY2 HY3 HY4 HB5 HB1 HQ HT HL0 HL1 HL2 HL3 HX HW0 HW1 HE01 HS1 HE5
  go_upto_region 8 with fail
  generalize Value.agg #[.slice B0 m0 e0, .slice B1 m1 e1, .slice B2 m2 e2, .slice B3 m3 e3] = z0
  generalize Value.agg #[.int .i64 x0.kind, .string ⟨x0.cls.toArray⟩, .string ⟨x0.name.toArray⟩, .int .i64 x0.weight, .int .i64 x0.level, .bool x0.stairs, .int .i64 x0.scale, .int .i64 x0.hour, .int .i64 x0.reader] = z1
  generalize Value.agg #[.int .i64 x.kind, .string ⟨x.cls.toArray⟩, .string ⟨x.name.toArray⟩, .int .i64 x.weight, .int .i64 x.level, .bool x.stairs, .int .i64 x.scale, .int .i64 x.hour, .int .i64 x.reader] = z2
  generalize Value.agg #[.int .i64 a.op, .int .i64 a.var, .int .i64 a.ty, .int .i64 a.n, .bool a.b, .string ⟨a.s.toArray⟩, .slice Aa a.l.length ca] = za
  generalize Value.agg #[.int .i64 b.op, .int .i64 b.var, .int .i64 b.ty, .int .i64 b.n, .bool b.b, .string ⟨b.s.toArray⟩, .slice Ab b.l.length cb] = zb
  generalize Value.agg #[.int .i64 c.op, .int .i64 c.var, .int .i64 c.ty, .int .i64 c.n, .bool c.b, .string ⟨c.s.toArray⟩, .slice Ac c.l.length cc] = zc
  generalize Value.agg #[.int .i64 d.op, .int .i64 d.var, .int .i64 d.ty, .int .i64 d.n, .bool d.b, .string ⟨d.s.toArray⟩, .slice Ad d.l.length cd] = zd
  apply wp_region_seq (l := [_, _, _, _, _, _, _, _, _, _, _, _, _, _, _, _, _, _, _, _, _, _, _, _, _, _, _, _, _, _, _, _, _, _, _, _, _, _, _, _, _, _, _, _, _, _, _, _, _, _, _, _, _, _, _, _, _]) (t := [_]) [some 32, some 33, some 34, some 35, some 36, some 37, some 38, some 39, some 40, some 41, some 42, some 43, some 44, some 45, some 46, some 47, some 48, some 49, some 50, some 51, some 52, some 53, some 54, some 55, some 56, some 57, some 58, some 59, some 60, some 61, some 62, some 63, some 64, some 65, some 66, some 67, some 68, some 69, some 70, some 71, some 72, some 73, some 74, some 75, some 76, some 77, some 78, some 79, some 80, some 81, some 82, some 83, some 84, some 85, some 86, some 87, some 88, some 14] [[], [], [], [], [], [3, 4], [2, 5], [1, 6], [0, 7], [], [], [], [], [11, 12], [], [], [14, 15], [13, 16], [10, 17], [9, 18], [8, 19], [20], [21], [21], [21], [21], [21], [21, 25, 26], [21, 24, 27], [21, 23, 28], [21, 22, 29], [21], [21], [21], [21], [21, 33, 34], [21], [21], [21, 36, 37], [21, 35, 38], [21, 32, 39], [21, 31, 40], [21, 30, 41], [21, 42], [43], [44], [44], [44], [44], [44, 47, 48], [44, 46, 49], [44, 45, 50], [44], [44], [44, 52, 53], [44, 51, 54], [44, 55], [56]] [57, 57, 57, 57, 57, 57, 57, 57, 57, 57, 57, 57, 57, 57, 57, 57, 57, 57, 57, 57, 57, 57, 57, 57, 57, 57, 57, 57, 57, 57, 57, 57, 57, 57, 57, 57, 57, 57, 57, 57, 57, 57, 57, 57, 57, 57, 57, 57, 57, 57, 57, 57, 57, 57, 57, 57, 57] [(eqv (.func (.func 25) #[] #[.pointer (some ⟨bx, 0, none⟩)])), (eqv (.func (.func 28) #[] #[.pointer (some ⟨bf, 0, none⟩)])), (eqv (.func (.func 27) #[] #[])), (eqv (.agg #[.int .i64 a.op, .int .i64 a.var, .int .i64 a.ty, .int .i64 a.n, .bool a.b, .string ⟨a.s.toArray⟩, .slice Aa a.l.length ca])), (eqv (.agg #[.int .i64 b.op, .int .i64 b.var, .int .i64 b.ty, .int .i64 b.n, .bool b.b, .string ⟨b.s.toArray⟩, .slice Ab b.l.length cb])), (slSP [a, b] 2 (da + db + 1)), (opSP 4 [a, b] 2 (da + db + 1)), (opSP 3 [(exOp 4 [a, b])] 1 ((da + db + 1) + 1)), (eqv (vt x (exOp 3 [(exOp 4 [a, b])])).v), (eqv (.func (.func 25) #[] #[.pointer (some ⟨bx, 0, none⟩)])), (eqv (.func (.func 27) #[] #[])), (eqv (.func (.func 28) #[] #[.pointer (some ⟨bf, 0, none⟩)])), (eqv (.agg #[.int .i64 a.op, .int .i64 a.var, .int .i64 a.ty, .int .i64 a.n, .bool a.b, .string ⟨a.s.toArray⟩, .slice Aa a.l.length ca])), (opSP 3 [a] 1 (da + 1)), (eqv (.func (.func 28) #[] #[.pointer (some ⟨bf, 0, none⟩)])), (eqv (.agg #[.int .i64 b.op, .int .i64 b.var, .int .i64 b.ty, .int .i64 b.n, .bool b.b, .string ⟨b.s.toArray⟩, .slice Ab b.l.length cb])), (opSP 3 [b] 1 (db + 1)), (slSP [(exOp 3 [a]), (exOp 3 [b])] 2 ((da + 1) + (db + 1) + 1)), (opSP 5 [(exOp 3 [a]), (exOp 3 [b])] 2 ((da + 1) + (db + 1) + 1)), (eqv (vt x (exOp 5 [(exOp 3 [a]), (exOp 3 [b])])).v), (eqv (.bool true)), (eqv (.bool true)), (eqv (.func (.func 25) #[] #[.pointer (some ⟨bx, 0, none⟩)])), (eqv (.func (.func 28) #[] #[.pointer (some ⟨bf, 0, none⟩)])), (eqv (.func (.func 27) #[] #[])), (eqv (.agg #[.int .i64 a.op, .int .i64 a.var, .int .i64 a.ty, .int .i64 a.n, .bool a.b, .string ⟨a.s.toArray⟩, .slice Aa a.l.length ca])), (eqv (.agg #[.int .i64 b.op, .int .i64 b.var, .int .i64 b.ty, .int .i64 b.n, .bool b.b, .string ⟨b.s.toArray⟩, .slice Ab b.l.length cb])), (slSP [a, b] 2 (da + db + 1)), (opSP 5 [a, b] 2 (da + db + 1)), (opSP 3 [(exOp 5 [a, b])] 1 ((da + db + 1) + 1)), (eqv (vt x (exOp 3 [(exOp 5 [a, b])])).v), (eqv (.func (.func 25) #[] #[.pointer (some ⟨bx, 0, none⟩)])), (eqv (.func (.func 27) #[] #[])), (eqv (.func (.func 28) #[] #[.pointer (some ⟨bf, 0, none⟩)])), (eqv (.agg #[.int .i64 a.op, .int .i64 a.var, .int .i64 a.ty, .int .i64 a.n, .bool a.b, .string ⟨a.s.toArray⟩, .slice Aa a.l.length ca])), (opSP 3 [a] 1 (da + 1)), (eqv (.func (.func 28) #[] #[.pointer (some ⟨bf, 0, none⟩)])), (eqv (.agg #[.int .i64 b.op, .int .i64 b.var, .int .i64 b.ty, .int .i64 b.n, .bool b.b, .string ⟨b.s.toArray⟩, .slice Ab b.l.length cb])), (opSP 3 [b] 1 (db + 1)), (slSP [(exOp 3 [a]), (exOp 3 [b])] 2 ((da + 1) + (db + 1) + 1)), (opSP 4 [(exOp 3 [a]), (exOp 3 [b])] 2 ((da + 1) + (db + 1) + 1)), (eqv (vt x (exOp 4 [(exOp 3 [a]), (exOp 3 [b])])).v), (eqv (.bool true)), (eqv (.bool true)), (eqv (.bool true)), (eqv (.func (.func 25) #[] #[.pointer (some ⟨bx, 0, none⟩)])), (eqv (.func (.func 28) #[] #[.pointer (some ⟨bf, 0, none⟩)])), (eqv (.func (.func 28) #[] #[.pointer (some ⟨bf, 0, none⟩)])), (eqv (.agg #[.int .i64 a.op, .int .i64 a.var, .int .i64 a.ty, .int .i64 a.n, .bool a.b, .string ⟨a.s.toArray⟩, .slice Aa a.l.length ca])), (opSP 3 [a] 1 (da + 1)), (opSP 3 [(exOp 3 [a])] 1 ((da + 1) + 1)), (eqv (vt x (exOp 3 [(exOp 3 [a])])).v), (eqv (.func (.func 25) #[] #[.pointer (some ⟨bx, 0, none⟩)])), (eqv (.agg #[.int .i64 a.op, .int .i64 a.var, .int .i64 a.ty, .int .i64 a.n, .bool a.b, .string ⟨a.s.toArray⟩, .slice Aa a.l.length ca])), (eqv (vt x a).v), (eqv (.bool true)), (eqv (.bool true))] (by kernel_rfl) (by kernel_rfl) ⟨?o0, ?o1, ?o2, ?o3, ?o4, ?o5, ?o6, ?o7, ?o8, ?o9, ?o10, ?o11, ?o12, ?o13, ?o14, ?o15, ?o16, ?o17, ?o18, ?o19, ?o20, ?o21, ?o22, ?o23, ?o24, ?o25, ?o26, ?o27, ?o28, ?o29, ?o30, ?o31, ?o32, ?o33, ?o34, ?o35, ?o36, ?o37, ?o38, ?o39, ?o40, ?o41, ?o42, ?o43, ?o44, ?o45, ?o46, ?o47, ?o48, ?o49, ?o50, ?o51, ?o52, ?o53, ?o54, ?o55, ?o56, trivial⟩ ?last
  case o0 => -- Op.move (Operand.tmp 7)
    intro xv W hE _
    simp only [putD, List.foldl_nil, List.getD_cons_zero]
    refine OpGoal.plain ?_
    go_wp2_with fail
    exact ⟨rfl, Ext.refl _, rfl⟩
  case o1 => -- Op.move (Operand.tmp 13)
    intro xv W hE _
    simp only [putD, List.foldl_nil, List.getD_cons_zero, List.getD_cons_succ]
    refine OpGoal.plain ?_
    go_wp2_with fail
    exact ⟨rfl, Ext.refl _, rfl⟩
  case o2 => -- Op.load 68 (Operand.tmp 8)
    intro xv W hE _
    have hEW := (Ext.drew w8).trans hE
    have lf := HF.out W hEW
    obtain ⟨la0, la1, la2, la3, la4, la5, la6⟩ := (HIa.out.ext hEW).cells
    obtain ⟨lb0, lb1, lb2, lb3, lb4, lb5, lb6⟩ := (HIb.out.ext hEW).cells
    simp only [putD, List.foldl_nil, List.getD_cons_zero, List.getD_cons_succ]
    refine OpGoal.plain ?_
    go_wp2_with fail
    exact ⟨rfl, Ext.refl _, rfl⟩
  case o3 => -- Op.load 29 (Operand.tmp 9)
    intro xv W hE _
    have hEW := (Ext.drew w8).trans hE
    have lf := HF.out W hEW
    obtain ⟨la0, la1, la2, la3, la4, la5, la6⟩ := (HIa.out.ext hEW).cells
    obtain ⟨lb0, lb1, lb2, lb3, lb4, lb5, lb6⟩ := (HIb.out.ext hEW).cells
    simp only [putD, List.foldl_nil, List.getD_cons_zero, List.getD_cons_succ]
    refine OpGoal.plain ?_
    go_wp2_with fail
    exact ⟨rfl, Ext.refl _, rfl⟩
  case o4 => -- Op.load 29 (Operand.tmp 10)
    intro xv W hE _
    have hEW := (Ext.drew w8).trans hE
    have lf := HF.out W hEW
    obtain ⟨la0, la1, la2, la3, la4, la5, la6⟩ := (HIa.out.ext hEW).cells
    obtain ⟨lb0, lb1, lb2, lb3, lb4, lb5, lb6⟩ := (HIb.out.ext hEW).cells
    simp only [putD, List.foldl_nil, List.getD_cons_zero, List.getD_cons_succ]
    refine OpGoal.plain ?_
    go_wp2_with fail
    exact ⟨rfl, Ext.refl _, rfl⟩
  case o5 => -- Op.buildSlice 27 2 #[(0, Operand.tmp 35), (1, Operand.tmp 36)]
    intro xv W hE hp
    have r3 : xv 3 = _ := hp.1
    have r4 : xv 4 = _ := hp.2.1
    clear hp
    simp only [putD, List.foldl_nil, List.foldl_cons, List.getD_cons_zero, List.getD_cons_succ, Act.put, List.setIfInBounds_toArray, List.set_cons_zero, List.set_cons_succ]
    refine OpGoal.plain ?_
    go_wp2_with fail
    have hEW := (Ext.drew w8).trans hE
    exact ⟨rfl, Ext.alloc _ _, W.heap.size, rfl, row2' W a Aa ca da b Ab cb db (ExL.ext HXa.out hEW) (ExL.ext HXb.out hEW)⟩
  case o6 => -- Op.call { callee := Callee.value (Operand.tmp 34), args := #[Operand.const (Valu
    intro xv W hE hp
    have r2 : xv 2 = _ := hp.1
    obtain ⟨g5, r5, h5⟩ := hp.2.1
    clear hp
    simp only [putD, List.foldl_nil, List.foldl_cons, List.getD_cons_zero, List.getD_cons_succ, Act.put, List.setIfInBounds_toArray, List.set_cons_zero, List.set_cons_succ]
    refine OpGoal.plain ?_
    go_wp2_with fail
    refine (op_any 4 [a, b] (some ⟨g5, 0, none⟩) 2 2 rfl W).mono ?_
    rintro e w' ⟨rfl, hE9⟩
    go_wp2_with fail
    exact ⟨rfl, hE9, g5, 2, rfl, ExL.ext h5 hE9⟩
  case o7 => -- Op.call { callee := Callee.value (Operand.tmp 33), args := #[Operand.tmp 38], ar
    intro xv W hE hp
    have r1 : xv 1 = _ := hp.1
    obtain ⟨g6, n6, r6, h6⟩ := hp.2.1
    clear hp
    simp only [putD, List.foldl_nil, List.foldl_cons, List.getD_cons_zero, List.getD_cons_succ, Act.put, List.setIfInBounds_toArray, List.set_cons_zero, List.set_cons_succ]
    refine OpGoal.plain ?_
    go_wp2_with fail
    have hEW := (Ext.drew w8).trans hE
    refine (not_any (exOp 4 [a, b]) (some ⟨g6, 0, none⟩) n6 (da + db + 1) bf W h6 (Nat.lt_of_lt_of_le hbf hEW.sz) (HF.out W hEW)).mono ?_
    rintro e w' ⟨g, c, rfl, hX, hE9⟩
    go_wp2_with fail
    exact ⟨rfl, hE9, g, c, rfl, hX⟩
  case o8 => -- Op.call { callee := Callee.value (Operand.tmp 32), args := #[Operand.tmp 39], ar
    intro xv W hE hp
    have r0 : xv 0 = _ := hp.1
    obtain ⟨g7, n7, r7, h7⟩ := hp.2.1
    clear hp
    simp only [putD, List.foldl_nil, List.foldl_cons, List.getD_cons_zero, List.getD_cons_succ, Act.put, List.setIfInBounds_toArray, List.set_cons_zero, List.set_cons_succ]
    refine OpGoal.plain ?_
    go_wp2_with fail
    have hEW := (Ext.drew w8).trans hE
    refine (val_any x (exOp 3 [(exOp 4 [a, b])]) 2 (some ⟨g7, 0, none⟩) n7 ((da + db + 1) + 1) bx W (rt_not (rt_and HRa.out HRb.out)) (by first | omega | (simp only [size_1, size_2, size_3]; omega)) h7 (HEn.out.ext hEW)).mono ?_
    rintro r w' ⟨rfl, hE9⟩
    go_wp2_with fail
    exact ⟨rfl, hE9, rfl⟩
  case o9 => -- Op.move (Operand.tmp 7)
    intro xv W hE _
    simp only [putD, List.foldl_nil, List.getD_cons_zero, List.getD_cons_succ]
    refine OpGoal.plain ?_
    go_wp2_with fail
    exact ⟨rfl, Ext.refl _, rfl⟩
  case o10 => -- Op.load 68 (Operand.tmp 8)
    intro xv W hE _
    have hEW := (Ext.drew w8).trans hE
    have lf := HF.out W hEW
    obtain ⟨la0, la1, la2, la3, la4, la5, la6⟩ := (HIa.out.ext hEW).cells
    obtain ⟨lb0, lb1, lb2, lb3, lb4, lb5, lb6⟩ := (HIb.out.ext hEW).cells
    simp only [putD, List.foldl_nil, List.getD_cons_zero, List.getD_cons_succ]
    refine OpGoal.plain ?_
    go_wp2_with fail
    exact ⟨rfl, Ext.refl _, rfl⟩
  case o11 => -- Op.move (Operand.tmp 13)
    intro xv W hE _
    simp only [putD, List.foldl_nil, List.getD_cons_zero, List.getD_cons_succ]
    refine OpGoal.plain ?_
    go_wp2_with fail
    exact ⟨rfl, Ext.refl _, rfl⟩
  case o12 => -- Op.load 29 (Operand.tmp 9)
    intro xv W hE _
    have hEW := (Ext.drew w8).trans hE
    have lf := HF.out W hEW
    obtain ⟨la0, la1, la2, la3, la4, la5, la6⟩ := (HIa.out.ext hEW).cells
    obtain ⟨lb0, lb1, lb2, lb3, lb4, lb5, lb6⟩ := (HIb.out.ext hEW).cells
    simp only [putD, List.foldl_nil, List.getD_cons_zero, List.getD_cons_succ]
    refine OpGoal.plain ?_
    go_wp2_with fail
    exact ⟨rfl, Ext.refl _, rfl⟩
  case o13 => -- Op.call { callee := Callee.value (Operand.tmp 43), args := #[Operand.tmp 44], ar
    intro xv W hE hp
    have r11 : xv 11 = _ := hp.1
    have r12 : xv 12 = _ := hp.2.1
    clear hp
    simp only [putD, List.foldl_nil, List.foldl_cons, List.getD_cons_zero, List.getD_cons_succ, Act.put, List.setIfInBounds_toArray, List.set_cons_zero, List.set_cons_succ]
    refine OpGoal.plain ?_
    go_wp2_with fail
    have hEW := (Ext.drew w8).trans hE
    refine (not_any a Aa ca da bf W (ExL.ext HXa.out hEW) (Nat.lt_of_lt_of_le hbf hEW.sz) (HF.out W hEW)).mono ?_
    rintro e w' ⟨g, c, rfl, hX, hE9⟩
    go_wp2_with fail
    exact ⟨rfl, hE9, g, c, rfl, hX⟩
  case o14 => -- Op.move (Operand.tmp 13)
    intro xv W hE _
    simp only [putD, List.foldl_nil, List.getD_cons_zero, List.getD_cons_succ]
    refine OpGoal.plain ?_
    go_wp2_with fail
    exact ⟨rfl, Ext.refl _, rfl⟩
  case o15 => -- Op.load 29 (Operand.tmp 10)
    intro xv W hE _
    have hEW := (Ext.drew w8).trans hE
    have lf := HF.out W hEW
    obtain ⟨la0, la1, la2, la3, la4, la5, la6⟩ := (HIa.out.ext hEW).cells
    obtain ⟨lb0, lb1, lb2, lb3, lb4, lb5, lb6⟩ := (HIb.out.ext hEW).cells
    simp only [putD, List.foldl_nil, List.getD_cons_zero, List.getD_cons_succ]
    refine OpGoal.plain ?_
    go_wp2_with fail
    exact ⟨rfl, Ext.refl _, rfl⟩
  case o16 => -- Op.call { callee := Callee.value (Operand.tmp 46), args := #[Operand.tmp 47], ar
    intro xv W hE hp
    have r14 : xv 14 = _ := hp.1
    have r15 : xv 15 = _ := hp.2.1
    clear hp
    simp only [putD, List.foldl_nil, List.foldl_cons, List.getD_cons_zero, List.getD_cons_succ, Act.put, List.setIfInBounds_toArray, List.set_cons_zero, List.set_cons_succ]
    refine OpGoal.plain ?_
    go_wp2_with fail
    have hEW := (Ext.drew w8).trans hE
    refine (not_any b Ab cb db bf W (ExL.ext HXb.out hEW) (Nat.lt_of_lt_of_le hbf hEW.sz) (HF.out W hEW)).mono ?_
    rintro e w' ⟨g, c, rfl, hX, hE9⟩
    go_wp2_with fail
    exact ⟨rfl, hE9, g, c, rfl, hX⟩
  case o17 => -- Op.buildSlice 27 2 #[(0, Operand.tmp 45), (1, Operand.tmp 48)]
    intro xv W hE hp
    obtain ⟨g13, n13, r13, h13⟩ := hp.1
    obtain ⟨g16, n16, r16, h16⟩ := hp.2.1
    clear hp
    simp only [putD, List.foldl_nil, List.foldl_cons, List.getD_cons_zero, List.getD_cons_succ, Act.put, List.setIfInBounds_toArray, List.set_cons_zero, List.set_cons_succ]
    refine OpGoal.plain ?_
    go_wp2_with fail
    have hEW := (Ext.drew w8).trans hE
    exact ⟨rfl, Ext.alloc _ _, W.heap.size, rfl, row2' W (exOp 3 [a]) (some ⟨g13, 0, none⟩) n13 (da + 1) (exOp 3 [b]) (some ⟨g16, 0, none⟩) n16 (db + 1) h13 h16⟩
  case o18 => -- Op.call { callee := Callee.value (Operand.tmp 42), args := #[Operand.const (Valu
    intro xv W hE hp
    have r10 : xv 10 = _ := hp.1
    obtain ⟨g17, r17, h17⟩ := hp.2.1
    clear hp
    simp only [putD, List.foldl_nil, List.foldl_cons, List.getD_cons_zero, List.getD_cons_succ, Act.put, List.setIfInBounds_toArray, List.set_cons_zero, List.set_cons_succ]
    refine OpGoal.plain ?_
    go_wp2_with fail
    refine (op_any 5 [(exOp 3 [a]), (exOp 3 [b])] (some ⟨g17, 0, none⟩) 2 2 rfl W).mono ?_
    rintro e w' ⟨rfl, hE9⟩
    go_wp2_with fail
    exact ⟨rfl, hE9, g17, 2, rfl, ExL.ext h17 hE9⟩
  case o19 => -- Op.call { callee := Callee.value (Operand.tmp 41), args := #[Operand.tmp 50], ar
    intro xv W hE hp
    have r9 : xv 9 = _ := hp.1
    obtain ⟨g18, n18, r18, h18⟩ := hp.2.1
    clear hp
    simp only [putD, List.foldl_nil, List.foldl_cons, List.getD_cons_zero, List.getD_cons_succ, Act.put, List.setIfInBounds_toArray, List.set_cons_zero, List.set_cons_succ]
    refine OpGoal.plain ?_
    go_wp2_with fail
    have hEW := (Ext.drew w8).trans hE
    refine (val_any x (exOp 5 [(exOp 3 [a]), (exOp 3 [b])]) 2 (some ⟨g18, 0, none⟩) n18 ((da + 1) + (db + 1) + 1) bx W (rt_or (rt_not HRa.out) (rt_not HRb.out)) (by first | omega | (simp only [size_1, size_2, size_3]; omega)) h18 (HEn.out.ext hEW)).mono ?_
    rintro r w' ⟨rfl, hE9⟩
    go_wp2_with fail
    exact ⟨rfl, hE9, rfl⟩
  case o20 => -- Op.binOp BinOp.eql 26 (Operand.tmp 40) (Operand.tmp 51) 26
    intro xv W hE hp
    have r8 : xv 8 = _ := hp.1
    have r19 : xv 19 = _ := hp.2.1
    clear hp
    have hm := morgan1 x a b
    rw [hm] at r8
    unfold Vl.v at r8 r19
    have VE := veq (vt x (exOp 5 [(exOp 3 [a]), (exOp 3 [b])]))
    simp only [putD, List.foldl_nil, List.foldl_cons, List.getD_cons_zero, List.getD_cons_succ, Act.put, List.setIfInBounds_toArray, List.set_cons_zero, List.set_cons_succ]
    refine OpGoal.plain ?_
    go_wp2_with fail
    exact ⟨rfl, Ext.refl _, rfl⟩
  case o21 => -- Op.move (Operand.tmp 52)
    intro xv W hE hp
    have r20 : xv 20 = _ := hp.1
    clear hp
    simp only [putD, List.foldl_nil, List.foldl_cons, List.getD_cons_zero, List.getD_cons_succ, Act.put, List.setIfInBounds_toArray, List.set_cons_zero, List.set_cons_succ]
    refine OpGoal.plain ?_
    go_wp2_with fail
    exact ⟨rfl, Ext.refl _, rfl⟩
  case o22 => -- Op.move (Operand.tmp 7)  GUARD (21, 'true')
    intro xv W hE hp
    have r21 : xv 21 = _ := hp.1
    clear hp
    simp only [putD, List.foldl_nil, List.foldl_cons, List.getD_cons_zero, List.getD_cons_succ, Act.put, List.setIfInBounds_toArray, List.set_cons_zero, List.set_cons_succ]
    refine OpGoal.yes (by simp [yieldD, r21]) ?_
    go_wp2_with fail
    exact ⟨rfl, Ext.refl _, rfl⟩
  case o23 => -- Op.move (Operand.tmp 13)  GUARD (21, 'true')
    intro xv W hE hp
    have r21 : xv 21 = _ := hp.1
    clear hp
    simp only [putD, List.foldl_nil, List.foldl_cons, List.getD_cons_zero, List.getD_cons_succ, Act.put, List.setIfInBounds_toArray, List.set_cons_zero, List.set_cons_succ]
    refine OpGoal.yes (by simp [yieldD, r21]) ?_
    go_wp2_with fail
    exact ⟨rfl, Ext.refl _, rfl⟩
  case o24 => -- Op.load 68 (Operand.tmp 8)  GUARD (21, 'true')
    intro xv W hE hp
    have r21 : xv 21 = _ := hp.1
    clear hp
    have hEW := (Ext.drew w8).trans hE
    have lf := HF.out W hEW
    obtain ⟨la0, la1, la2, la3, la4, la5, la6⟩ := (HIa.out.ext hEW).cells
    obtain ⟨lb0, lb1, lb2, lb3, lb4, lb5, lb6⟩ := (HIb.out.ext hEW).cells
    simp only [putD, List.foldl_nil, List.foldl_cons, List.getD_cons_zero, List.getD_cons_succ, Act.put, List.setIfInBounds_toArray, List.set_cons_zero, List.set_cons_succ]
    refine OpGoal.yes (by simp [yieldD, r21]) ?_
    go_wp2_with fail
    exact ⟨rfl, Ext.refl _, rfl⟩
  case o25 => -- Op.load 29 (Operand.tmp 9)  GUARD (21, 'true')
    intro xv W hE hp
    have r21 : xv 21 = _ := hp.1
    clear hp
    have hEW := (Ext.drew w8).trans hE
    have lf := HF.out W hEW
    obtain ⟨la0, la1, la2, la3, la4, la5, la6⟩ := (HIa.out.ext hEW).cells
    obtain ⟨lb0, lb1, lb2, lb3, lb4, lb5, lb6⟩ := (HIb.out.ext hEW).cells
    simp only [putD, List.foldl_nil, List.foldl_cons, List.getD_cons_zero, List.getD_cons_succ, Act.put, List.setIfInBounds_toArray, List.set_cons_zero, List.set_cons_succ]
    refine OpGoal.yes (by simp [yieldD, r21]) ?_
    go_wp2_with fail
    exact ⟨rfl, Ext.refl _, rfl⟩
  case o26 => -- Op.load 29 (Operand.tmp 10)  GUARD (21, 'true')
    intro xv W hE hp
    have r21 : xv 21 = _ := hp.1
    clear hp
    have hEW := (Ext.drew w8).trans hE
    have lf := HF.out W hEW
    obtain ⟨la0, la1, la2, la3, la4, la5, la6⟩ := (HIa.out.ext hEW).cells
    obtain ⟨lb0, lb1, lb2, lb3, lb4, lb5, lb6⟩ := (HIb.out.ext hEW).cells
    simp only [putD, List.foldl_nil, List.foldl_cons, List.getD_cons_zero, List.getD_cons_succ, Act.put, List.setIfInBounds_toArray, List.set_cons_zero, List.set_cons_succ]
    refine OpGoal.yes (by simp [yieldD, r21]) ?_
    go_wp2_with fail
    exact ⟨rfl, Ext.refl _, rfl⟩
  case o27 => -- Op.buildSlice 27 2 #[(0, Operand.tmp 57), (1, Operand.tmp 58)]  GUARD (21, 'true
    intro xv W hE hp
    have r21 : xv 21 = _ := hp.1
    have r25 : xv 25 = _ := hp.2.1
    have r26 : xv 26 = _ := hp.2.2.1
    clear hp
    simp only [putD, List.foldl_nil, List.foldl_cons, List.getD_cons_zero, List.getD_cons_succ, Act.put, List.setIfInBounds_toArray, List.set_cons_zero, List.set_cons_succ]
    refine OpGoal.yes (by simp [yieldD, r21]) ?_
    go_wp2_with fail
    have hEW := (Ext.drew w8).trans hE
    exact ⟨rfl, Ext.alloc _ _, W.heap.size, rfl, row2' W a Aa ca da b Ab cb db (ExL.ext HXa.out hEW) (ExL.ext HXb.out hEW)⟩
  case o28 => -- Op.call { callee := Callee.value (Operand.tmp 56), args := #[Operand.const (Valu
    intro xv W hE hp
    have r21 : xv 21 = _ := hp.1
    have r24 : xv 24 = _ := hp.2.1
    obtain ⟨g27, r27, h27⟩ := hp.2.2.1
    clear hp
    simp only [putD, List.foldl_nil, List.foldl_cons, List.getD_cons_zero, List.getD_cons_succ, Act.put, List.setIfInBounds_toArray, List.set_cons_zero, List.set_cons_succ]
    refine OpGoal.yes (by simp [yieldD, r21]) ?_
    go_wp2_with fail
    refine (op_any 5 [a, b] (some ⟨g27, 0, none⟩) 2 2 rfl W).mono ?_
    rintro e w' ⟨rfl, hE9⟩
    go_wp2_with fail
    exact ⟨rfl, hE9, g27, 2, rfl, ExL.ext h27 hE9⟩
  case o29 => -- Op.call { callee := Callee.value (Operand.tmp 55), args := #[Operand.tmp 60], ar
    intro xv W hE hp
    have r21 : xv 21 = _ := hp.1
    have r23 : xv 23 = _ := hp.2.1
    obtain ⟨g28, n28, r28, h28⟩ := hp.2.2.1
    clear hp
    simp only [putD, List.foldl_nil, List.foldl_cons, List.getD_cons_zero, List.getD_cons_succ, Act.put, List.setIfInBounds_toArray, List.set_cons_zero, List.set_cons_succ]
    refine OpGoal.yes (by simp [yieldD, r21]) ?_
    go_wp2_with fail
    have hEW := (Ext.drew w8).trans hE
    refine (not_any (exOp 5 [a, b]) (some ⟨g28, 0, none⟩) n28 (da + db + 1) bf W h28 (Nat.lt_of_lt_of_le hbf hEW.sz) (HF.out W hEW)).mono ?_
    rintro e w' ⟨g, c, rfl, hX, hE9⟩
    go_wp2_with fail
    exact ⟨rfl, hE9, g, c, rfl, hX⟩
  case o30 => -- Op.call { callee := Callee.value (Operand.tmp 54), args := #[Operand.tmp 61], ar
    intro xv W hE hp
    have r21 : xv 21 = _ := hp.1
    have r22 : xv 22 = _ := hp.2.1
    obtain ⟨g29, n29, r29, h29⟩ := hp.2.2.1
    clear hp
    simp only [putD, List.foldl_nil, List.foldl_cons, List.getD_cons_zero, List.getD_cons_succ, Act.put, List.setIfInBounds_toArray, List.set_cons_zero, List.set_cons_succ]
    refine OpGoal.yes (by simp [yieldD, r21]) ?_
    go_wp2_with fail
    have hEW := (Ext.drew w8).trans hE
    refine (val_any x (exOp 3 [(exOp 5 [a, b])]) 2 (some ⟨g29, 0, none⟩) n29 ((da + db + 1) + 1) bx W (rt_not (rt_or HRa.out HRb.out)) (by first | omega | (simp only [size_1, size_2, size_3]; omega)) h29 (HEn.out.ext hEW)).mono ?_
    rintro r w' ⟨rfl, hE9⟩
    go_wp2_with fail
    exact ⟨rfl, hE9, rfl⟩
  case o31 => -- Op.move (Operand.tmp 7)  GUARD (21, 'true')
    intro xv W hE hp
    have r21 : xv 21 = _ := hp.1
    clear hp
    simp only [putD, List.foldl_nil, List.foldl_cons, List.getD_cons_zero, List.getD_cons_succ, Act.put, List.setIfInBounds_toArray, List.set_cons_zero, List.set_cons_succ]
    refine OpGoal.yes (by simp [yieldD, r21]) ?_
    go_wp2_with fail
    exact ⟨rfl, Ext.refl _, rfl⟩
  case o32 => -- Op.load 68 (Operand.tmp 8)  GUARD (21, 'true')
    intro xv W hE hp
    have r21 : xv 21 = _ := hp.1
    clear hp
    have hEW := (Ext.drew w8).trans hE
    have lf := HF.out W hEW
    obtain ⟨la0, la1, la2, la3, la4, la5, la6⟩ := (HIa.out.ext hEW).cells
    obtain ⟨lb0, lb1, lb2, lb3, lb4, lb5, lb6⟩ := (HIb.out.ext hEW).cells
    simp only [putD, List.foldl_nil, List.foldl_cons, List.getD_cons_zero, List.getD_cons_succ, Act.put, List.setIfInBounds_toArray, List.set_cons_zero, List.set_cons_succ]
    refine OpGoal.yes (by simp [yieldD, r21]) ?_
    go_wp2_with fail
    exact ⟨rfl, Ext.refl _, rfl⟩
  case o33 => -- Op.move (Operand.tmp 13)  GUARD (21, 'true')
    intro xv W hE hp
    have r21 : xv 21 = _ := hp.1
    clear hp
    simp only [putD, List.foldl_nil, List.foldl_cons, List.getD_cons_zero, List.getD_cons_succ, Act.put, List.setIfInBounds_toArray, List.set_cons_zero, List.set_cons_succ]
    refine OpGoal.yes (by simp [yieldD, r21]) ?_
    go_wp2_with fail
    exact ⟨rfl, Ext.refl _, rfl⟩
  case o34 => -- Op.load 29 (Operand.tmp 9)  GUARD (21, 'true')
    intro xv W hE hp
    have r21 : xv 21 = _ := hp.1
    clear hp
    have hEW := (Ext.drew w8).trans hE
    have lf := HF.out W hEW
    obtain ⟨la0, la1, la2, la3, la4, la5, la6⟩ := (HIa.out.ext hEW).cells
    obtain ⟨lb0, lb1, lb2, lb3, lb4, lb5, lb6⟩ := (HIb.out.ext hEW).cells
    simp only [putD, List.foldl_nil, List.foldl_cons, List.getD_cons_zero, List.getD_cons_succ, Act.put, List.setIfInBounds_toArray, List.set_cons_zero, List.set_cons_succ]
    refine OpGoal.yes (by simp [yieldD, r21]) ?_
    go_wp2_with fail
    exact ⟨rfl, Ext.refl _, rfl⟩
  case o35 => -- Op.call { callee := Callee.value (Operand.tmp 65), args := #[Operand.tmp 66], ar
    intro xv W hE hp
    have r21 : xv 21 = _ := hp.1
    have r33 : xv 33 = _ := hp.2.1
    have r34 : xv 34 = _ := hp.2.2.1
    clear hp
    simp only [putD, List.foldl_nil, List.foldl_cons, List.getD_cons_zero, List.getD_cons_succ, Act.put, List.setIfInBounds_toArray, List.set_cons_zero, List.set_cons_succ]
    refine OpGoal.yes (by simp [yieldD, r21]) ?_
    go_wp2_with fail
    have hEW := (Ext.drew w8).trans hE
    refine (not_any a Aa ca da bf W (ExL.ext HXa.out hEW) (Nat.lt_of_lt_of_le hbf hEW.sz) (HF.out W hEW)).mono ?_
    rintro e w' ⟨g, c, rfl, hX, hE9⟩
    go_wp2_with fail
    exact ⟨rfl, hE9, g, c, rfl, hX⟩
  case o36 => -- Op.move (Operand.tmp 13)  GUARD (21, 'true')
    intro xv W hE hp
    have r21 : xv 21 = _ := hp.1
    clear hp
    simp only [putD, List.foldl_nil, List.foldl_cons, List.getD_cons_zero, List.getD_cons_succ, Act.put, List.setIfInBounds_toArray, List.set_cons_zero, List.set_cons_succ]
    refine OpGoal.yes (by simp [yieldD, r21]) ?_
    go_wp2_with fail
    exact ⟨rfl, Ext.refl _, rfl⟩
  case o37 => -- Op.load 29 (Operand.tmp 10)  GUARD (21, 'true')
    intro xv W hE hp
    have r21 : xv 21 = _ := hp.1
    clear hp
    have hEW := (Ext.drew w8).trans hE
    have lf := HF.out W hEW
    obtain ⟨la0, la1, la2, la3, la4, la5, la6⟩ := (HIa.out.ext hEW).cells
    obtain ⟨lb0, lb1, lb2, lb3, lb4, lb5, lb6⟩ := (HIb.out.ext hEW).cells
    simp only [putD, List.foldl_nil, List.foldl_cons, List.getD_cons_zero, List.getD_cons_succ, Act.put, List.setIfInBounds_toArray, List.set_cons_zero, List.set_cons_succ]
    refine OpGoal.yes (by simp [yieldD, r21]) ?_
    go_wp2_with fail
    exact ⟨rfl, Ext.refl _, rfl⟩
  case o38 => -- Op.call { callee := Callee.value (Operand.tmp 68), args := #[Operand.tmp 69], ar
    intro xv W hE hp
    have r21 : xv 21 = _ := hp.1
    have r36 : xv 36 = _ := hp.2.1
    have r37 : xv 37 = _ := hp.2.2.1
    clear hp
    simp only [putD, List.foldl_nil, List.foldl_cons, List.getD_cons_zero, List.getD_cons_succ, Act.put, List.setIfInBounds_toArray, List.set_cons_zero, List.set_cons_succ]
    refine OpGoal.yes (by simp [yieldD, r21]) ?_
    go_wp2_with fail
    have hEW := (Ext.drew w8).trans hE
    refine (not_any b Ab cb db bf W (ExL.ext HXb.out hEW) (Nat.lt_of_lt_of_le hbf hEW.sz) (HF.out W hEW)).mono ?_
    rintro e w' ⟨g, c, rfl, hX, hE9⟩
    go_wp2_with fail
    exact ⟨rfl, hE9, g, c, rfl, hX⟩
  case o39 => -- Op.buildSlice 27 2 #[(0, Operand.tmp 67), (1, Operand.tmp 70)]  GUARD (21, 'true
    intro xv W hE hp
    have r21 : xv 21 = _ := hp.1
    obtain ⟨g35, n35, r35, h35⟩ := hp.2.1
    obtain ⟨g38, n38, r38, h38⟩ := hp.2.2.1
    clear hp
    simp only [putD, List.foldl_nil, List.foldl_cons, List.getD_cons_zero, List.getD_cons_succ, Act.put, List.setIfInBounds_toArray, List.set_cons_zero, List.set_cons_succ]
    refine OpGoal.yes (by simp [yieldD, r21]) ?_
    go_wp2_with fail
    have hEW := (Ext.drew w8).trans hE
    exact ⟨rfl, Ext.alloc _ _, W.heap.size, rfl, row2' W (exOp 3 [a]) (some ⟨g35, 0, none⟩) n35 (da + 1) (exOp 3 [b]) (some ⟨g38, 0, none⟩) n38 (db + 1) h35 h38⟩
  case o40 => -- Op.call { callee := Callee.value (Operand.tmp 64), args := #[Operand.const (Valu
    intro xv W hE hp
    have r21 : xv 21 = _ := hp.1
    have r32 : xv 32 = _ := hp.2.1
    obtain ⟨g39, r39, h39⟩ := hp.2.2.1
    clear hp
    simp only [putD, List.foldl_nil, List.foldl_cons, List.getD_cons_zero, List.getD_cons_succ, Act.put, List.setIfInBounds_toArray, List.set_cons_zero, List.set_cons_succ]
    refine OpGoal.yes (by simp [yieldD, r21]) ?_
    go_wp2_with fail
    refine (op_any 4 [(exOp 3 [a]), (exOp 3 [b])] (some ⟨g39, 0, none⟩) 2 2 rfl W).mono ?_
    rintro e w' ⟨rfl, hE9⟩
    go_wp2_with fail
    exact ⟨rfl, hE9, g39, 2, rfl, ExL.ext h39 hE9⟩
  case o41 => -- Op.call { callee := Callee.value (Operand.tmp 63), args := #[Operand.tmp 72], ar
    intro xv W hE hp
    have r21 : xv 21 = _ := hp.1
    have r31 : xv 31 = _ := hp.2.1
    obtain ⟨g40, n40, r40, h40⟩ := hp.2.2.1
    clear hp
    simp only [putD, List.foldl_nil, List.foldl_cons, List.getD_cons_zero, List.getD_cons_succ, Act.put, List.setIfInBounds_toArray, List.set_cons_zero, List.set_cons_succ]
    refine OpGoal.yes (by simp [yieldD, r21]) ?_
    go_wp2_with fail
    have hEW := (Ext.drew w8).trans hE
    refine (val_any x (exOp 4 [(exOp 3 [a]), (exOp 3 [b])]) 2 (some ⟨g40, 0, none⟩) n40 ((da + 1) + (db + 1) + 1) bx W (rt_and (rt_not HRa.out) (rt_not HRb.out)) (by first | omega | (simp only [size_1, size_2, size_3]; omega)) h40 (HEn.out.ext hEW)).mono ?_
    rintro r w' ⟨rfl, hE9⟩
    go_wp2_with fail
    exact ⟨rfl, hE9, rfl⟩
  case o42 => -- Op.binOp BinOp.eql 26 (Operand.tmp 62) (Operand.tmp 73) 26  GUARD (21, 'true')
    intro xv W hE hp
    have r21 : xv 21 = _ := hp.1
    have r30 : xv 30 = _ := hp.2.1
    have r41 : xv 41 = _ := hp.2.2.1
    clear hp
    have hm := morgan2 x a b
    rw [hm] at r30
    unfold Vl.v at r30 r41
    have VE := veq (vt x (exOp 4 [(exOp 3 [a]), (exOp 3 [b])]))
    simp only [putD, List.foldl_nil, List.foldl_cons, List.getD_cons_zero, List.getD_cons_succ, Act.put, List.setIfInBounds_toArray, List.set_cons_zero, List.set_cons_succ]
    refine OpGoal.yes (by simp [yieldD, r21]) ?_
    go_wp2_with fail
    exact ⟨rfl, Ext.refl _, rfl⟩
  case o43 => -- Op.pick (Operand.tmp 53) (Operand.tmp 74) (Operand.const (Value.bool false))
    intro xv W hE hp
    have r21 : xv 21 = _ := hp.1
    have r42 : xv 42 = _ := hp.2.1
    clear hp
    simp only [putD, List.foldl_nil, List.foldl_cons, List.getD_cons_zero, List.getD_cons_succ, Act.put, List.setIfInBounds_toArray, List.set_cons_zero, List.set_cons_succ]
    refine OpGoal.plain ?_
    go_wp2_with fail
    exact ⟨rfl, Ext.refl _, rfl⟩
  case o44 => -- Op.move (Operand.tmp 75)
    intro xv W hE hp
    have r43 : xv 43 = _ := hp.1
    clear hp
    simp only [putD, List.foldl_nil, List.foldl_cons, List.getD_cons_zero, List.getD_cons_succ, Act.put, List.setIfInBounds_toArray, List.set_cons_zero, List.set_cons_succ]
    refine OpGoal.plain ?_
    go_wp2_with fail
    exact ⟨rfl, Ext.refl _, rfl⟩
  case o45 => -- Op.move (Operand.tmp 7)  GUARD (44, 'true')
    intro xv W hE hp
    have r44 : xv 44 = _ := hp.1
    clear hp
    simp only [putD, List.foldl_nil, List.foldl_cons, List.getD_cons_zero, List.getD_cons_succ, Act.put, List.setIfInBounds_toArray, List.set_cons_zero, List.set_cons_succ]
    refine OpGoal.yes (by simp [yieldD, r44]) ?_
    go_wp2_with fail
    exact ⟨rfl, Ext.refl _, rfl⟩
  case o46 => -- Op.move (Operand.tmp 13)  GUARD (44, 'true')
    intro xv W hE hp
    have r44 : xv 44 = _ := hp.1
    clear hp
    simp only [putD, List.foldl_nil, List.foldl_cons, List.getD_cons_zero, List.getD_cons_succ, Act.put, List.setIfInBounds_toArray, List.set_cons_zero, List.set_cons_succ]
    refine OpGoal.yes (by simp [yieldD, r44]) ?_
    go_wp2_with fail
    exact ⟨rfl, Ext.refl _, rfl⟩
  case o47 => -- Op.move (Operand.tmp 13)  GUARD (44, 'true')
    intro xv W hE hp
    have r44 : xv 44 = _ := hp.1
    clear hp
    simp only [putD, List.foldl_nil, List.foldl_cons, List.getD_cons_zero, List.getD_cons_succ, Act.put, List.setIfInBounds_toArray, List.set_cons_zero, List.set_cons_succ]
    refine OpGoal.yes (by simp [yieldD, r44]) ?_
    go_wp2_with fail
    exact ⟨rfl, Ext.refl _, rfl⟩
  case o48 => -- Op.load 29 (Operand.tmp 9)  GUARD (44, 'true')
    intro xv W hE hp
    have r44 : xv 44 = _ := hp.1
    clear hp
    have hEW := (Ext.drew w8).trans hE
    have lf := HF.out W hEW
    obtain ⟨la0, la1, la2, la3, la4, la5, la6⟩ := (HIa.out.ext hEW).cells
    obtain ⟨lb0, lb1, lb2, lb3, lb4, lb5, lb6⟩ := (HIb.out.ext hEW).cells
    simp only [putD, List.foldl_nil, List.foldl_cons, List.getD_cons_zero, List.getD_cons_succ, Act.put, List.setIfInBounds_toArray, List.set_cons_zero, List.set_cons_succ]
    refine OpGoal.yes (by simp [yieldD, r44]) ?_
    go_wp2_with fail
    exact ⟨rfl, Ext.refl _, rfl⟩
  case o49 => -- Op.call { callee := Callee.value (Operand.tmp 79), args := #[Operand.tmp 80], ar
    intro xv W hE hp
    have r44 : xv 44 = _ := hp.1
    have r47 : xv 47 = _ := hp.2.1
    have r48 : xv 48 = _ := hp.2.2.1
    clear hp
    simp only [putD, List.foldl_nil, List.foldl_cons, List.getD_cons_zero, List.getD_cons_succ, Act.put, List.setIfInBounds_toArray, List.set_cons_zero, List.set_cons_succ]
    refine OpGoal.yes (by simp [yieldD, r44]) ?_
    go_wp2_with fail
    have hEW := (Ext.drew w8).trans hE
    refine (not_any a Aa ca da bf W (ExL.ext HXa.out hEW) (Nat.lt_of_lt_of_le hbf hEW.sz) (HF.out W hEW)).mono ?_
    rintro e w' ⟨g, c, rfl, hX, hE9⟩
    go_wp2_with fail
    exact ⟨rfl, hE9, g, c, rfl, hX⟩
  case o50 => -- Op.call { callee := Callee.value (Operand.tmp 78), args := #[Operand.tmp 81], ar
    intro xv W hE hp
    have r44 : xv 44 = _ := hp.1
    have r46 : xv 46 = _ := hp.2.1
    obtain ⟨g49, n49, r49, h49⟩ := hp.2.2.1
    clear hp
    simp only [putD, List.foldl_nil, List.foldl_cons, List.getD_cons_zero, List.getD_cons_succ, Act.put, List.setIfInBounds_toArray, List.set_cons_zero, List.set_cons_succ]
    refine OpGoal.yes (by simp [yieldD, r44]) ?_
    go_wp2_with fail
    have hEW := (Ext.drew w8).trans hE
    refine (not_any (exOp 3 [a]) (some ⟨g49, 0, none⟩) n49 (da + 1) bf W h49 (Nat.lt_of_lt_of_le hbf hEW.sz) (HF.out W hEW)).mono ?_
    rintro e w' ⟨g, c, rfl, hX, hE9⟩
    go_wp2_with fail
    exact ⟨rfl, hE9, g, c, rfl, hX⟩
  case o51 => -- Op.call { callee := Callee.value (Operand.tmp 77), args := #[Operand.tmp 82], ar
    intro xv W hE hp
    have r44 : xv 44 = _ := hp.1
    have r45 : xv 45 = _ := hp.2.1
    obtain ⟨g50, n50, r50, h50⟩ := hp.2.2.1
    clear hp
    simp only [putD, List.foldl_nil, List.foldl_cons, List.getD_cons_zero, List.getD_cons_succ, Act.put, List.setIfInBounds_toArray, List.set_cons_zero, List.set_cons_succ]
    refine OpGoal.yes (by simp [yieldD, r44]) ?_
    go_wp2_with fail
    have hEW := (Ext.drew w8).trans hE
    refine (val_any x (exOp 3 [(exOp 3 [a])]) 2 (some ⟨g50, 0, none⟩) n50 ((da + 1) + 1) bx W (rt_not (rt_not HRa.out)) (by first | omega | (simp only [size_1, size_2, size_3]; omega)) h50 (HEn.out.ext hEW)).mono ?_
    rintro r w' ⟨rfl, hE9⟩
    go_wp2_with fail
    exact ⟨rfl, hE9, rfl⟩
  case o52 => -- Op.move (Operand.tmp 7)  GUARD (44, 'true')
    intro xv W hE hp
    have r44 : xv 44 = _ := hp.1
    clear hp
    simp only [putD, List.foldl_nil, List.foldl_cons, List.getD_cons_zero, List.getD_cons_succ, Act.put, List.setIfInBounds_toArray, List.set_cons_zero, List.set_cons_succ]
    refine OpGoal.yes (by simp [yieldD, r44]) ?_
    go_wp2_with fail
    exact ⟨rfl, Ext.refl _, rfl⟩
  case o53 => -- Op.load 29 (Operand.tmp 9)  GUARD (44, 'true')
    intro xv W hE hp
    have r44 : xv 44 = _ := hp.1
    clear hp
    have hEW := (Ext.drew w8).trans hE
    have lf := HF.out W hEW
    obtain ⟨la0, la1, la2, la3, la4, la5, la6⟩ := (HIa.out.ext hEW).cells
    obtain ⟨lb0, lb1, lb2, lb3, lb4, lb5, lb6⟩ := (HIb.out.ext hEW).cells
    simp only [putD, List.foldl_nil, List.foldl_cons, List.getD_cons_zero, List.getD_cons_succ, Act.put, List.setIfInBounds_toArray, List.set_cons_zero, List.set_cons_succ]
    refine OpGoal.yes (by simp [yieldD, r44]) ?_
    go_wp2_with fail
    exact ⟨rfl, Ext.refl _, rfl⟩
  case o54 => -- Op.call { callee := Callee.value (Operand.tmp 84), args := #[Operand.tmp 85], ar
    intro xv W hE hp
    have r44 : xv 44 = _ := hp.1
    have r52 : xv 52 = _ := hp.2.1
    have r53 : xv 53 = _ := hp.2.2.1
    clear hp
    simp only [putD, List.foldl_nil, List.foldl_cons, List.getD_cons_zero, List.getD_cons_succ, Act.put, List.setIfInBounds_toArray, List.set_cons_zero, List.set_cons_succ]
    refine OpGoal.yes (by simp [yieldD, r44]) ?_
    go_wp2_with fail
    have hEW := (Ext.drew w8).trans hE
    refine (val_any x a 2 Aa ca da bx W HRa.out (by first | omega | (simp only [size_1, size_2, size_3]; omega)) (ExL.ext HXa.out hEW) (HEn.out.ext hEW)).mono ?_
    rintro r w' ⟨rfl, hE9⟩
    go_wp2_with fail
    exact ⟨rfl, hE9, rfl⟩
  case o55 => -- Op.binOp BinOp.eql 26 (Operand.tmp 83) (Operand.tmp 86) 26  GUARD (44, 'true')
    intro xv W hE hp
    have r44 : xv 44 = _ := hp.1
    have r51 : xv 51 = _ := hp.2.1
    have r54 : xv 54 = _ := hp.2.2.1
    clear hp
    have hm := twice (x.fits_big) HRa.out
    rw [hm] at r51
    unfold Vl.v at r51 r54
    have VE := veq (vt x a)
    simp only [putD, List.foldl_nil, List.foldl_cons, List.getD_cons_zero, List.getD_cons_succ, Act.put, List.setIfInBounds_toArray, List.set_cons_zero, List.set_cons_succ]
    refine OpGoal.yes (by simp [yieldD, r44]) ?_
    go_wp2_with fail
    exact ⟨rfl, Ext.refl _, rfl⟩
  case o56 => -- Op.pick (Operand.tmp 76) (Operand.tmp 87) (Operand.const (Value.bool false))
    intro xv W hE hp
    have r44 : xv 44 = _ := hp.1
    have r55 : xv 55 = _ := hp.2.1
    clear hp
    simp only [putD, List.foldl_nil, List.foldl_cons, List.getD_cons_zero, List.getD_cons_succ, Act.put, List.setIfInBounds_toArray, List.set_cons_zero, List.set_cons_succ]
    refine OpGoal.plain ?_
    go_wp2_with fail
    exact ⟨rfl, Ext.refl _, rfl⟩
  case last =>
    intro xv W hE hp
    have r0 : xv 0 = _ := hp.1
    have r1 : xv 1 = _ := hp.2.1
    have r2 : xv 2 = _ := hp.2.2.1
    have r3 : xv 3 = _ := hp.2.2.2.1
    have r4 : xv 4 = _ := hp.2.2.2.2.1
    obtain ⟨g5, r5, h5⟩ := hp.2.2.2.2.2.1
    obtain ⟨g6, n6, r6, h6⟩ := hp.2.2.2.2.2.2.1
    obtain ⟨g7, n7, r7, h7⟩ := hp.2.2.2.2.2.2.2.1
    have r8 : xv 8 = _ := hp.2.2.2.2.2.2.2.2.1
    have r9 : xv 9 = _ := hp.2.2.2.2.2.2.2.2.2.1
    have r10 : xv 10 = _ := hp.2.2.2.2.2.2.2.2.2.2.1
    have r11 : xv 11 = _ := hp.2.2.2.2.2.2.2.2.2.2.2.1
    have r12 : xv 12 = _ := hp.2.2.2.2.2.2.2.2.2.2.2.2.1
    obtain ⟨g13, n13, r13, h13⟩ := hp.2.2.2.2.2.2.2.2.2.2.2.2.2.1
    have r14 : xv 14 = _ := hp.2.2.2.2.2.2.2.2.2.2.2.2.2.2.1
    have r15 : xv 15 = _ := hp.2.2.2.2.2.2.2.2.2.2.2.2.2.2.2.1
    obtain ⟨g16, n16, r16, h16⟩ := hp.2.2.2.2.2.2.2.2.2.2.2.2.2.2.2.2.1
    obtain ⟨g17, r17, h17⟩ := hp.2.2.2.2.2.2.2.2.2.2.2.2.2.2.2.2.2.1
    obtain ⟨g18, n18, r18, h18⟩ := hp.2.2.2.2.2.2.2.2.2.2.2.2.2.2.2.2.2.2.1
    have r19 : xv 19 = _ := hp.2.2.2.2.2.2.2.2.2.2.2.2.2.2.2.2.2.2.2.1
    have r20 : xv 20 = _ := hp.2.2.2.2.2.2.2.2.2.2.2.2.2.2.2.2.2.2.2.2.1
    have r21 : xv 21 = _ := hp.2.2.2.2.2.2.2.2.2.2.2.2.2.2.2.2.2.2.2.2.2.1
    have r22 : xv 22 = _ := hp.2.2.2.2.2.2.2.2.2.2.2.2.2.2.2.2.2.2.2.2.2.2.1
    have r23 : xv 23 = _ := hp.2.2.2.2.2.2.2.2.2.2.2.2.2.2.2.2.2.2.2.2.2.2.2.1
    have r24 : xv 24 = _ := hp.2.2.2.2.2.2.2.2.2.2.2.2.2.2.2.2.2.2.2.2.2.2.2.2.1
    have r25 : xv 25 = _ := hp.2.2.2.2.2.2.2.2.2.2.2.2.2.2.2.2.2.2.2.2.2.2.2.2.2.1
    have r26 : xv 26 = _ := hp.2.2.2.2.2.2.2.2.2.2.2.2.2.2.2.2.2.2.2.2.2.2.2.2.2.2.1
    obtain ⟨g27, r27, h27⟩ := hp.2.2.2.2.2.2.2.2.2.2.2.2.2.2.2.2.2.2.2.2.2.2.2.2.2.2.2.1
    obtain ⟨g28, n28, r28, h28⟩ := hp.2.2.2.2.2.2.2.2.2.2.2.2.2.2.2.2.2.2.2.2.2.2.2.2.2.2.2.2.1
    obtain ⟨g29, n29, r29, h29⟩ := hp.2.2.2.2.2.2.2.2.2.2.2.2.2.2.2.2.2.2.2.2.2.2.2.2.2.2.2.2.2.1
    have r30 : xv 30 = _ := hp.2.2.2.2.2.2.2.2.2.2.2.2.2.2.2.2.2.2.2.2.2.2.2.2.2.2.2.2.2.2.1
    have r31 : xv 31 = _ := hp.2.2.2.2.2.2.2.2.2.2.2.2.2.2.2.2.2.2.2.2.2.2.2.2.2.2.2.2.2.2.2.1
    have r32 : xv 32 = _ := hp.2.2.2.2.2.2.2.2.2.2.2.2.2.2.2.2.2.2.2.2.2.2.2.2.2.2.2.2.2.2.2.2.1
    have r33 : xv 33 = _ := hp.2.2.2.2.2.2.2.2.2.2.2.2.2.2.2.2.2.2.2.2.2.2.2.2.2.2.2.2.2.2.2.2.2.1
    have r34 : xv 34 = _ := hp.2.2.2.2.2.2.2.2.2.2.2.2.2.2.2.2.2.2.2.2.2.2.2.2.2.2.2.2.2.2.2.2.2.2.1
    obtain ⟨g35, n35, r35, h35⟩ := hp.2.2.2.2.2.2.2.2.2.2.2.2.2.2.2.2.2.2.2.2.2.2.2.2.2.2.2.2.2.2.2.2.2.2.2.1
    have r36 : xv 36 = _ := hp.2.2.2.2.2.2.2.2.2.2.2.2.2.2.2.2.2.2.2.2.2.2.2.2.2.2.2.2.2.2.2.2.2.2.2.2.1
    have r37 : xv 37 = _ := hp.2.2.2.2.2.2.2.2.2.2.2.2.2.2.2.2.2.2.2.2.2.2.2.2.2.2.2.2.2.2.2.2.2.2.2.2.2.1
    obtain ⟨g38, n38, r38, h38⟩ := hp.2.2.2.2.2.2.2.2.2.2.2.2.2.2.2.2.2.2.2.2.2.2.2.2.2.2.2.2.2.2.2.2.2.2.2.2.2.2.1
    obtain ⟨g39, r39, h39⟩ := hp.2.2.2.2.2.2.2.2.2.2.2.2.2.2.2.2.2.2.2.2.2.2.2.2.2.2.2.2.2.2.2.2.2.2.2.2.2.2.2.1
    obtain ⟨g40, n40, r40, h40⟩ := hp.2.2.2.2.2.2.2.2.2.2.2.2.2.2.2.2.2.2.2.2.2.2.2.2.2.2.2.2.2.2.2.2.2.2.2.2.2.2.2.2.1
    have r41 : xv 41 = _ := hp.2.2.2.2.2.2.2.2.2.2.2.2.2.2.2.2.2.2.2.2.2.2.2.2.2.2.2.2.2.2.2.2.2.2.2.2.2.2.2.2.2.1
    have r42 : xv 42 = _ := hp.2.2.2.2.2.2.2.2.2.2.2.2.2.2.2.2.2.2.2.2.2.2.2.2.2.2.2.2.2.2.2.2.2.2.2.2.2.2.2.2.2.2.1
    have r43 : xv 43 = _ := hp.2.2.2.2.2.2.2.2.2.2.2.2.2.2.2.2.2.2.2.2.2.2.2.2.2.2.2.2.2.2.2.2.2.2.2.2.2.2.2.2.2.2.2.1
    have r44 : xv 44 = _ := hp.2.2.2.2.2.2.2.2.2.2.2.2.2.2.2.2.2.2.2.2.2.2.2.2.2.2.2.2.2.2.2.2.2.2.2.2.2.2.2.2.2.2.2.2.1
    have r45 : xv 45 = _ := hp.2.2.2.2.2.2.2.2.2.2.2.2.2.2.2.2.2.2.2.2.2.2.2.2.2.2.2.2.2.2.2.2.2.2.2.2.2.2.2.2.2.2.2.2.2.1
    have r46 : xv 46 = _ := hp.2.2.2.2.2.2.2.2.2.2.2.2.2.2.2.2.2.2.2.2.2.2.2.2.2.2.2.2.2.2.2.2.2.2.2.2.2.2.2.2.2.2.2.2.2.2.1
    have r47 : xv 47 = _ := hp.2.2.2.2.2.2.2.2.2.2.2.2.2.2.2.2.2.2.2.2.2.2.2.2.2.2.2.2.2.2.2.2.2.2.2.2.2.2.2.2.2.2.2.2.2.2.2.1
    have r48 : xv 48 = _ := hp.2.2.2.2.2.2.2.2.2.2.2.2.2.2.2.2.2.2.2.2.2.2.2.2.2.2.2.2.2.2.2.2.2.2.2.2.2.2.2.2.2.2.2.2.2.2.2.2.1
    obtain ⟨g49, n49, r49, h49⟩ := hp.2.2.2.2.2.2.2.2.2.2.2.2.2.2.2.2.2.2.2.2.2.2.2.2.2.2.2.2.2.2.2.2.2.2.2.2.2.2.2.2.2.2.2.2.2.2.2.2.2.1
    obtain ⟨g50, n50, r50, h50⟩ := hp.2.2.2.2.2.2.2.2.2.2.2.2.2.2.2.2.2.2.2.2.2.2.2.2.2.2.2.2.2.2.2.2.2.2.2.2.2.2.2.2.2.2.2.2.2.2.2.2.2.2.1
    have r51 : xv 51 = _ := hp.2.2.2.2.2.2.2.2.2.2.2.2.2.2.2.2.2.2.2.2.2.2.2.2.2.2.2.2.2.2.2.2.2.2.2.2.2.2.2.2.2.2.2.2.2.2.2.2.2.2.2.1
    have r52 : xv 52 = _ := hp.2.2.2.2.2.2.2.2.2.2.2.2.2.2.2.2.2.2.2.2.2.2.2.2.2.2.2.2.2.2.2.2.2.2.2.2.2.2.2.2.2.2.2.2.2.2.2.2.2.2.2.2.1
    have r53 : xv 53 = _ := hp.2.2.2.2.2.2.2.2.2.2.2.2.2.2.2.2.2.2.2.2.2.2.2.2.2.2.2.2.2.2.2.2.2.2.2.2.2.2.2.2.2.2.2.2.2.2.2.2.2.2.2.2.2.1
    have r54 : xv 54 = _ := hp.2.2.2.2.2.2.2.2.2.2.2.2.2.2.2.2.2.2.2.2.2.2.2.2.2.2.2.2.2.2.2.2.2.2.2.2.2.2.2.2.2.2.2.2.2.2.2.2.2.2.2.2.2.2.1
    have r55 : xv 55 = _ := hp.2.2.2.2.2.2.2.2.2.2.2.2.2.2.2.2.2.2.2.2.2.2.2.2.2.2.2.2.2.2.2.2.2.2.2.2.2.2.2.2.2.2.2.2.2.2.2.2.2.2.2.2.2.2.2.1
    have r56 : xv 56 = _ := hp.2.2.2.2.2.2.2.2.2.2.2.2.2.2.2.2.2.2.2.2.2.2.2.2.2.2.2.2.2.2.2.2.2.2.2.2.2.2.2.2.2.2.2.2.2.2.2.2.2.2.2.2.2.2.2.2.1
    clear hp
    simp only [putD, List.foldl_nil, List.foldl_cons, List.getD_cons_zero, List.getD_cons_succ, Act.put, List.length_cons, List.length_nil, List.range_succ, List.range_zero, List.nil_append, List.cons_append, List.setIfInBounds_toArray, List.set_cons_zero, List.set_cons_succ]
    have hEW := (Ext.drew w8).trans hE
    clear r0 r1 r2 r3 r4 r5 r6 r7 r8 r9 r10 r11 r12 r13 r14 r15 r16 r17 r18 r19 r20 r21 r22 r23 r24 r25 r26 r27 r28 r29 r30 r31 r32 r33 r34 r35 r36 r37 r38 r39 r40 r41 r42 r43 r44 r45 r46 r47 r48 r49 r50 r51 r52 r53 r54 r55
    have hr56 : xv 56 = .bool true := r56
    rw [hr56]
    clear r56 hr56 hEW
    have hE8 : Ext w8 W := (Ext.drew w8).trans hE
    clear hE
    go_upto_region 9 with fail
    apply wp_region_seq (l := [_, _, _, _, _, _, _, _, _, _, _, _, _, _, _, _, _, _, _, _, _, _, _, _, _, _, _, _, _, _, _, _, _, _, _, _, _, _, _, _, _, _, _, _, _, _, _, _, _, _, _, _, _, _, _, _, _, _, _, _, _, _, _, _, _, _, _, _, _, _, _, _, _, _, _, _]) (t := [_]) [some 89, some 90, some 91, some 92, some 93, some 94, some 95, some 96, some 97, some 98, some 99, some 100, some 101, some 102, some 103, some 104, some 105, some 106, some 107, some 108, some 109, some 110, some 111, some 112, some 113, some 114, some 115, some 116, some 117, some 118, some 119, some 120, some 121, some 122, some 123, some 124, some 125, some 126, some 127, some 128, some 129, some 130, some 131, some 132, some 133, some 134, some 135, some 136, some 137, some 138, some 139, some 140, some 141, some 142, some 143, some 144, some 145, some 146, some 147, some 148, some 149, some 150, some 151, some 152, some 153, some 154, some 155, some 156, some 157, some 158, some 159, some 160, some 161, some 162, some 163, some 164, some 15] [[], [], [], [], [2, 3], [1, 4], [0, 5], [], [], [], [], [9, 10], [8, 11], [7, 12], [6, 13], [14], [15], [15], [15], [15], [15, 18, 19], [15, 17, 20], [15, 16, 21], [15], [15], [15], [15], [15, 25, 26], [15, 24, 27], [15, 23, 28], [15, 22, 29], [15, 30], [31], [32], [32], [32], [32], [32, 35, 36], [32, 34, 37], [32, 33, 38], [32], [32], [32], [32], [32], [32, 43, 44], [32, 42, 45], [32], [32], [32, 46, 47, 48], [32, 41, 49], [32, 40, 50], [32, 39, 51], [32, 52], [53], [54], [54], [54], [54], [54, 57, 58], [54, 56, 59], [54, 55, 60], [54], [54], [54], [54], [54], [54, 65, 66], [54, 64, 67], [54], [54], [54, 68, 69, 70], [54, 63, 71], [54, 62, 72], [54, 61, 73], [54, 74], [75]] [76, 76, 76, 76, 76, 76, 76, 76, 76, 76, 76, 76, 76, 76, 76, 76, 76, 76, 76, 76, 76, 76, 76, 76, 76, 76, 76, 76, 76, 76, 76, 76, 76, 76, 76, 76, 76, 76, 76, 76, 76, 76, 76, 76, 76, 76, 76, 76, 76, 76, 76, 76, 76, 76, 76, 76, 76, 76, 76, 76, 76, 76, 76, 76, 76, 76, 76, 76, 76, 76, 76, 76, 76, 76, 76, 76] [(eqv (.func (.func 25) #[] #[.pointer (some ⟨bx, 0, none⟩)])), (eqv (.func (.func 27) #[] #[])), (eqv (.agg #[.int .i64 c.op, .int .i64 c.var, .int .i64 c.ty, .int .i64 c.n, .bool c.b, .string ⟨c.s.toArray⟩, .slice Ac c.l.length cc])), (eqv (.agg #[.int .i64 d.op, .int .i64 d.var, .int .i64 d.ty, .int .i64 d.n, .bool d.b, .string ⟨d.s.toArray⟩, .slice Ad d.l.length cd])), (slSP [c, d] 2 (dc + dd + 1)), (opSP 8 [c, d] 2 (dc + dd + 1)), (eqv (vt x (exOp 8 [c, d])).v), (eqv (.func (.func 25) #[] #[.pointer (some ⟨bx, 0, none⟩)])), (eqv (.func (.func 27) #[] #[])), (eqv (.agg #[.int .i64 d.op, .int .i64 d.var, .int .i64 d.ty, .int .i64 d.n, .bool d.b, .string ⟨d.s.toArray⟩, .slice Ad d.l.length cd])), (eqv (.agg #[.int .i64 c.op, .int .i64 c.var, .int .i64 c.ty, .int .i64 c.n, .bool c.b, .string ⟨c.s.toArray⟩, .slice Ac c.l.length cc])), (slSP [d, c] 2 (dd + dc + 1)), (opSP 8 [d, c] 2 (dd + dc + 1)), (eqv (vt x (exOp 8 [d, c])).v), (eqv (.bool true)), (eqv (.bool true)), (eqv (.func (.func 25) #[] #[.pointer (some ⟨bx, 0, none⟩)])), (eqv (.func (.func 27) #[] #[])), (eqv (.agg #[.int .i64 c.op, .int .i64 c.var, .int .i64 c.ty, .int .i64 c.n, .bool c.b, .string ⟨c.s.toArray⟩, .slice Ac c.l.length cc])), (eqv (.agg #[.int .i64 d.op, .int .i64 d.var, .int .i64 d.ty, .int .i64 d.n, .bool d.b, .string ⟨d.s.toArray⟩, .slice Ad d.l.length cd])), (slSP [c, d] 2 (dc + dd + 1)), (opSP 10 [c, d] 2 (dc + dd + 1)), (eqv (vt x (exOp 10 [c, d])).v), (eqv (.func (.func 25) #[] #[.pointer (some ⟨bx, 0, none⟩)])), (eqv (.func (.func 27) #[] #[])), (eqv (.agg #[.int .i64 d.op, .int .i64 d.var, .int .i64 d.ty, .int .i64 d.n, .bool d.b, .string ⟨d.s.toArray⟩, .slice Ad d.l.length cd])), (eqv (.agg #[.int .i64 c.op, .int .i64 c.var, .int .i64 c.ty, .int .i64 c.n, .bool c.b, .string ⟨c.s.toArray⟩, .slice Ac c.l.length cc])), (slSP [d, c] 2 (dd + dc + 1)), (opSP 10 [d, c] 2 (dd + dc + 1)), (eqv (vt x (exOp 10 [d, c])).v), (eqv (.bool true)), (eqv (.bool true)), (eqv (.bool true)), (eqv (.func (.func 25) #[] #[.pointer (some ⟨bx, 0, none⟩)])), (eqv (.func (.func 27) #[] #[])), (eqv (.agg #[.int .i64 c.op, .int .i64 c.var, .int .i64 c.ty, .int .i64 c.n, .bool c.b, .string ⟨c.s.toArray⟩, .slice Ac c.l.length cc])), (eqv (.agg #[.int .i64 d.op, .int .i64 d.var, .int .i64 d.ty, .int .i64 d.n, .bool d.b, .string ⟨d.s.toArray⟩, .slice Ad d.l.length cd])), (slSP [c, d] 2 (dc + dd + 1)), (opSP 11 [c, d] 2 (dc + dd + 1)), (eqv (vt x (exOp 11 [c, d])).v), (eqv (.func (.func 25) #[] #[.pointer (some ⟨bx, 0, none⟩)])), (eqv (.func (.func 27) #[] #[])), (eqv (.func (.func 27) #[] #[])), (eqv (.agg #[.int .i64 c.op, .int .i64 c.var, .int .i64 c.ty, .int .i64 c.n, .bool c.b, .string ⟨c.s.toArray⟩, .slice Ac c.l.length cc])), (eqv (.agg #[.int .i64 d.op, .int .i64 d.var, .int .i64 d.ty, .int .i64 d.n, .bool d.b, .string ⟨d.s.toArray⟩, .slice Ad d.l.length cd])), (slSP [c, d] 2 (dc + dd + 1)), (opSP 7 [c, d] 2 (dc + dd + 1)), (eqv (.agg #[.int .i64 c.op, .int .i64 c.var, .int .i64 c.ty, .int .i64 c.n, .bool c.b, .string ⟨c.s.toArray⟩, .slice Ac c.l.length cc])), (eqv (.agg #[.int .i64 d.op, .int .i64 d.var, .int .i64 d.ty, .int .i64 d.n, .bool d.b, .string ⟨d.s.toArray⟩, .slice Ad d.l.length cd])), (slSP [(exOp 7 [c, d]), c, d] 3 ((dc + dd + 1) + dc + dd + 1)), (opSP 13 [(exOp 7 [c, d]), c, d] 3 ((dc + dd + 1) + dc + dd + 1)), (eqv (vt x (exOp 13 [(exOp 7 [c, d]), c, d])).v), (eqv (.bool true)), (eqv (.bool true)), (eqv (.bool true)), (eqv (.func (.func 25) #[] #[.pointer (some ⟨bx, 0, none⟩)])), (eqv (.func (.func 27) #[] #[])), (eqv (.agg #[.int .i64 c.op, .int .i64 c.var, .int .i64 c.ty, .int .i64 c.n, .bool c.b, .string ⟨c.s.toArray⟩, .slice Ac c.l.length cc])), (eqv (.agg #[.int .i64 d.op, .int .i64 d.var, .int .i64 d.ty, .int .i64 d.n, .bool d.b, .string ⟨d.s.toArray⟩, .slice Ad d.l.length cd])), (slSP [c, d] 2 (dc + dd + 1)), (opSP 12 [c, d] 2 (dc + dd + 1)), (eqv (vt x (exOp 12 [c, d])).v), (eqv (.func (.func 25) #[] #[.pointer (some ⟨bx, 0, none⟩)])), (eqv (.func (.func 27) #[] #[])), (eqv (.func (.func 27) #[] #[])), (eqv (.agg #[.int .i64 c.op, .int .i64 c.var, .int .i64 c.ty, .int .i64 c.n, .bool c.b, .string ⟨c.s.toArray⟩, .slice Ac c.l.length cc])), (eqv (.agg #[.int .i64 d.op, .int .i64 d.var, .int .i64 d.ty, .int .i64 d.n, .bool d.b, .string ⟨d.s.toArray⟩, .slice Ad d.l.length cd])), (slSP [c, d] 2 (dc + dd + 1)), (opSP 7 [c, d] 2 (dc + dd + 1)), (eqv (.agg #[.int .i64 d.op, .int .i64 d.var, .int .i64 d.ty, .int .i64 d.n, .bool d.b, .string ⟨d.s.toArray⟩, .slice Ad d.l.length cd])), (eqv (.agg #[.int .i64 c.op, .int .i64 c.var, .int .i64 c.ty, .int .i64 c.n, .bool c.b, .string ⟨c.s.toArray⟩, .slice Ac c.l.length cc])), (slSP [(exOp 7 [c, d]), d, c] 3 ((dc + dd + 1) + dd + dc + 1)), (opSP 13 [(exOp 7 [c, d]), d, c] 3 ((dc + dd + 1) + dd + dc + 1)), (eqv (vt x (exOp 13 [(exOp 7 [c, d]), d, c])).v), (eqv (.bool true)), (eqv (.bool true))] (by kernel_rfl) (by kernel_rfl) ⟨?o0, ?o1, ?o2, ?o3, ?o4, ?o5, ?o6, ?o7, ?o8, ?o9, ?o10, ?o11, ?o12, ?o13, ?o14, ?o15, ?o16, ?o17, ?o18, ?o19, ?o20, ?o21, ?o22, ?o23, ?o24, ?o25, ?o26, ?o27, ?o28, ?o29, ?o30, ?o31, ?o32, ?o33, ?o34, ?o35, ?o36, ?o37, ?o38, ?o39, ?o40, ?o41, ?o42, ?o43, ?o44, ?o45, ?o46, ?o47, ?o48, ?o49, ?o50, ?o51, ?o52, ?o53, ?o54, ?o55, ?o56, ?o57, ?o58, ?o59, ?o60, ?o61, ?o62, ?o63, ?o64, ?o65, ?o66, ?o67, ?o68, ?o69, ?o70, ?o71, ?o72, ?o73, ?o74, ?o75, trivial⟩ ?last
    case o0 => -- Op.move (Operand.tmp 7)
      intro xv W9 hE _
      simp only [putD, List.foldl_nil, List.getD_cons_zero]
      refine OpGoal.plain ?_
      go_wp2_with fail
      exact ⟨rfl, Ext.refl _, rfl⟩
    case o1 => -- Op.load 68 (Operand.tmp 8)
      intro xv W9 hE _
      have hEW := hE8.trans ((Ext.drew W).trans hE)
      have lf := HF.out W9 hEW
      obtain ⟨lc0, lc1, lc2, lc3, lc4, lc5, lc6⟩ := (HIc.out.ext hEW).cells
      obtain ⟨ld0, ld1, ld2, ld3, ld4, ld5, ld6⟩ := (HId.out.ext hEW).cells
      simp only [putD, List.foldl_nil, List.getD_cons_zero, List.getD_cons_succ]
      refine OpGoal.plain ?_
      go_wp2_with fail
      exact ⟨rfl, Ext.refl _, rfl⟩
    case o2 => -- Op.load 29 (Operand.tmp 11)
      intro xv W9 hE _
      have hEW := hE8.trans ((Ext.drew W).trans hE)
      have lf := HF.out W9 hEW
      obtain ⟨lc0, lc1, lc2, lc3, lc4, lc5, lc6⟩ := (HIc.out.ext hEW).cells
      obtain ⟨ld0, ld1, ld2, ld3, ld4, ld5, ld6⟩ := (HId.out.ext hEW).cells
      simp only [putD, List.foldl_nil, List.getD_cons_zero, List.getD_cons_succ]
      refine OpGoal.plain ?_
      go_wp2_with fail
      exact ⟨rfl, Ext.refl _, rfl⟩
    case o3 => -- Op.load 29 (Operand.tmp 12)
      intro xv W9 hE _
      have hEW := hE8.trans ((Ext.drew W).trans hE)
      have lf := HF.out W9 hEW
      obtain ⟨lc0, lc1, lc2, lc3, lc4, lc5, lc6⟩ := (HIc.out.ext hEW).cells
      obtain ⟨ld0, ld1, ld2, ld3, ld4, ld5, ld6⟩ := (HId.out.ext hEW).cells
      simp only [putD, List.foldl_nil, List.getD_cons_zero, List.getD_cons_succ]
      refine OpGoal.plain ?_
      go_wp2_with fail
      exact ⟨rfl, Ext.refl _, rfl⟩
    case o4 => -- Op.buildSlice 27 2 #[(0, Operand.tmp 91), (1, Operand.tmp 92)]
      intro xv W9 hE hp
      have r2 : xv 2 = _ := hp.1
      have r3 : xv 3 = _ := hp.2.1
      clear hp
      simp only [putD, List.foldl_nil, List.foldl_cons, List.getD_cons_zero, List.getD_cons_succ, Act.put, List.setIfInBounds_toArray, List.set_cons_zero, List.set_cons_succ]
      refine OpGoal.plain ?_
      go_wp2_with fail
      have hEW := hE8.trans ((Ext.drew W).trans hE)
      exact ⟨rfl, Ext.alloc _ _, W9.heap.size, rfl, row2' W9 c Ac cc dc d Ad cd dd (ExL.ext HXc.out hEW) (ExL.ext HXd.out hEW)⟩
    case o5 => -- Op.call { callee := Callee.value (Operand.tmp 90), args := #[Operand.const (Valu
      intro xv W9 hE hp
      have r1 : xv 1 = _ := hp.1
      obtain ⟨g4, r4, h4⟩ := hp.2.1
      clear hp
      simp only [putD, List.foldl_nil, List.foldl_cons, List.getD_cons_zero, List.getD_cons_succ, Act.put, List.setIfInBounds_toArray, List.set_cons_zero, List.set_cons_succ]
      refine OpGoal.plain ?_
      go_wp2_with fail
      refine (op_any 8 [c, d] (some ⟨g4, 0, none⟩) 2 2 rfl W9).mono ?_
      rintro e w' ⟨rfl, hE9⟩
      go_wp2_with fail
      exact ⟨rfl, hE9, g4, 2, rfl, ExL.ext h4 hE9⟩
    case o6 => -- Op.call { callee := Callee.value (Operand.tmp 89), args := #[Operand.tmp 94], ar
      intro xv W9 hE hp
      have r0 : xv 0 = _ := hp.1
      obtain ⟨g5, n5, r5, h5⟩ := hp.2.1
      clear hp
      simp only [putD, List.foldl_nil, List.foldl_cons, List.getD_cons_zero, List.getD_cons_succ, Act.put, List.setIfInBounds_toArray, List.set_cons_zero, List.set_cons_succ]
      refine OpGoal.plain ?_
      go_wp2_with fail
      have hEW := hE8.trans ((Ext.drew W).trans hE)
      refine (val_any x (exOp 8 [c, d]) 1 (some ⟨g5, 0, none⟩) n5 (dc + dd + 1) bx W9 (rt_sum (by decide) HRc.out HRd.out) (by first | omega | (simp only [size_1, size_2, size_3]; omega)) h5 (HEn.out.ext hEW)).mono ?_
      rintro r w' ⟨rfl, hE9⟩
      go_wp2_with fail
      exact ⟨rfl, hE9, rfl⟩
    case o7 => -- Op.move (Operand.tmp 7)
      intro xv W9 hE _
      simp only [putD, List.foldl_nil, List.getD_cons_zero, List.getD_cons_succ]
      refine OpGoal.plain ?_
      go_wp2_with fail
      exact ⟨rfl, Ext.refl _, rfl⟩
    case o8 => -- Op.load 68 (Operand.tmp 8)
      intro xv W9 hE _
      have hEW := hE8.trans ((Ext.drew W).trans hE)
      have lf := HF.out W9 hEW
      obtain ⟨lc0, lc1, lc2, lc3, lc4, lc5, lc6⟩ := (HIc.out.ext hEW).cells
      obtain ⟨ld0, ld1, ld2, ld3, ld4, ld5, ld6⟩ := (HId.out.ext hEW).cells
      simp only [putD, List.foldl_nil, List.getD_cons_zero, List.getD_cons_succ]
      refine OpGoal.plain ?_
      go_wp2_with fail
      exact ⟨rfl, Ext.refl _, rfl⟩
    case o9 => -- Op.load 29 (Operand.tmp 12)
      intro xv W9 hE _
      have hEW := hE8.trans ((Ext.drew W).trans hE)
      have lf := HF.out W9 hEW
      obtain ⟨lc0, lc1, lc2, lc3, lc4, lc5, lc6⟩ := (HIc.out.ext hEW).cells
      obtain ⟨ld0, ld1, ld2, ld3, ld4, ld5, ld6⟩ := (HId.out.ext hEW).cells
      simp only [putD, List.foldl_nil, List.getD_cons_zero, List.getD_cons_succ]
      refine OpGoal.plain ?_
      go_wp2_with fail
      exact ⟨rfl, Ext.refl _, rfl⟩
    case o10 => -- Op.load 29 (Operand.tmp 11)
      intro xv W9 hE _
      have hEW := hE8.trans ((Ext.drew W).trans hE)
      have lf := HF.out W9 hEW
      obtain ⟨lc0, lc1, lc2, lc3, lc4, lc5, lc6⟩ := (HIc.out.ext hEW).cells
      obtain ⟨ld0, ld1, ld2, ld3, ld4, ld5, ld6⟩ := (HId.out.ext hEW).cells
      simp only [putD, List.foldl_nil, List.getD_cons_zero, List.getD_cons_succ]
      refine OpGoal.plain ?_
      go_wp2_with fail
      exact ⟨rfl, Ext.refl _, rfl⟩
    case o11 => -- Op.buildSlice 27 2 #[(0, Operand.tmp 98), (1, Operand.tmp 99)]
      intro xv W9 hE hp
      have r9 : xv 9 = _ := hp.1
      have r10 : xv 10 = _ := hp.2.1
      clear hp
      simp only [putD, List.foldl_nil, List.foldl_cons, List.getD_cons_zero, List.getD_cons_succ, Act.put, List.setIfInBounds_toArray, List.set_cons_zero, List.set_cons_succ]
      refine OpGoal.plain ?_
      go_wp2_with fail
      have hEW := hE8.trans ((Ext.drew W).trans hE)
      exact ⟨rfl, Ext.alloc _ _, W9.heap.size, rfl, row2' W9 d Ad cd dd c Ac cc dc (ExL.ext HXd.out hEW) (ExL.ext HXc.out hEW)⟩
    case o12 => -- Op.call { callee := Callee.value (Operand.tmp 97), args := #[Operand.const (Valu
      intro xv W9 hE hp
      have r8 : xv 8 = _ := hp.1
      obtain ⟨g11, r11, h11⟩ := hp.2.1
      clear hp
      simp only [putD, List.foldl_nil, List.foldl_cons, List.getD_cons_zero, List.getD_cons_succ, Act.put, List.setIfInBounds_toArray, List.set_cons_zero, List.set_cons_succ]
      refine OpGoal.plain ?_
      go_wp2_with fail
      refine (op_any 8 [d, c] (some ⟨g11, 0, none⟩) 2 2 rfl W9).mono ?_
      rintro e w' ⟨rfl, hE9⟩
      go_wp2_with fail
      exact ⟨rfl, hE9, g11, 2, rfl, ExL.ext h11 hE9⟩
    case o13 => -- Op.call { callee := Callee.value (Operand.tmp 96), args := #[Operand.tmp 101], a
      intro xv W9 hE hp
      have r7 : xv 7 = _ := hp.1
      obtain ⟨g12, n12, r12, h12⟩ := hp.2.1
      clear hp
      simp only [putD, List.foldl_nil, List.foldl_cons, List.getD_cons_zero, List.getD_cons_succ, Act.put, List.setIfInBounds_toArray, List.set_cons_zero, List.set_cons_succ]
      refine OpGoal.plain ?_
      go_wp2_with fail
      have hEW := hE8.trans ((Ext.drew W).trans hE)
      refine (val_any x (exOp 8 [d, c]) 1 (some ⟨g12, 0, none⟩) n12 (dd + dc + 1) bx W9 (rt_sum (by decide) HRd.out HRc.out) (by first | omega | (simp only [size_1, size_2, size_3]; omega)) h12 (HEn.out.ext hEW)).mono ?_
      rintro r w' ⟨rfl, hE9⟩
      go_wp2_with fail
      exact ⟨rfl, hE9, rfl⟩
    case o14 => -- Op.binOp BinOp.eql 26 (Operand.tmp 95) (Operand.tmp 102) 26
      intro xv W9 hE hp
      have r6 : xv 6 = _ := hp.1
      have r13 : xv 13 = _ := hp.2.1
      clear hp
      have hm := add_comm' x c d
      rw [hm] at r6
      unfold Vl.v at r6 r13
      have VE := veq (vt x (exOp 8 [d, c]))
      simp only [putD, List.foldl_nil, List.foldl_cons, List.getD_cons_zero, List.getD_cons_succ, Act.put, List.setIfInBounds_toArray, List.set_cons_zero, List.set_cons_succ]
      refine OpGoal.plain ?_
      go_wp2_with fail
      exact ⟨rfl, Ext.refl _, rfl⟩
    case o15 => -- Op.move (Operand.tmp 103)
      intro xv W9 hE hp
      have r14 : xv 14 = _ := hp.1
      clear hp
      simp only [putD, List.foldl_nil, List.foldl_cons, List.getD_cons_zero, List.getD_cons_succ, Act.put, List.setIfInBounds_toArray, List.set_cons_zero, List.set_cons_succ]
      refine OpGoal.plain ?_
      go_wp2_with fail
      exact ⟨rfl, Ext.refl _, rfl⟩
    case o16 => -- Op.move (Operand.tmp 7)  GUARD (15, 'true')
      intro xv W9 hE hp
      have r15 : xv 15 = _ := hp.1
      clear hp
      simp only [putD, List.foldl_nil, List.foldl_cons, List.getD_cons_zero, List.getD_cons_succ, Act.put, List.setIfInBounds_toArray, List.set_cons_zero, List.set_cons_succ]
      refine OpGoal.yes (by simp [yieldD, r15]) ?_
      go_wp2_with fail
      exact ⟨rfl, Ext.refl _, rfl⟩
    case o17 => -- Op.load 68 (Operand.tmp 8)  GUARD (15, 'true')
      intro xv W9 hE hp
      have r15 : xv 15 = _ := hp.1
      clear hp
      have hEW := hE8.trans ((Ext.drew W).trans hE)
      have lf := HF.out W9 hEW
      obtain ⟨lc0, lc1, lc2, lc3, lc4, lc5, lc6⟩ := (HIc.out.ext hEW).cells
      obtain ⟨ld0, ld1, ld2, ld3, ld4, ld5, ld6⟩ := (HId.out.ext hEW).cells
      simp only [putD, List.foldl_nil, List.foldl_cons, List.getD_cons_zero, List.getD_cons_succ, Act.put, List.setIfInBounds_toArray, List.set_cons_zero, List.set_cons_succ]
      refine OpGoal.yes (by simp [yieldD, r15]) ?_
      go_wp2_with fail
      exact ⟨rfl, Ext.refl _, rfl⟩
    case o18 => -- Op.load 29 (Operand.tmp 11)  GUARD (15, 'true')
      intro xv W9 hE hp
      have r15 : xv 15 = _ := hp.1
      clear hp
      have hEW := hE8.trans ((Ext.drew W).trans hE)
      have lf := HF.out W9 hEW
      obtain ⟨lc0, lc1, lc2, lc3, lc4, lc5, lc6⟩ := (HIc.out.ext hEW).cells
      obtain ⟨ld0, ld1, ld2, ld3, ld4, ld5, ld6⟩ := (HId.out.ext hEW).cells
      simp only [putD, List.foldl_nil, List.foldl_cons, List.getD_cons_zero, List.getD_cons_succ, Act.put, List.setIfInBounds_toArray, List.set_cons_zero, List.set_cons_succ]
      refine OpGoal.yes (by simp [yieldD, r15]) ?_
      go_wp2_with fail
      exact ⟨rfl, Ext.refl _, rfl⟩
    case o19 => -- Op.load 29 (Operand.tmp 12)  GUARD (15, 'true')
      intro xv W9 hE hp
      have r15 : xv 15 = _ := hp.1
      clear hp
      have hEW := hE8.trans ((Ext.drew W).trans hE)
      have lf := HF.out W9 hEW
      obtain ⟨lc0, lc1, lc2, lc3, lc4, lc5, lc6⟩ := (HIc.out.ext hEW).cells
      obtain ⟨ld0, ld1, ld2, ld3, ld4, ld5, ld6⟩ := (HId.out.ext hEW).cells
      simp only [putD, List.foldl_nil, List.foldl_cons, List.getD_cons_zero, List.getD_cons_succ, Act.put, List.setIfInBounds_toArray, List.set_cons_zero, List.set_cons_succ]
      refine OpGoal.yes (by simp [yieldD, r15]) ?_
      go_wp2_with fail
      exact ⟨rfl, Ext.refl _, rfl⟩
    case o20 => -- Op.buildSlice 27 2 #[(0, Operand.tmp 107), (1, Operand.tmp 108)]  GUARD (15, 'tr
      intro xv W9 hE hp
      have r15 : xv 15 = _ := hp.1
      have r18 : xv 18 = _ := hp.2.1
      have r19 : xv 19 = _ := hp.2.2.1
      clear hp
      simp only [putD, List.foldl_nil, List.foldl_cons, List.getD_cons_zero, List.getD_cons_succ, Act.put, List.setIfInBounds_toArray, List.set_cons_zero, List.set_cons_succ]
      refine OpGoal.yes (by simp [yieldD, r15]) ?_
      go_wp2_with fail
      have hEW := hE8.trans ((Ext.drew W).trans hE)
      exact ⟨rfl, Ext.alloc _ _, W9.heap.size, rfl, row2' W9 c Ac cc dc d Ad cd dd (ExL.ext HXc.out hEW) (ExL.ext HXd.out hEW)⟩
    case o21 => -- Op.call { callee := Callee.value (Operand.tmp 106), args := #[Operand.const (Val
      intro xv W9 hE hp
      have r15 : xv 15 = _ := hp.1
      have r17 : xv 17 = _ := hp.2.1
      obtain ⟨g20, r20, h20⟩ := hp.2.2.1
      clear hp
      simp only [putD, List.foldl_nil, List.foldl_cons, List.getD_cons_zero, List.getD_cons_succ, Act.put, List.setIfInBounds_toArray, List.set_cons_zero, List.set_cons_succ]
      refine OpGoal.yes (by simp [yieldD, r15]) ?_
      go_wp2_with fail
      refine (op_any 10 [c, d] (some ⟨g20, 0, none⟩) 2 2 rfl W9).mono ?_
      rintro e w' ⟨rfl, hE9⟩
      go_wp2_with fail
      exact ⟨rfl, hE9, g20, 2, rfl, ExL.ext h20 hE9⟩
    case o22 => -- Op.call { callee := Callee.value (Operand.tmp 105), args := #[Operand.tmp 110], 
      intro xv W9 hE hp
      have r15 : xv 15 = _ := hp.1
      have r16 : xv 16 = _ := hp.2.1
      obtain ⟨g21, n21, r21, h21⟩ := hp.2.2.1
      clear hp
      simp only [putD, List.foldl_nil, List.foldl_cons, List.getD_cons_zero, List.getD_cons_succ, Act.put, List.setIfInBounds_toArray, List.set_cons_zero, List.set_cons_succ]
      refine OpGoal.yes (by simp [yieldD, r15]) ?_
      go_wp2_with fail
      have hEW := hE8.trans ((Ext.drew W).trans hE)
      refine (val_any x (exOp 10 [c, d]) 1 (some ⟨g21, 0, none⟩) n21 (dc + dd + 1) bx W9 (rt_sum (by decide) HRc.out HRd.out) (by first | omega | (simp only [size_1, size_2, size_3]; omega)) h21 (HEn.out.ext hEW)).mono ?_
      rintro r w' ⟨rfl, hE9⟩
      go_wp2_with fail
      exact ⟨rfl, hE9, rfl⟩
    case o23 => -- Op.move (Operand.tmp 7)  GUARD (15, 'true')
      intro xv W9 hE hp
      have r15 : xv 15 = _ := hp.1
      clear hp
      simp only [putD, List.foldl_nil, List.foldl_cons, List.getD_cons_zero, List.getD_cons_succ, Act.put, List.setIfInBounds_toArray, List.set_cons_zero, List.set_cons_succ]
      refine OpGoal.yes (by simp [yieldD, r15]) ?_
      go_wp2_with fail
      exact ⟨rfl, Ext.refl _, rfl⟩
    case o24 => -- Op.load 68 (Operand.tmp 8)  GUARD (15, 'true')
      intro xv W9 hE hp
      have r15 : xv 15 = _ := hp.1
      clear hp
      have hEW := hE8.trans ((Ext.drew W).trans hE)
      have lf := HF.out W9 hEW
      obtain ⟨lc0, lc1, lc2, lc3, lc4, lc5, lc6⟩ := (HIc.out.ext hEW).cells
      obtain ⟨ld0, ld1, ld2, ld3, ld4, ld5, ld6⟩ := (HId.out.ext hEW).cells
      simp only [putD, List.foldl_nil, List.foldl_cons, List.getD_cons_zero, List.getD_cons_succ, Act.put, List.setIfInBounds_toArray, List.set_cons_zero, List.set_cons_succ]
      refine OpGoal.yes (by simp [yieldD, r15]) ?_
      go_wp2_with fail
      exact ⟨rfl, Ext.refl _, rfl⟩
    case o25 => -- Op.load 29 (Operand.tmp 12)  GUARD (15, 'true')
      intro xv W9 hE hp
      have r15 : xv 15 = _ := hp.1
      clear hp
      have hEW := hE8.trans ((Ext.drew W).trans hE)
      have lf := HF.out W9 hEW
      obtain ⟨lc0, lc1, lc2, lc3, lc4, lc5, lc6⟩ := (HIc.out.ext hEW).cells
      obtain ⟨ld0, ld1, ld2, ld3, ld4, ld5, ld6⟩ := (HId.out.ext hEW).cells
      simp only [putD, List.foldl_nil, List.foldl_cons, List.getD_cons_zero, List.getD_cons_succ, Act.put, List.setIfInBounds_toArray, List.set_cons_zero, List.set_cons_succ]
      refine OpGoal.yes (by simp [yieldD, r15]) ?_
      go_wp2_with fail
      exact ⟨rfl, Ext.refl _, rfl⟩
    case o26 => -- Op.load 29 (Operand.tmp 11)  GUARD (15, 'true')
      intro xv W9 hE hp
      have r15 : xv 15 = _ := hp.1
      clear hp
      have hEW := hE8.trans ((Ext.drew W).trans hE)
      have lf := HF.out W9 hEW
      obtain ⟨lc0, lc1, lc2, lc3, lc4, lc5, lc6⟩ := (HIc.out.ext hEW).cells
      obtain ⟨ld0, ld1, ld2, ld3, ld4, ld5, ld6⟩ := (HId.out.ext hEW).cells
      simp only [putD, List.foldl_nil, List.foldl_cons, List.getD_cons_zero, List.getD_cons_succ, Act.put, List.setIfInBounds_toArray, List.set_cons_zero, List.set_cons_succ]
      refine OpGoal.yes (by simp [yieldD, r15]) ?_
      go_wp2_with fail
      exact ⟨rfl, Ext.refl _, rfl⟩
    case o27 => -- Op.buildSlice 27 2 #[(0, Operand.tmp 114), (1, Operand.tmp 115)]  GUARD (15, 'tr
      intro xv W9 hE hp
      have r15 : xv 15 = _ := hp.1
      have r25 : xv 25 = _ := hp.2.1
      have r26 : xv 26 = _ := hp.2.2.1
      clear hp
      simp only [putD, List.foldl_nil, List.foldl_cons, List.getD_cons_zero, List.getD_cons_succ, Act.put, List.setIfInBounds_toArray, List.set_cons_zero, List.set_cons_succ]
      refine OpGoal.yes (by simp [yieldD, r15]) ?_
      go_wp2_with fail
      have hEW := hE8.trans ((Ext.drew W).trans hE)
      exact ⟨rfl, Ext.alloc _ _, W9.heap.size, rfl, row2' W9 d Ad cd dd c Ac cc dc (ExL.ext HXd.out hEW) (ExL.ext HXc.out hEW)⟩
    case o28 => -- Op.call { callee := Callee.value (Operand.tmp 113), args := #[Operand.const (Val
      intro xv W9 hE hp
      have r15 : xv 15 = _ := hp.1
      have r24 : xv 24 = _ := hp.2.1
      obtain ⟨g27, r27, h27⟩ := hp.2.2.1
      clear hp
      simp only [putD, List.foldl_nil, List.foldl_cons, List.getD_cons_zero, List.getD_cons_succ, Act.put, List.setIfInBounds_toArray, List.set_cons_zero, List.set_cons_succ]
      refine OpGoal.yes (by simp [yieldD, r15]) ?_
      go_wp2_with fail
      refine (op_any 10 [d, c] (some ⟨g27, 0, none⟩) 2 2 rfl W9).mono ?_
      rintro e w' ⟨rfl, hE9⟩
      go_wp2_with fail
      exact ⟨rfl, hE9, g27, 2, rfl, ExL.ext h27 hE9⟩
    case o29 => -- Op.call { callee := Callee.value (Operand.tmp 112), args := #[Operand.tmp 117], 
      intro xv W9 hE hp
      have r15 : xv 15 = _ := hp.1
      have r23 : xv 23 = _ := hp.2.1
      obtain ⟨g28, n28, r28, h28⟩ := hp.2.2.1
      clear hp
      simp only [putD, List.foldl_nil, List.foldl_cons, List.getD_cons_zero, List.getD_cons_succ, Act.put, List.setIfInBounds_toArray, List.set_cons_zero, List.set_cons_succ]
      refine OpGoal.yes (by simp [yieldD, r15]) ?_
      go_wp2_with fail
      have hEW := hE8.trans ((Ext.drew W).trans hE)
      refine (val_any x (exOp 10 [d, c]) 1 (some ⟨g28, 0, none⟩) n28 (dd + dc + 1) bx W9 (rt_sum (by decide) HRd.out HRc.out) (by first | omega | (simp only [size_1, size_2, size_3]; omega)) h28 (HEn.out.ext hEW)).mono ?_
      rintro r w' ⟨rfl, hE9⟩
      go_wp2_with fail
      exact ⟨rfl, hE9, rfl⟩
    case o30 => -- Op.binOp BinOp.eql 26 (Operand.tmp 111) (Operand.tmp 118) 26  GUARD (15, 'true')
      intro xv W9 hE hp
      have r15 : xv 15 = _ := hp.1
      have r22 : xv 22 = _ := hp.2.1
      have r29 : xv 29 = _ := hp.2.2.1
      clear hp
      have hm := mul_comm' x c d
      rw [hm] at r22
      unfold Vl.v at r22 r29
      have VE := veq (vt x (exOp 10 [d, c]))
      simp only [putD, List.foldl_nil, List.foldl_cons, List.getD_cons_zero, List.getD_cons_succ, Act.put, List.setIfInBounds_toArray, List.set_cons_zero, List.set_cons_succ]
      refine OpGoal.yes (by simp [yieldD, r15]) ?_
      go_wp2_with fail
      exact ⟨rfl, Ext.refl _, rfl⟩
    case o31 => -- Op.pick (Operand.tmp 104) (Operand.tmp 119) (Operand.const (Value.bool false))
      intro xv W9 hE hp
      have r15 : xv 15 = _ := hp.1
      have r30 : xv 30 = _ := hp.2.1
      clear hp
      simp only [putD, List.foldl_nil, List.foldl_cons, List.getD_cons_zero, List.getD_cons_succ, Act.put, List.setIfInBounds_toArray, List.set_cons_zero, List.set_cons_succ]
      refine OpGoal.plain ?_
      go_wp2_with fail
      exact ⟨rfl, Ext.refl _, rfl⟩
    case o32 => -- Op.move (Operand.tmp 120)
      intro xv W9 hE hp
      have r31 : xv 31 = _ := hp.1
      clear hp
      simp only [putD, List.foldl_nil, List.foldl_cons, List.getD_cons_zero, List.getD_cons_succ, Act.put, List.setIfInBounds_toArray, List.set_cons_zero, List.set_cons_succ]
      refine OpGoal.plain ?_
      go_wp2_with fail
      exact ⟨rfl, Ext.refl _, rfl⟩
    case o33 => -- Op.move (Operand.tmp 7)  GUARD (32, 'true')
      intro xv W9 hE hp
      have r32 : xv 32 = _ := hp.1
      clear hp
      simp only [putD, List.foldl_nil, List.foldl_cons, List.getD_cons_zero, List.getD_cons_succ, Act.put, List.setIfInBounds_toArray, List.set_cons_zero, List.set_cons_succ]
      refine OpGoal.yes (by simp [yieldD, r32]) ?_
      go_wp2_with fail
      exact ⟨rfl, Ext.refl _, rfl⟩
    case o34 => -- Op.load 68 (Operand.tmp 8)  GUARD (32, 'true')
      intro xv W9 hE hp
      have r32 : xv 32 = _ := hp.1
      clear hp
      have hEW := hE8.trans ((Ext.drew W).trans hE)
      have lf := HF.out W9 hEW
      obtain ⟨lc0, lc1, lc2, lc3, lc4, lc5, lc6⟩ := (HIc.out.ext hEW).cells
      obtain ⟨ld0, ld1, ld2, ld3, ld4, ld5, ld6⟩ := (HId.out.ext hEW).cells
      simp only [putD, List.foldl_nil, List.foldl_cons, List.getD_cons_zero, List.getD_cons_succ, Act.put, List.setIfInBounds_toArray, List.set_cons_zero, List.set_cons_succ]
      refine OpGoal.yes (by simp [yieldD, r32]) ?_
      go_wp2_with fail
      exact ⟨rfl, Ext.refl _, rfl⟩
    case o35 => -- Op.load 29 (Operand.tmp 11)  GUARD (32, 'true')
      intro xv W9 hE hp
      have r32 : xv 32 = _ := hp.1
      clear hp
      have hEW := hE8.trans ((Ext.drew W).trans hE)
      have lf := HF.out W9 hEW
      obtain ⟨lc0, lc1, lc2, lc3, lc4, lc5, lc6⟩ := (HIc.out.ext hEW).cells
      obtain ⟨ld0, ld1, ld2, ld3, ld4, ld5, ld6⟩ := (HId.out.ext hEW).cells
      simp only [putD, List.foldl_nil, List.foldl_cons, List.getD_cons_zero, List.getD_cons_succ, Act.put, List.setIfInBounds_toArray, List.set_cons_zero, List.set_cons_succ]
      refine OpGoal.yes (by simp [yieldD, r32]) ?_
      go_wp2_with fail
      exact ⟨rfl, Ext.refl _, rfl⟩
    case o36 => -- Op.load 29 (Operand.tmp 12)  GUARD (32, 'true')
      intro xv W9 hE hp
      have r32 : xv 32 = _ := hp.1
      clear hp
      have hEW := hE8.trans ((Ext.drew W).trans hE)
      have lf := HF.out W9 hEW
      obtain ⟨lc0, lc1, lc2, lc3, lc4, lc5, lc6⟩ := (HIc.out.ext hEW).cells
      obtain ⟨ld0, ld1, ld2, ld3, ld4, ld5, ld6⟩ := (HId.out.ext hEW).cells
      simp only [putD, List.foldl_nil, List.foldl_cons, List.getD_cons_zero, List.getD_cons_succ, Act.put, List.setIfInBounds_toArray, List.set_cons_zero, List.set_cons_succ]
      refine OpGoal.yes (by simp [yieldD, r32]) ?_
      go_wp2_with fail
      exact ⟨rfl, Ext.refl _, rfl⟩
    case o37 => -- Op.buildSlice 27 2 #[(0, Operand.tmp 124), (1, Operand.tmp 125)]  GUARD (32, 'tr
      intro xv W9 hE hp
      have r32 : xv 32 = _ := hp.1
      have r35 : xv 35 = _ := hp.2.1
      have r36 : xv 36 = _ := hp.2.2.1
      clear hp
      simp only [putD, List.foldl_nil, List.foldl_cons, List.getD_cons_zero, List.getD_cons_succ, Act.put, List.setIfInBounds_toArray, List.set_cons_zero, List.set_cons_succ]
      refine OpGoal.yes (by simp [yieldD, r32]) ?_
      go_wp2_with fail
      have hEW := hE8.trans ((Ext.drew W).trans hE)
      exact ⟨rfl, Ext.alloc _ _, W9.heap.size, rfl, row2' W9 c Ac cc dc d Ad cd dd (ExL.ext HXc.out hEW) (ExL.ext HXd.out hEW)⟩
    case o38 => -- Op.call { callee := Callee.value (Operand.tmp 123), args := #[Operand.const (Val
      intro xv W9 hE hp
      have r32 : xv 32 = _ := hp.1
      have r34 : xv 34 = _ := hp.2.1
      obtain ⟨g37, r37, h37⟩ := hp.2.2.1
      clear hp
      simp only [putD, List.foldl_nil, List.foldl_cons, List.getD_cons_zero, List.getD_cons_succ, Act.put, List.setIfInBounds_toArray, List.set_cons_zero, List.set_cons_succ]
      refine OpGoal.yes (by simp [yieldD, r32]) ?_
      go_wp2_with fail
      refine (op_any 11 [c, d] (some ⟨g37, 0, none⟩) 2 2 rfl W9).mono ?_
      rintro e w' ⟨rfl, hE9⟩
      go_wp2_with fail
      exact ⟨rfl, hE9, g37, 2, rfl, ExL.ext h37 hE9⟩
    case o39 => -- Op.call { callee := Callee.value (Operand.tmp 122), args := #[Operand.tmp 127], 
      intro xv W9 hE hp
      have r32 : xv 32 = _ := hp.1
      have r33 : xv 33 = _ := hp.2.1
      obtain ⟨g38, n38, r38, h38⟩ := hp.2.2.1
      clear hp
      simp only [putD, List.foldl_nil, List.foldl_cons, List.getD_cons_zero, List.getD_cons_succ, Act.put, List.setIfInBounds_toArray, List.set_cons_zero, List.set_cons_succ]
      refine OpGoal.yes (by simp [yieldD, r32]) ?_
      go_wp2_with fail
      have hEW := hE8.trans ((Ext.drew W).trans hE)
      refine (val_any x (exOp 11 [c, d]) 1 (some ⟨g38, 0, none⟩) n38 (dc + dd + 1) bx W9 (rt_sum (by decide) HRc.out HRd.out) (by first | omega | (simp only [size_1, size_2, size_3]; omega)) h38 (HEn.out.ext hEW)).mono ?_
      rintro r w' ⟨rfl, hE9⟩
      go_wp2_with fail
      exact ⟨rfl, hE9, rfl⟩
    case o40 => -- Op.move (Operand.tmp 7)  GUARD (32, 'true')
      intro xv W9 hE hp
      have r32 : xv 32 = _ := hp.1
      clear hp
      simp only [putD, List.foldl_nil, List.foldl_cons, List.getD_cons_zero, List.getD_cons_succ, Act.put, List.setIfInBounds_toArray, List.set_cons_zero, List.set_cons_succ]
      refine OpGoal.yes (by simp [yieldD, r32]) ?_
      go_wp2_with fail
      exact ⟨rfl, Ext.refl _, rfl⟩
    case o41 => -- Op.load 68 (Operand.tmp 8)  GUARD (32, 'true')
      intro xv W9 hE hp
      have r32 : xv 32 = _ := hp.1
      clear hp
      have hEW := hE8.trans ((Ext.drew W).trans hE)
      have lf := HF.out W9 hEW
      obtain ⟨lc0, lc1, lc2, lc3, lc4, lc5, lc6⟩ := (HIc.out.ext hEW).cells
      obtain ⟨ld0, ld1, ld2, ld3, ld4, ld5, ld6⟩ := (HId.out.ext hEW).cells
      simp only [putD, List.foldl_nil, List.foldl_cons, List.getD_cons_zero, List.getD_cons_succ, Act.put, List.setIfInBounds_toArray, List.set_cons_zero, List.set_cons_succ]
      refine OpGoal.yes (by simp [yieldD, r32]) ?_
      go_wp2_with fail
      exact ⟨rfl, Ext.refl _, rfl⟩
    case o42 => -- Op.load 68 (Operand.tmp 8)  GUARD (32, 'true')
      intro xv W9 hE hp
      have r32 : xv 32 = _ := hp.1
      clear hp
      have hEW := hE8.trans ((Ext.drew W).trans hE)
      have lf := HF.out W9 hEW
      obtain ⟨lc0, lc1, lc2, lc3, lc4, lc5, lc6⟩ := (HIc.out.ext hEW).cells
      obtain ⟨ld0, ld1, ld2, ld3, ld4, ld5, ld6⟩ := (HId.out.ext hEW).cells
      simp only [putD, List.foldl_nil, List.foldl_cons, List.getD_cons_zero, List.getD_cons_succ, Act.put, List.setIfInBounds_toArray, List.set_cons_zero, List.set_cons_succ]
      refine OpGoal.yes (by simp [yieldD, r32]) ?_
      go_wp2_with fail
      exact ⟨rfl, Ext.refl _, rfl⟩
    case o43 => -- Op.load 29 (Operand.tmp 11)  GUARD (32, 'true')
      intro xv W9 hE hp
      have r32 : xv 32 = _ := hp.1
      clear hp
      have hEW := hE8.trans ((Ext.drew W).trans hE)
      have lf := HF.out W9 hEW
      obtain ⟨lc0, lc1, lc2, lc3, lc4, lc5, lc6⟩ := (HIc.out.ext hEW).cells
      obtain ⟨ld0, ld1, ld2, ld3, ld4, ld5, ld6⟩ := (HId.out.ext hEW).cells
      simp only [putD, List.foldl_nil, List.foldl_cons, List.getD_cons_zero, List.getD_cons_succ, Act.put, List.setIfInBounds_toArray, List.set_cons_zero, List.set_cons_succ]
      refine OpGoal.yes (by simp [yieldD, r32]) ?_
      go_wp2_with fail
      exact ⟨rfl, Ext.refl _, rfl⟩
    case o44 => -- Op.load 29 (Operand.tmp 12)  GUARD (32, 'true')
      intro xv W9 hE hp
      have r32 : xv 32 = _ := hp.1
      clear hp
      have hEW := hE8.trans ((Ext.drew W).trans hE)
      have lf := HF.out W9 hEW
      obtain ⟨lc0, lc1, lc2, lc3, lc4, lc5, lc6⟩ := (HIc.out.ext hEW).cells
      obtain ⟨ld0, ld1, ld2, ld3, ld4, ld5, ld6⟩ := (HId.out.ext hEW).cells
      simp only [putD, List.foldl_nil, List.foldl_cons, List.getD_cons_zero, List.getD_cons_succ, Act.put, List.setIfInBounds_toArray, List.set_cons_zero, List.set_cons_succ]
      refine OpGoal.yes (by simp [yieldD, r32]) ?_
      go_wp2_with fail
      exact ⟨rfl, Ext.refl _, rfl⟩
    case o45 => -- Op.buildSlice 27 2 #[(0, Operand.tmp 132), (1, Operand.tmp 133)]  GUARD (32, 'tr
      intro xv W9 hE hp
      have r32 : xv 32 = _ := hp.1
      have r43 : xv 43 = _ := hp.2.1
      have r44 : xv 44 = _ := hp.2.2.1
      clear hp
      simp only [putD, List.foldl_nil, List.foldl_cons, List.getD_cons_zero, List.getD_cons_succ, Act.put, List.setIfInBounds_toArray, List.set_cons_zero, List.set_cons_succ]
      refine OpGoal.yes (by simp [yieldD, r32]) ?_
      go_wp2_with fail
      have hEW := hE8.trans ((Ext.drew W).trans hE)
      exact ⟨rfl, Ext.alloc _ _, W9.heap.size, rfl, row2' W9 c Ac cc dc d Ad cd dd (ExL.ext HXc.out hEW) (ExL.ext HXd.out hEW)⟩
    case o46 => -- Op.call { callee := Callee.value (Operand.tmp 131), args := #[Operand.const (Val
      intro xv W9 hE hp
      have r32 : xv 32 = _ := hp.1
      have r42 : xv 42 = _ := hp.2.1
      obtain ⟨g45, r45, h45⟩ := hp.2.2.1
      clear hp
      simp only [putD, List.foldl_nil, List.foldl_cons, List.getD_cons_zero, List.getD_cons_succ, Act.put, List.setIfInBounds_toArray, List.set_cons_zero, List.set_cons_succ]
      refine OpGoal.yes (by simp [yieldD, r32]) ?_
      go_wp2_with fail
      refine (op_any 7 [c, d] (some ⟨g45, 0, none⟩) 2 2 rfl W9).mono ?_
      rintro e w' ⟨rfl, hE9⟩
      go_wp2_with fail
      exact ⟨rfl, hE9, g45, 2, rfl, ExL.ext h45 hE9⟩
    case o47 => -- Op.load 29 (Operand.tmp 11)  GUARD (32, 'true')
      intro xv W9 hE hp
      have r32 : xv 32 = _ := hp.1
      clear hp
      have hEW := hE8.trans ((Ext.drew W).trans hE)
      have lf := HF.out W9 hEW
      obtain ⟨lc0, lc1, lc2, lc3, lc4, lc5, lc6⟩ := (HIc.out.ext hEW).cells
      obtain ⟨ld0, ld1, ld2, ld3, ld4, ld5, ld6⟩ := (HId.out.ext hEW).cells
      simp only [putD, List.foldl_nil, List.foldl_cons, List.getD_cons_zero, List.getD_cons_succ, Act.put, List.setIfInBounds_toArray, List.set_cons_zero, List.set_cons_succ]
      refine OpGoal.yes (by simp [yieldD, r32]) ?_
      go_wp2_with fail
      exact ⟨rfl, Ext.refl _, rfl⟩
    case o48 => -- Op.load 29 (Operand.tmp 12)  GUARD (32, 'true')
      intro xv W9 hE hp
      have r32 : xv 32 = _ := hp.1
      clear hp
      have hEW := hE8.trans ((Ext.drew W).trans hE)
      have lf := HF.out W9 hEW
      obtain ⟨lc0, lc1, lc2, lc3, lc4, lc5, lc6⟩ := (HIc.out.ext hEW).cells
      obtain ⟨ld0, ld1, ld2, ld3, ld4, ld5, ld6⟩ := (HId.out.ext hEW).cells
      simp only [putD, List.foldl_nil, List.foldl_cons, List.getD_cons_zero, List.getD_cons_succ, Act.put, List.setIfInBounds_toArray, List.set_cons_zero, List.set_cons_succ]
      refine OpGoal.yes (by simp [yieldD, r32]) ?_
      go_wp2_with fail
      exact ⟨rfl, Ext.refl _, rfl⟩
    case o49 => -- Op.buildSlice 27 3 #[(0, Operand.tmp 135), (1, Operand.tmp 136), (2, Operand.tmp
      intro xv W9 hE hp
      have r32 : xv 32 = _ := hp.1
      obtain ⟨g46, n46, r46, h46⟩ := hp.2.1
      have r47 : xv 47 = _ := hp.2.2.1
      have r48 : xv 48 = _ := hp.2.2.2.1
      clear hp
      simp only [putD, List.foldl_nil, List.foldl_cons, List.getD_cons_zero, List.getD_cons_succ, Act.put, List.setIfInBounds_toArray, List.set_cons_zero, List.set_cons_succ]
      refine OpGoal.yes (by simp [yieldD, r32]) ?_
      go_wp2_with fail
      have hEW := hE8.trans ((Ext.drew W).trans hE)
      exact ⟨rfl, Ext.alloc _ _, W9.heap.size, rfl, row3' W9 (exOp 7 [c, d]) (some ⟨g46, 0, none⟩) n46 (dc + dd + 1) c Ac cc dc d Ad cd dd h46 (ExL.ext HXc.out hEW) (ExL.ext HXd.out hEW)⟩
    case o50 => -- Op.call { callee := Callee.value (Operand.tmp 130), args := #[Operand.const (Val
      intro xv W9 hE hp
      have r32 : xv 32 = _ := hp.1
      have r41 : xv 41 = _ := hp.2.1
      obtain ⟨g49, r49, h49⟩ := hp.2.2.1
      clear hp
      simp only [putD, List.foldl_nil, List.foldl_cons, List.getD_cons_zero, List.getD_cons_succ, Act.put, List.setIfInBounds_toArray, List.set_cons_zero, List.set_cons_succ]
      refine OpGoal.yes (by simp [yieldD, r32]) ?_
      go_wp2_with fail
      refine (op_any 13 [(exOp 7 [c, d]), c, d] (some ⟨g49, 0, none⟩) 3 3 rfl W9).mono ?_
      rintro e w' ⟨rfl, hE9⟩
      go_wp2_with fail
      exact ⟨rfl, hE9, g49, 3, rfl, ExL.ext h49 hE9⟩
    case o51 => -- Op.call { callee := Callee.value (Operand.tmp 129), args := #[Operand.tmp 139], 
      intro xv W9 hE hp
      have r32 : xv 32 = _ := hp.1
      have r40 : xv 40 = _ := hp.2.1
      obtain ⟨g50, n50, r50, h50⟩ := hp.2.2.1
      clear hp
      simp only [putD, List.foldl_nil, List.foldl_cons, List.getD_cons_zero, List.getD_cons_succ, Act.put, List.setIfInBounds_toArray, List.set_cons_zero, List.set_cons_succ]
      refine OpGoal.yes (by simp [yieldD, r32]) ?_
      go_wp2_with fail
      have hEW := hE8.trans ((Ext.drew W).trans hE)
      refine (val_any x (exOp 13 [(exOp 7 [c, d]), c, d]) 1 (some ⟨g50, 0, none⟩) n50 ((dc + dd + 1) + dc + dd + 1) bx W9 (rt_if (rt_less HRc.out HRd.out) HRc.out HRd.out) (by first | omega | (simp only [size_1, size_2, size_3]; omega)) h50 (HEn.out.ext hEW)).mono ?_
      rintro r w' ⟨rfl, hE9⟩
      go_wp2_with fail
      exact ⟨rfl, hE9, rfl⟩
    case o52 => -- Op.binOp BinOp.eql 26 (Operand.tmp 128) (Operand.tmp 140) 26  GUARD (32, 'true')
      intro xv W9 hE hp
      have r32 : xv 32 = _ := hp.1
      have r39 : xv 39 = _ := hp.2.1
      have r51 : xv 51 = _ := hp.2.2.1
      clear hp
      have hm := min_if (x.fits_big) HRc.out HRd.out
      rw [hm] at r39
      unfold Vl.v at r39 r51
      have VE := veq (vt x (exOp 13 [(exOp 7 [c, d]), c, d]))
      simp only [putD, List.foldl_nil, List.foldl_cons, List.getD_cons_zero, List.getD_cons_succ, Act.put, List.setIfInBounds_toArray, List.set_cons_zero, List.set_cons_succ]
      refine OpGoal.yes (by simp [yieldD, r32]) ?_
      go_wp2_with fail
      exact ⟨rfl, Ext.refl _, rfl⟩
    case o53 => -- Op.pick (Operand.tmp 121) (Operand.tmp 141) (Operand.const (Value.bool false))
      intro xv W9 hE hp
      have r32 : xv 32 = _ := hp.1
      have r52 : xv 52 = _ := hp.2.1
      clear hp
      simp only [putD, List.foldl_nil, List.foldl_cons, List.getD_cons_zero, List.getD_cons_succ, Act.put, List.setIfInBounds_toArray, List.set_cons_zero, List.set_cons_succ]
      refine OpGoal.plain ?_
      go_wp2_with fail
      exact ⟨rfl, Ext.refl _, rfl⟩
    case o54 => -- Op.move (Operand.tmp 142)
      intro xv W9 hE hp
      have r53 : xv 53 = _ := hp.1
      clear hp
      simp only [putD, List.foldl_nil, List.foldl_cons, List.getD_cons_zero, List.getD_cons_succ, Act.put, List.setIfInBounds_toArray, List.set_cons_zero, List.set_cons_succ]
      refine OpGoal.plain ?_
      go_wp2_with fail
      exact ⟨rfl, Ext.refl _, rfl⟩
    case o55 => -- Op.move (Operand.tmp 7)  GUARD (54, 'true')
      intro xv W9 hE hp
      have r54 : xv 54 = _ := hp.1
      clear hp
      simp only [putD, List.foldl_nil, List.foldl_cons, List.getD_cons_zero, List.getD_cons_succ, Act.put, List.setIfInBounds_toArray, List.set_cons_zero, List.set_cons_succ]
      refine OpGoal.yes (by simp [yieldD, r54]) ?_
      go_wp2_with fail
      exact ⟨rfl, Ext.refl _, rfl⟩
    case o56 => -- Op.load 68 (Operand.tmp 8)  GUARD (54, 'true')
      intro xv W9 hE hp
      have r54 : xv 54 = _ := hp.1
      clear hp
      have hEW := hE8.trans ((Ext.drew W).trans hE)
      have lf := HF.out W9 hEW
      obtain ⟨lc0, lc1, lc2, lc3, lc4, lc5, lc6⟩ := (HIc.out.ext hEW).cells
      obtain ⟨ld0, ld1, ld2, ld3, ld4, ld5, ld6⟩ := (HId.out.ext hEW).cells
      simp only [putD, List.foldl_nil, List.foldl_cons, List.getD_cons_zero, List.getD_cons_succ, Act.put, List.setIfInBounds_toArray, List.set_cons_zero, List.set_cons_succ]
      refine OpGoal.yes (by simp [yieldD, r54]) ?_
      go_wp2_with fail
      exact ⟨rfl, Ext.refl _, rfl⟩
    case o57 => -- Op.load 29 (Operand.tmp 11)  GUARD (54, 'true')
      intro xv W9 hE hp
      have r54 : xv 54 = _ := hp.1
      clear hp
      have hEW := hE8.trans ((Ext.drew W).trans hE)
      have lf := HF.out W9 hEW
      obtain ⟨lc0, lc1, lc2, lc3, lc4, lc5, lc6⟩ := (HIc.out.ext hEW).cells
      obtain ⟨ld0, ld1, ld2, ld3, ld4, ld5, ld6⟩ := (HId.out.ext hEW).cells
      simp only [putD, List.foldl_nil, List.foldl_cons, List.getD_cons_zero, List.getD_cons_succ, Act.put, List.setIfInBounds_toArray, List.set_cons_zero, List.set_cons_succ]
      refine OpGoal.yes (by simp [yieldD, r54]) ?_
      go_wp2_with fail
      exact ⟨rfl, Ext.refl _, rfl⟩
    case o58 => -- Op.load 29 (Operand.tmp 12)  GUARD (54, 'true')
      intro xv W9 hE hp
      have r54 : xv 54 = _ := hp.1
      clear hp
      have hEW := hE8.trans ((Ext.drew W).trans hE)
      have lf := HF.out W9 hEW
      obtain ⟨lc0, lc1, lc2, lc3, lc4, lc5, lc6⟩ := (HIc.out.ext hEW).cells
      obtain ⟨ld0, ld1, ld2, ld3, ld4, ld5, ld6⟩ := (HId.out.ext hEW).cells
      simp only [putD, List.foldl_nil, List.foldl_cons, List.getD_cons_zero, List.getD_cons_succ, Act.put, List.setIfInBounds_toArray, List.set_cons_zero, List.set_cons_succ]
      refine OpGoal.yes (by simp [yieldD, r54]) ?_
      go_wp2_with fail
      exact ⟨rfl, Ext.refl _, rfl⟩
    case o59 => -- Op.buildSlice 27 2 #[(0, Operand.tmp 146), (1, Operand.tmp 147)]  GUARD (54, 'tr
      intro xv W9 hE hp
      have r54 : xv 54 = _ := hp.1
      have r57 : xv 57 = _ := hp.2.1
      have r58 : xv 58 = _ := hp.2.2.1
      clear hp
      simp only [putD, List.foldl_nil, List.foldl_cons, List.getD_cons_zero, List.getD_cons_succ, Act.put, List.setIfInBounds_toArray, List.set_cons_zero, List.set_cons_succ]
      refine OpGoal.yes (by simp [yieldD, r54]) ?_
      go_wp2_with fail
      have hEW := hE8.trans ((Ext.drew W).trans hE)
      exact ⟨rfl, Ext.alloc _ _, W9.heap.size, rfl, row2' W9 c Ac cc dc d Ad cd dd (ExL.ext HXc.out hEW) (ExL.ext HXd.out hEW)⟩
    case o60 => -- Op.call { callee := Callee.value (Operand.tmp 145), args := #[Operand.const (Val
      intro xv W9 hE hp
      have r54 : xv 54 = _ := hp.1
      have r56 : xv 56 = _ := hp.2.1
      obtain ⟨g59, r59, h59⟩ := hp.2.2.1
      clear hp
      simp only [putD, List.foldl_nil, List.foldl_cons, List.getD_cons_zero, List.getD_cons_succ, Act.put, List.setIfInBounds_toArray, List.set_cons_zero, List.set_cons_succ]
      refine OpGoal.yes (by simp [yieldD, r54]) ?_
      go_wp2_with fail
      refine (op_any 12 [c, d] (some ⟨g59, 0, none⟩) 2 2 rfl W9).mono ?_
      rintro e w' ⟨rfl, hE9⟩
      go_wp2_with fail
      exact ⟨rfl, hE9, g59, 2, rfl, ExL.ext h59 hE9⟩
    case o61 => -- Op.call { callee := Callee.value (Operand.tmp 144), args := #[Operand.tmp 149], 
      intro xv W9 hE hp
      have r54 : xv 54 = _ := hp.1
      have r55 : xv 55 = _ := hp.2.1
      obtain ⟨g60, n60, r60, h60⟩ := hp.2.2.1
      clear hp
      simp only [putD, List.foldl_nil, List.foldl_cons, List.getD_cons_zero, List.getD_cons_succ, Act.put, List.setIfInBounds_toArray, List.set_cons_zero, List.set_cons_succ]
      refine OpGoal.yes (by simp [yieldD, r54]) ?_
      go_wp2_with fail
      have hEW := hE8.trans ((Ext.drew W).trans hE)
      refine (val_any x (exOp 12 [c, d]) 1 (some ⟨g60, 0, none⟩) n60 (dc + dd + 1) bx W9 (rt_sum (by decide) HRc.out HRd.out) (by first | omega | (simp only [size_1, size_2, size_3]; omega)) h60 (HEn.out.ext hEW)).mono ?_
      rintro r w' ⟨rfl, hE9⟩
      go_wp2_with fail
      exact ⟨rfl, hE9, rfl⟩
    case o62 => -- Op.move (Operand.tmp 7)  GUARD (54, 'true')
      intro xv W9 hE hp
      have r54 : xv 54 = _ := hp.1
      clear hp
      simp only [putD, List.foldl_nil, List.foldl_cons, List.getD_cons_zero, List.getD_cons_succ, Act.put, List.setIfInBounds_toArray, List.set_cons_zero, List.set_cons_succ]
      refine OpGoal.yes (by simp [yieldD, r54]) ?_
      go_wp2_with fail
      exact ⟨rfl, Ext.refl _, rfl⟩
    case o63 => -- Op.load 68 (Operand.tmp 8)  GUARD (54, 'true')
      intro xv W9 hE hp
      have r54 : xv 54 = _ := hp.1
      clear hp
      have hEW := hE8.trans ((Ext.drew W).trans hE)
      have lf := HF.out W9 hEW
      obtain ⟨lc0, lc1, lc2, lc3, lc4, lc5, lc6⟩ := (HIc.out.ext hEW).cells
      obtain ⟨ld0, ld1, ld2, ld3, ld4, ld5, ld6⟩ := (HId.out.ext hEW).cells
      simp only [putD, List.foldl_nil, List.foldl_cons, List.getD_cons_zero, List.getD_cons_succ, Act.put, List.setIfInBounds_toArray, List.set_cons_zero, List.set_cons_succ]
      refine OpGoal.yes (by simp [yieldD, r54]) ?_
      go_wp2_with fail
      exact ⟨rfl, Ext.refl _, rfl⟩
    case o64 => -- Op.load 68 (Operand.tmp 8)  GUARD (54, 'true')
      intro xv W9 hE hp
      have r54 : xv 54 = _ := hp.1
      clear hp
      have hEW := hE8.trans ((Ext.drew W).trans hE)
      have lf := HF.out W9 hEW
      obtain ⟨lc0, lc1, lc2, lc3, lc4, lc5, lc6⟩ := (HIc.out.ext hEW).cells
      obtain ⟨ld0, ld1, ld2, ld3, ld4, ld5, ld6⟩ := (HId.out.ext hEW).cells
      simp only [putD, List.foldl_nil, List.foldl_cons, List.getD_cons_zero, List.getD_cons_succ, Act.put, List.setIfInBounds_toArray, List.set_cons_zero, List.set_cons_succ]
      refine OpGoal.yes (by simp [yieldD, r54]) ?_
      go_wp2_with fail
      exact ⟨rfl, Ext.refl _, rfl⟩
    case o65 => -- Op.load 29 (Operand.tmp 11)  GUARD (54, 'true')
      intro xv W9 hE hp
      have r54 : xv 54 = _ := hp.1
      clear hp
      have hEW := hE8.trans ((Ext.drew W).trans hE)
      have lf := HF.out W9 hEW
      obtain ⟨lc0, lc1, lc2, lc3, lc4, lc5, lc6⟩ := (HIc.out.ext hEW).cells
      obtain ⟨ld0, ld1, ld2, ld3, ld4, ld5, ld6⟩ := (HId.out.ext hEW).cells
      simp only [putD, List.foldl_nil, List.foldl_cons, List.getD_cons_zero, List.getD_cons_succ, Act.put, List.setIfInBounds_toArray, List.set_cons_zero, List.set_cons_succ]
      refine OpGoal.yes (by simp [yieldD, r54]) ?_
      go_wp2_with fail
      exact ⟨rfl, Ext.refl _, rfl⟩
    case o66 => -- Op.load 29 (Operand.tmp 12)  GUARD (54, 'true')
      intro xv W9 hE hp
      have r54 : xv 54 = _ := hp.1
      clear hp
      have hEW := hE8.trans ((Ext.drew W).trans hE)
      have lf := HF.out W9 hEW
      obtain ⟨lc0, lc1, lc2, lc3, lc4, lc5, lc6⟩ := (HIc.out.ext hEW).cells
      obtain ⟨ld0, ld1, ld2, ld3, ld4, ld5, ld6⟩ := (HId.out.ext hEW).cells
      simp only [putD, List.foldl_nil, List.foldl_cons, List.getD_cons_zero, List.getD_cons_succ, Act.put, List.setIfInBounds_toArray, List.set_cons_zero, List.set_cons_succ]
      refine OpGoal.yes (by simp [yieldD, r54]) ?_
      go_wp2_with fail
      exact ⟨rfl, Ext.refl _, rfl⟩
    case o67 => -- Op.buildSlice 27 2 #[(0, Operand.tmp 154), (1, Operand.tmp 155)]  GUARD (54, 'tr
      intro xv W9 hE hp
      have r54 : xv 54 = _ := hp.1
      have r65 : xv 65 = _ := hp.2.1
      have r66 : xv 66 = _ := hp.2.2.1
      clear hp
      simp only [putD, List.foldl_nil, List.foldl_cons, List.getD_cons_zero, List.getD_cons_succ, Act.put, List.setIfInBounds_toArray, List.set_cons_zero, List.set_cons_succ]
      refine OpGoal.yes (by simp [yieldD, r54]) ?_
      go_wp2_with fail
      have hEW := hE8.trans ((Ext.drew W).trans hE)
      exact ⟨rfl, Ext.alloc _ _, W9.heap.size, rfl, row2' W9 c Ac cc dc d Ad cd dd (ExL.ext HXc.out hEW) (ExL.ext HXd.out hEW)⟩
    case o68 => -- Op.call { callee := Callee.value (Operand.tmp 153), args := #[Operand.const (Val
      intro xv W9 hE hp
      have r54 : xv 54 = _ := hp.1
      have r64 : xv 64 = _ := hp.2.1
      obtain ⟨g67, r67, h67⟩ := hp.2.2.1
      clear hp
      simp only [putD, List.foldl_nil, List.foldl_cons, List.getD_cons_zero, List.getD_cons_succ, Act.put, List.setIfInBounds_toArray, List.set_cons_zero, List.set_cons_succ]
      refine OpGoal.yes (by simp [yieldD, r54]) ?_
      go_wp2_with fail
      refine (op_any 7 [c, d] (some ⟨g67, 0, none⟩) 2 2 rfl W9).mono ?_
      rintro e w' ⟨rfl, hE9⟩
      go_wp2_with fail
      exact ⟨rfl, hE9, g67, 2, rfl, ExL.ext h67 hE9⟩
    case o69 => -- Op.load 29 (Operand.tmp 12)  GUARD (54, 'true')
      intro xv W9 hE hp
      have r54 : xv 54 = _ := hp.1
      clear hp
      have hEW := hE8.trans ((Ext.drew W).trans hE)
      have lf := HF.out W9 hEW
      obtain ⟨lc0, lc1, lc2, lc3, lc4, lc5, lc6⟩ := (HIc.out.ext hEW).cells
      obtain ⟨ld0, ld1, ld2, ld3, ld4, ld5, ld6⟩ := (HId.out.ext hEW).cells
      simp only [putD, List.foldl_nil, List.foldl_cons, List.getD_cons_zero, List.getD_cons_succ, Act.put, List.setIfInBounds_toArray, List.set_cons_zero, List.set_cons_succ]
      refine OpGoal.yes (by simp [yieldD, r54]) ?_
      go_wp2_with fail
      exact ⟨rfl, Ext.refl _, rfl⟩
    case o70 => -- Op.load 29 (Operand.tmp 11)  GUARD (54, 'true')
      intro xv W9 hE hp
      have r54 : xv 54 = _ := hp.1
      clear hp
      have hEW := hE8.trans ((Ext.drew W).trans hE)
      have lf := HF.out W9 hEW
      obtain ⟨lc0, lc1, lc2, lc3, lc4, lc5, lc6⟩ := (HIc.out.ext hEW).cells
      obtain ⟨ld0, ld1, ld2, ld3, ld4, ld5, ld6⟩ := (HId.out.ext hEW).cells
      simp only [putD, List.foldl_nil, List.foldl_cons, List.getD_cons_zero, List.getD_cons_succ, Act.put, List.setIfInBounds_toArray, List.set_cons_zero, List.set_cons_succ]
      refine OpGoal.yes (by simp [yieldD, r54]) ?_
      go_wp2_with fail
      exact ⟨rfl, Ext.refl _, rfl⟩
    case o71 => -- Op.buildSlice 27 3 #[(0, Operand.tmp 157), (1, Operand.tmp 158), (2, Operand.tmp
      intro xv W9 hE hp
      have r54 : xv 54 = _ := hp.1
      obtain ⟨g68, n68, r68, h68⟩ := hp.2.1
      have r69 : xv 69 = _ := hp.2.2.1
      have r70 : xv 70 = _ := hp.2.2.2.1
      clear hp
      simp only [putD, List.foldl_nil, List.foldl_cons, List.getD_cons_zero, List.getD_cons_succ, Act.put, List.setIfInBounds_toArray, List.set_cons_zero, List.set_cons_succ]
      refine OpGoal.yes (by simp [yieldD, r54]) ?_
      go_wp2_with fail
      have hEW := hE8.trans ((Ext.drew W).trans hE)
      exact ⟨rfl, Ext.alloc _ _, W9.heap.size, rfl, row3' W9 (exOp 7 [c, d]) (some ⟨g68, 0, none⟩) n68 (dc + dd + 1) d Ad cd dd c Ac cc dc h68 (ExL.ext HXd.out hEW) (ExL.ext HXc.out hEW)⟩
    case o72 => -- Op.call { callee := Callee.value (Operand.tmp 152), args := #[Operand.const (Val
      intro xv W9 hE hp
      have r54 : xv 54 = _ := hp.1
      have r63 : xv 63 = _ := hp.2.1
      obtain ⟨g71, r71, h71⟩ := hp.2.2.1
      clear hp
      simp only [putD, List.foldl_nil, List.foldl_cons, List.getD_cons_zero, List.getD_cons_succ, Act.put, List.setIfInBounds_toArray, List.set_cons_zero, List.set_cons_succ]
      refine OpGoal.yes (by simp [yieldD, r54]) ?_
      go_wp2_with fail
      refine (op_any 13 [(exOp 7 [c, d]), d, c] (some ⟨g71, 0, none⟩) 3 3 rfl W9).mono ?_
      rintro e w' ⟨rfl, hE9⟩
      go_wp2_with fail
      exact ⟨rfl, hE9, g71, 3, rfl, ExL.ext h71 hE9⟩
    case o73 => -- Op.call { callee := Callee.value (Operand.tmp 151), args := #[Operand.tmp 161], 
      intro xv W9 hE hp
      have r54 : xv 54 = _ := hp.1
      have r62 : xv 62 = _ := hp.2.1
      obtain ⟨g72, n72, r72, h72⟩ := hp.2.2.1
      clear hp
      simp only [putD, List.foldl_nil, List.foldl_cons, List.getD_cons_zero, List.getD_cons_succ, Act.put, List.setIfInBounds_toArray, List.set_cons_zero, List.set_cons_succ]
      refine OpGoal.yes (by simp [yieldD, r54]) ?_
      go_wp2_with fail
      have hEW := hE8.trans ((Ext.drew W).trans hE)
      refine (val_any x (exOp 13 [(exOp 7 [c, d]), d, c]) 1 (some ⟨g72, 0, none⟩) n72 ((dc + dd + 1) + dd + dc + 1) bx W9 (rt_if (rt_less HRc.out HRd.out) HRd.out HRc.out) (by first | omega | (simp only [size_1, size_2, size_3]; omega)) h72 (HEn.out.ext hEW)).mono ?_
      rintro r w' ⟨rfl, hE9⟩
      go_wp2_with fail
      exact ⟨rfl, hE9, rfl⟩
    case o74 => -- Op.binOp BinOp.eql 26 (Operand.tmp 150) (Operand.tmp 162) 26  GUARD (54, 'true')
      intro xv W9 hE hp
      have r54 : xv 54 = _ := hp.1
      have r61 : xv 61 = _ := hp.2.1
      have r73 : xv 73 = _ := hp.2.2.1
      clear hp
      have hm := max_if (x.fits_big) HRc.out HRd.out
      rw [hm] at r61
      unfold Vl.v at r61 r73
      have VE := veq (vt x (exOp 13 [(exOp 7 [c, d]), d, c]))
      simp only [putD, List.foldl_nil, List.foldl_cons, List.getD_cons_zero, List.getD_cons_succ, Act.put, List.setIfInBounds_toArray, List.set_cons_zero, List.set_cons_succ]
      refine OpGoal.yes (by simp [yieldD, r54]) ?_
      go_wp2_with fail
      exact ⟨rfl, Ext.refl _, rfl⟩
    case o75 => -- Op.pick (Operand.tmp 143) (Operand.tmp 163) (Operand.const (Value.bool false))
      intro xv W9 hE hp
      have r54 : xv 54 = _ := hp.1
      have r74 : xv 74 = _ := hp.2.1
      clear hp
      simp only [putD, List.foldl_nil, List.foldl_cons, List.getD_cons_zero, List.getD_cons_succ, Act.put, List.setIfInBounds_toArray, List.set_cons_zero, List.set_cons_succ]
      refine OpGoal.plain ?_
      go_wp2_with fail
      exact ⟨rfl, Ext.refl _, rfl⟩
    case last =>
      intro xv W9 hE hp
      have r0 : xv 0 = _ := hp.1
      have r1 : xv 1 = _ := hp.2.1
      have r2 : xv 2 = _ := hp.2.2.1
      have r3 : xv 3 = _ := hp.2.2.2.1
      obtain ⟨g4, r4, h4⟩ := hp.2.2.2.2.1
      obtain ⟨g5, n5, r5, h5⟩ := hp.2.2.2.2.2.1
      have r6 : xv 6 = _ := hp.2.2.2.2.2.2.1
      have r7 : xv 7 = _ := hp.2.2.2.2.2.2.2.1
      have r8 : xv 8 = _ := hp.2.2.2.2.2.2.2.2.1
      have r9 : xv 9 = _ := hp.2.2.2.2.2.2.2.2.2.1
      have r10 : xv 10 = _ := hp.2.2.2.2.2.2.2.2.2.2.1
      obtain ⟨g11, r11, h11⟩ := hp.2.2.2.2.2.2.2.2.2.2.2.1
      obtain ⟨g12, n12, r12, h12⟩ := hp.2.2.2.2.2.2.2.2.2.2.2.2.1
      have r13 : xv 13 = _ := hp.2.2.2.2.2.2.2.2.2.2.2.2.2.1
      have r14 : xv 14 = _ := hp.2.2.2.2.2.2.2.2.2.2.2.2.2.2.1
      have r15 : xv 15 = _ := hp.2.2.2.2.2.2.2.2.2.2.2.2.2.2.2.1
      have r16 : xv 16 = _ := hp.2.2.2.2.2.2.2.2.2.2.2.2.2.2.2.2.1
      have r17 : xv 17 = _ := hp.2.2.2.2.2.2.2.2.2.2.2.2.2.2.2.2.2.1
      have r18 : xv 18 = _ := hp.2.2.2.2.2.2.2.2.2.2.2.2.2.2.2.2.2.2.1
      have r19 : xv 19 = _ := hp.2.2.2.2.2.2.2.2.2.2.2.2.2.2.2.2.2.2.2.1
      obtain ⟨g20, r20, h20⟩ := hp.2.2.2.2.2.2.2.2.2.2.2.2.2.2.2.2.2.2.2.2.1
      obtain ⟨g21, n21, r21, h21⟩ := hp.2.2.2.2.2.2.2.2.2.2.2.2.2.2.2.2.2.2.2.2.2.1
      have r22 : xv 22 = _ := hp.2.2.2.2.2.2.2.2.2.2.2.2.2.2.2.2.2.2.2.2.2.2.1
      have r23 : xv 23 = _ := hp.2.2.2.2.2.2.2.2.2.2.2.2.2.2.2.2.2.2.2.2.2.2.2.1
      have r24 : xv 24 = _ := hp.2.2.2.2.2.2.2.2.2.2.2.2.2.2.2.2.2.2.2.2.2.2.2.2.1
      have r25 : xv 25 = _ := hp.2.2.2.2.2.2.2.2.2.2.2.2.2.2.2.2.2.2.2.2.2.2.2.2.2.1
      have r26 : xv 26 = _ := hp.2.2.2.2.2.2.2.2.2.2.2.2.2.2.2.2.2.2.2.2.2.2.2.2.2.2.1
      obtain ⟨g27, r27, h27⟩ := hp.2.2.2.2.2.2.2.2.2.2.2.2.2.2.2.2.2.2.2.2.2.2.2.2.2.2.2.1
      obtain ⟨g28, n28, r28, h28⟩ := hp.2.2.2.2.2.2.2.2.2.2.2.2.2.2.2.2.2.2.2.2.2.2.2.2.2.2.2.2.1
      have r29 : xv 29 = _ := hp.2.2.2.2.2.2.2.2.2.2.2.2.2.2.2.2.2.2.2.2.2.2.2.2.2.2.2.2.2.1
      have r30 : xv 30 = _ := hp.2.2.2.2.2.2.2.2.2.2.2.2.2.2.2.2.2.2.2.2.2.2.2.2.2.2.2.2.2.2.1
      have r31 : xv 31 = _ := hp.2.2.2.2.2.2.2.2.2.2.2.2.2.2.2.2.2.2.2.2.2.2.2.2.2.2.2.2.2.2.2.1
      have r32 : xv 32 = _ := hp.2.2.2.2.2.2.2.2.2.2.2.2.2.2.2.2.2.2.2.2.2.2.2.2.2.2.2.2.2.2.2.2.1
      have r33 : xv 33 = _ := hp.2.2.2.2.2.2.2.2.2.2.2.2.2.2.2.2.2.2.2.2.2.2.2.2.2.2.2.2.2.2.2.2.2.1
      have r34 : xv 34 = _ := hp.2.2.2.2.2.2.2.2.2.2.2.2.2.2.2.2.2.2.2.2.2.2.2.2.2.2.2.2.2.2.2.2.2.2.1
      have r35 : xv 35 = _ := hp.2.2.2.2.2.2.2.2.2.2.2.2.2.2.2.2.2.2.2.2.2.2.2.2.2.2.2.2.2.2.2.2.2.2.2.1
      have r36 : xv 36 = _ := hp.2.2.2.2.2.2.2.2.2.2.2.2.2.2.2.2.2.2.2.2.2.2.2.2.2.2.2.2.2.2.2.2.2.2.2.2.1
      obtain ⟨g37, r37, h37⟩ := hp.2.2.2.2.2.2.2.2.2.2.2.2.2.2.2.2.2.2.2.2.2.2.2.2.2.2.2.2.2.2.2.2.2.2.2.2.2.1
      obtain ⟨g38, n38, r38, h38⟩ := hp.2.2.2.2.2.2.2.2.2.2.2.2.2.2.2.2.2.2.2.2.2.2.2.2.2.2.2.2.2.2.2.2.2.2.2.2.2.2.1
      have r39 : xv 39 = _ := hp.2.2.2.2.2.2.2.2.2.2.2.2.2.2.2.2.2.2.2.2.2.2.2.2.2.2.2.2.2.2.2.2.2.2.2.2.2.2.2.1
      have r40 : xv 40 = _ := hp.2.2.2.2.2.2.2.2.2.2.2.2.2.2.2.2.2.2.2.2.2.2.2.2.2.2.2.2.2.2.2.2.2.2.2.2.2.2.2.2.1
      have r41 : xv 41 = _ := hp.2.2.2.2.2.2.2.2.2.2.2.2.2.2.2.2.2.2.2.2.2.2.2.2.2.2.2.2.2.2.2.2.2.2.2.2.2.2.2.2.2.1
      have r42 : xv 42 = _ := hp.2.2.2.2.2.2.2.2.2.2.2.2.2.2.2.2.2.2.2.2.2.2.2.2.2.2.2.2.2.2.2.2.2.2.2.2.2.2.2.2.2.2.1
      have r43 : xv 43 = _ := hp.2.2.2.2.2.2.2.2.2.2.2.2.2.2.2.2.2.2.2.2.2.2.2.2.2.2.2.2.2.2.2.2.2.2.2.2.2.2.2.2.2.2.2.1
      have r44 : xv 44 = _ := hp.2.2.2.2.2.2.2.2.2.2.2.2.2.2.2.2.2.2.2.2.2.2.2.2.2.2.2.2.2.2.2.2.2.2.2.2.2.2.2.2.2.2.2.2.1
      obtain ⟨g45, r45, h45⟩ := hp.2.2.2.2.2.2.2.2.2.2.2.2.2.2.2.2.2.2.2.2.2.2.2.2.2.2.2.2.2.2.2.2.2.2.2.2.2.2.2.2.2.2.2.2.2.1
      obtain ⟨g46, n46, r46, h46⟩ := hp.2.2.2.2.2.2.2.2.2.2.2.2.2.2.2.2.2.2.2.2.2.2.2.2.2.2.2.2.2.2.2.2.2.2.2.2.2.2.2.2.2.2.2.2.2.2.1
      have r47 : xv 47 = _ := hp.2.2.2.2.2.2.2.2.2.2.2.2.2.2.2.2.2.2.2.2.2.2.2.2.2.2.2.2.2.2.2.2.2.2.2.2.2.2.2.2.2.2.2.2.2.2.2.1
      have r48 : xv 48 = _ := hp.2.2.2.2.2.2.2.2.2.2.2.2.2.2.2.2.2.2.2.2.2.2.2.2.2.2.2.2.2.2.2.2.2.2.2.2.2.2.2.2.2.2.2.2.2.2.2.2.1
      obtain ⟨g49, r49, h49⟩ := hp.2.2.2.2.2.2.2.2.2.2.2.2.2.2.2.2.2.2.2.2.2.2.2.2.2.2.2.2.2.2.2.2.2.2.2.2.2.2.2.2.2.2.2.2.2.2.2.2.2.1
      obtain ⟨g50, n50, r50, h50⟩ := hp.2.2.2.2.2.2.2.2.2.2.2.2.2.2.2.2.2.2.2.2.2.2.2.2.2.2.2.2.2.2.2.2.2.2.2.2.2.2.2.2.2.2.2.2.2.2.2.2.2.2.1
      have r51 : xv 51 = _ := hp.2.2.2.2.2.2.2.2.2.2.2.2.2.2.2.2.2.2.2.2.2.2.2.2.2.2.2.2.2.2.2.2.2.2.2.2.2.2.2.2.2.2.2.2.2.2.2.2.2.2.2.1
      have r52 : xv 52 = _ := hp.2.2.2.2.2.2.2.2.2.2.2.2.2.2.2.2.2.2.2.2.2.2.2.2.2.2.2.2.2.2.2.2.2.2.2.2.2.2.2.2.2.2.2.2.2.2.2.2.2.2.2.2.1
      have r53 : xv 53 = _ := hp.2.2.2.2.2.2.2.2.2.2.2.2.2.2.2.2.2.2.2.2.2.2.2.2.2.2.2.2.2.2.2.2.2.2.2.2.2.2.2.2.2.2.2.2.2.2.2.2.2.2.2.2.2.1
      have r54 : xv 54 = _ := hp.2.2.2.2.2.2.2.2.2.2.2.2.2.2.2.2.2.2.2.2.2.2.2.2.2.2.2.2.2.2.2.2.2.2.2.2.2.2.2.2.2.2.2.2.2.2.2.2.2.2.2.2.2.2.1
      have r55 : xv 55 = _ := hp.2.2.2.2.2.2.2.2.2.2.2.2.2.2.2.2.2.2.2.2.2.2.2.2.2.2.2.2.2.2.2.2.2.2.2.2.2.2.2.2.2.2.2.2.2.2.2.2.2.2.2.2.2.2.2.1
      have r56 : xv 56 = _ := hp.2.2.2.2.2.2.2.2.2.2.2.2.2.2.2.2.2.2.2.2.2.2.2.2.2.2.2.2.2.2.2.2.2.2.2.2.2.2.2.2.2.2.2.2.2.2.2.2.2.2.2.2.2.2.2.2.1
      have r57 : xv 57 = _ := hp.2.2.2.2.2.2.2.2.2.2.2.2.2.2.2.2.2.2.2.2.2.2.2.2.2.2.2.2.2.2.2.2.2.2.2.2.2.2.2.2.2.2.2.2.2.2.2.2.2.2.2.2.2.2.2.2.2.1
      have r58 : xv 58 = _ := hp.2.2.2.2.2.2.2.2.2.2.2.2.2.2.2.2.2.2.2.2.2.2.2.2.2.2.2.2.2.2.2.2.2.2.2.2.2.2.2.2.2.2.2.2.2.2.2.2.2.2.2.2.2.2.2.2.2.2.1
      obtain ⟨g59, r59, h59⟩ := hp.2.2.2.2.2.2.2.2.2.2.2.2.2.2.2.2.2.2.2.2.2.2.2.2.2.2.2.2.2.2.2.2.2.2.2.2.2.2.2.2.2.2.2.2.2.2.2.2.2.2.2.2.2.2.2.2.2.2.2.1
      obtain ⟨g60, n60, r60, h60⟩ := hp.2.2.2.2.2.2.2.2.2.2.2.2.2.2.2.2.2.2.2.2.2.2.2.2.2.2.2.2.2.2.2.2.2.2.2.2.2.2.2.2.2.2.2.2.2.2.2.2.2.2.2.2.2.2.2.2.2.2.2.2.1
      have r61 : xv 61 = _ := hp.2.2.2.2.2.2.2.2.2.2.2.2.2.2.2.2.2.2.2.2.2.2.2.2.2.2.2.2.2.2.2.2.2.2.2.2.2.2.2.2.2.2.2.2.2.2.2.2.2.2.2.2.2.2.2.2.2.2.2.2.2.1
      have r62 : xv 62 = _ := hp.2.2.2.2.2.2.2.2.2.2.2.2.2.2.2.2.2.2.2.2.2.2.2.2.2.2.2.2.2.2.2.2.2.2.2.2.2.2.2.2.2.2.2.2.2.2.2.2.2.2.2.2.2.2.2.2.2.2.2.2.2.2.1
      have r63 : xv 63 = _ := hp.2.2.2.2.2.2.2.2.2.2.2.2.2.2.2.2.2.2.2.2.2.2.2.2.2.2.2.2.2.2.2.2.2.2.2.2.2.2.2.2.2.2.2.2.2.2.2.2.2.2.2.2.2.2.2.2.2.2.2.2.2.2.2.1
      have r64 : xv 64 = _ := hp.2.2.2.2.2.2.2.2.2.2.2.2.2.2.2.2.2.2.2.2.2.2.2.2.2.2.2.2.2.2.2.2.2.2.2.2.2.2.2.2.2.2.2.2.2.2.2.2.2.2.2.2.2.2.2.2.2.2.2.2.2.2.2.2.1
      have r65 : xv 65 = _ := hp.2.2.2.2.2.2.2.2.2.2.2.2.2.2.2.2.2.2.2.2.2.2.2.2.2.2.2.2.2.2.2.2.2.2.2.2.2.2.2.2.2.2.2.2.2.2.2.2.2.2.2.2.2.2.2.2.2.2.2.2.2.2.2.2.2.1
      have r66 : xv 66 = _ := hp.2.2.2.2.2.2.2.2.2.2.2.2.2.2.2.2.2.2.2.2.2.2.2.2.2.2.2.2.2.2.2.2.2.2.2.2.2.2.2.2.2.2.2.2.2.2.2.2.2.2.2.2.2.2.2.2.2.2.2.2.2.2.2.2.2.2.1
      obtain ⟨g67, r67, h67⟩ := hp.2.2.2.2.2.2.2.2.2.2.2.2.2.2.2.2.2.2.2.2.2.2.2.2.2.2.2.2.2.2.2.2.2.2.2.2.2.2.2.2.2.2.2.2.2.2.2.2.2.2.2.2.2.2.2.2.2.2.2.2.2.2.2.2.2.2.2.1
      obtain ⟨g68, n68, r68, h68⟩ := hp.2.2.2.2.2.2.2.2.2.2.2.2.2.2.2.2.2.2.2.2.2.2.2.2.2.2.2.2.2.2.2.2.2.2.2.2.2.2.2.2.2.2.2.2.2.2.2.2.2.2.2.2.2.2.2.2.2.2.2.2.2.2.2.2.2.2.2.2.1
      have r69 : xv 69 = _ := hp.2.2.2.2.2.2.2.2.2.2.2.2.2.2.2.2.2.2.2.2.2.2.2.2.2.2.2.2.2.2.2.2.2.2.2.2.2.2.2.2.2.2.2.2.2.2.2.2.2.2.2.2.2.2.2.2.2.2.2.2.2.2.2.2.2.2.2.2.2.1
      have r70 : xv 70 = _ := hp.2.2.2.2.2.2.2.2.2.2.2.2.2.2.2.2.2.2.2.2.2.2.2.2.2.2.2.2.2.2.2.2.2.2.2.2.2.2.2.2.2.2.2.2.2.2.2.2.2.2.2.2.2.2.2.2.2.2.2.2.2.2.2.2.2.2.2.2.2.2.1
      obtain ⟨g71, r71, h71⟩ := hp.2.2.2.2.2.2.2.2.2.2.2.2.2.2.2.2.2.2.2.2.2.2.2.2.2.2.2.2.2.2.2.2.2.2.2.2.2.2.2.2.2.2.2.2.2.2.2.2.2.2.2.2.2.2.2.2.2.2.2.2.2.2.2.2.2.2.2.2.2.2.2.1
      obtain ⟨g72, n72, r72, h72⟩ := hp.2.2.2.2.2.2.2.2.2.2.2.2.2.2.2.2.2.2.2.2.2.2.2.2.2.2.2.2.2.2.2.2.2.2.2.2.2.2.2.2.2.2.2.2.2.2.2.2.2.2.2.2.2.2.2.2.2.2.2.2.2.2.2.2.2.2.2.2.2.2.2.2.1
      have r73 : xv 73 = _ := hp.2.2.2.2.2.2.2.2.2.2.2.2.2.2.2.2.2.2.2.2.2.2.2.2.2.2.2.2.2.2.2.2.2.2.2.2.2.2.2.2.2.2.2.2.2.2.2.2.2.2.2.2.2.2.2.2.2.2.2.2.2.2.2.2.2.2.2.2.2.2.2.2.2.1
      have r74 : xv 74 = _ := hp.2.2.2.2.2.2.2.2.2.2.2.2.2.2.2.2.2.2.2.2.2.2.2.2.2.2.2.2.2.2.2.2.2.2.2.2.2.2.2.2.2.2.2.2.2.2.2.2.2.2.2.2.2.2.2.2.2.2.2.2.2.2.2.2.2.2.2.2.2.2.2.2.2.2.1
      have r75 : xv 75 = _ := hp.2.2.2.2.2.2.2.2.2.2.2.2.2.2.2.2.2.2.2.2.2.2.2.2.2.2.2.2.2.2.2.2.2.2.2.2.2.2.2.2.2.2.2.2.2.2.2.2.2.2.2.2.2.2.2.2.2.2.2.2.2.2.2.2.2.2.2.2.2.2.2.2.2.2.2.1
      clear hp
      simp only [putD, List.foldl_nil, List.foldl_cons, List.getD_cons_zero, List.getD_cons_succ, Act.put, List.length_cons, List.length_nil, List.range_succ, List.range_zero, List.nil_append, List.cons_append, List.setIfInBounds_toArray, List.set_cons_zero, List.set_cons_succ]
      have hEW := hE8.trans ((Ext.drew W).trans hE)
      clear r0 r1 r2 r3 r4 r5 r6 r7 r8 r9 r10 r11 r12 r13 r14 r15 r16 r17 r18 r19 r20 r21 r22 r23 r24 r25 r26 r27 r28 r29 r30 r31 r32 r33 r34 r35 r36 r37 r38 r39 r40 r41 r42 r43 r44 r45 r46 r47 r48 r49 r50 r51 r52 r53 r54 r55 r56 r57 r58 r59 r60 r61 r62 r63 r64 r65 r66 r67 r68 r69 r70 r71 r72 r73 r74
      have hr75 : xv 75 = .bool true := r75
      rw [hr75]
      clear r75 hr75 hEW
      have hE9 : Ext w8 W9 := hE8.trans ((Ext.drew W).trans hE)
      clear hE hE8
      go_upto_region 10 with fail
      apply wp_region_seq (l := [_, _, _, _, _, _, _, _, _, _, _, _, _, _, _, _, _, _, _, _, _, _, _, _, _, _, _, _, _, _, _, _, _, _, _, _, _, _]) (t := [_]) [some 165, some 166, some 167, some 168, some 169, some 170, some 171, some 172, some 173, some 174, some 175, some 176, some 177, some 178, some 179, some 180, some 181, some 182, some 183, some 184, some 185, some 186, some 187, some 188, some 189, some 190, some 191, some 192, some 193, some 194, some 195, some 196, some 197, some 198, some 199, some 200, some 201, some 202, some 16] [[], [], [], [], [2, 3], [1, 4], [0, 5], [], [], [], [], [], [], [11, 12], [10, 13], [9, 14], [], [], [], [], [18, 19], [17, 20], [16, 21], [15, 22], [8, 23], [7, 24], [6, 25], [26], [27], [27], [27], [27], [27, 30, 31], [27, 29, 32], [27, 28, 33], [27, 34], [27, 35], [27, 36], [37]] [38, 38, 38, 38, 38, 38, 38, 38, 38, 38, 38, 38, 38, 38, 38, 38, 38, 38, 38, 38, 38, 38, 38, 38, 38, 38, 38, 38, 38, 38, 38, 38, 38, 38, 38, 38, 38, 38] [(eqv (.func (.func 25) #[] #[.pointer (some ⟨bx, 0, none⟩)])), (eqv (.func (.func 27) #[] #[])), (eqv (.agg #[.int .i64 c.op, .int .i64 c.var, .int .i64 c.ty, .int .i64 c.n, .bool c.b, .string ⟨c.s.toArray⟩, .slice Ac c.l.length cc])), (eqv (.agg #[.int .i64 d.op, .int .i64 d.var, .int .i64 d.ty, .int .i64 d.n, .bool d.b, .string ⟨d.s.toArray⟩, .slice Ad d.l.length cd])), (slSP [c, d] 2 (dc + dd + 1)), (opSP 6 [c, d] 2 (dc + dd + 1)), (eqv (vt x (exOp 6 [c, d])).v), (eqv (.func (.func 25) #[] #[.pointer (some ⟨bx, 0, none⟩)])), (eqv (.func (.func 27) #[] #[])), (eqv (.func (.func 28) #[] #[.pointer (some ⟨bf, 0, none⟩)])), (eqv (.func (.func 27) #[] #[])), (eqv (.agg #[.int .i64 c.op, .int .i64 c.var, .int .i64 c.ty, .int .i64 c.n, .bool c.b, .string ⟨c.s.toArray⟩, .slice Ac c.l.length cc])), (eqv (.agg #[.int .i64 d.op, .int .i64 d.var, .int .i64 d.ty, .int .i64 d.n, .bool d.b, .string ⟨d.s.toArray⟩, .slice Ad d.l.length cd])), (slSP [c, d] 2 (dc + dd + 1)), (opSP 7 [c, d] 2 (dc + dd + 1)), (opSP 3 [(exOp 7 [c, d])] 1 ((dc + dd + 1) + 1)), (eqv (.func (.func 28) #[] #[.pointer (some ⟨bf, 0, none⟩)])), (eqv (.func (.func 27) #[] #[])), (eqv (.agg #[.int .i64 d.op, .int .i64 d.var, .int .i64 d.ty, .int .i64 d.n, .bool d.b, .string ⟨d.s.toArray⟩, .slice Ad d.l.length cd])), (eqv (.agg #[.int .i64 c.op, .int .i64 c.var, .int .i64 c.ty, .int .i64 c.n, .bool c.b, .string ⟨c.s.toArray⟩, .slice Ac c.l.length cc])), (slSP [d, c] 2 (dd + dc + 1)), (opSP 7 [d, c] 2 (dd + dc + 1)), (opSP 3 [(exOp 7 [d, c])] 1 ((dd + dc + 1) + 1)), (slSP [(exOp 3 [(exOp 7 [c, d])]), (exOp 3 [(exOp 7 [d, c])])] 2 (((dc + dd + 1) + 1) + ((dd + dc + 1) + 1) + 1)), (opSP 4 [(exOp 3 [(exOp 7 [c, d])]), (exOp 3 [(exOp 7 [d, c])])] 2 (((dc + dd + 1) + 1) + ((dd + dc + 1) + 1) + 1)), (eqv (vt x (exOp 4 [(exOp 3 [(exOp 7 [c, d])]), (exOp 3 [(exOp 7 [d, c])])])).v), (eqv (.bool true)), (eqv (.bool true)), (eqv (.func (.func 25) #[] #[.pointer (some ⟨bx, 0, none⟩)])), (eqv (.func (.func 27) #[] #[])), (eqv (.agg #[.int .i64 c.op, .int .i64 c.var, .int .i64 c.ty, .int .i64 c.n, .bool c.b, .string ⟨c.s.toArray⟩, .slice Ac c.l.length cc])), (eqv (.agg #[.int .i64 c.op, .int .i64 c.var, .int .i64 c.ty, .int .i64 c.n, .bool c.b, .string ⟨c.s.toArray⟩, .slice Ac c.l.length cc])), (slSP [c, c] 2 (dc + dc + 1)), (opSP 9 [c, c] 2 (dc + dc + 1)), (eqv (vt x (exOp 9 [c, c])).v), (eqv (.int .i64 (vt x (exOp 9 [c, c])).n)), (eqv (.bool true)), (eqv (.bool true))] (by kernel_rfl) (by kernel_rfl) ⟨?o0, ?o1, ?o2, ?o3, ?o4, ?o5, ?o6, ?o7, ?o8, ?o9, ?o10, ?o11, ?o12, ?o13, ?o14, ?o15, ?o16, ?o17, ?o18, ?o19, ?o20, ?o21, ?o22, ?o23, ?o24, ?o25, ?o26, ?o27, ?o28, ?o29, ?o30, ?o31, ?o32, ?o33, ?o34, ?o35, ?o36, ?o37, trivial⟩ ?last
      case o0 => -- Op.move (Operand.tmp 7)
        intro xv Wt hE _
        simp only [putD, List.foldl_nil, List.getD_cons_zero]
        refine OpGoal.plain ?_
        go_wp2_with fail
        exact ⟨rfl, Ext.refl _, rfl⟩
      case o1 => -- Op.load 68 (Operand.tmp 8)
        intro xv Wt hE _
        have hEW := hE9.trans ((Ext.drew W9).trans hE)
        have lf := HF.out Wt hEW
        obtain ⟨lc0, lc1, lc2, lc3, lc4, lc5, lc6⟩ := (HIc.out.ext hEW).cells
        obtain ⟨ld0, ld1, ld2, ld3, ld4, ld5, ld6⟩ := (HId.out.ext hEW).cells
        simp only [putD, List.foldl_nil, List.getD_cons_zero, List.getD_cons_succ]
        refine OpGoal.plain ?_
        go_wp2_with fail
        exact ⟨rfl, Ext.refl _, rfl⟩
      case o2 => -- Op.load 29 (Operand.tmp 11)
        intro xv Wt hE _
        have hEW := hE9.trans ((Ext.drew W9).trans hE)
        have lf := HF.out Wt hEW
        obtain ⟨lc0, lc1, lc2, lc3, lc4, lc5, lc6⟩ := (HIc.out.ext hEW).cells
        obtain ⟨ld0, ld1, ld2, ld3, ld4, ld5, ld6⟩ := (HId.out.ext hEW).cells
        simp only [putD, List.foldl_nil, List.getD_cons_zero, List.getD_cons_succ]
        refine OpGoal.plain ?_
        go_wp2_with fail
        exact ⟨rfl, Ext.refl _, rfl⟩
      case o3 => -- Op.load 29 (Operand.tmp 12)
        intro xv Wt hE _
        have hEW := hE9.trans ((Ext.drew W9).trans hE)
        have lf := HF.out Wt hEW
        obtain ⟨lc0, lc1, lc2, lc3, lc4, lc5, lc6⟩ := (HIc.out.ext hEW).cells
        obtain ⟨ld0, ld1, ld2, ld3, ld4, ld5, ld6⟩ := (HId.out.ext hEW).cells
        simp only [putD, List.foldl_nil, List.getD_cons_zero, List.getD_cons_succ]
        refine OpGoal.plain ?_
        go_wp2_with fail
        exact ⟨rfl, Ext.refl _, rfl⟩
      case o4 => -- Op.buildSlice 27 2 #[(0, Operand.tmp 167), (1, Operand.tmp 168)]
        intro xv Wt hE hp
        have r2 : xv 2 = _ := hp.1
        have r3 : xv 3 = _ := hp.2.1
        clear hp
        simp only [putD, List.foldl_nil, List.foldl_cons, List.getD_cons_zero, List.getD_cons_succ, Act.put, List.setIfInBounds_toArray, List.set_cons_zero, List.set_cons_succ]
        refine OpGoal.plain ?_
        go_wp2_with fail
        have hEW := hE9.trans ((Ext.drew W9).trans hE)
        exact ⟨rfl, Ext.alloc _ _, Wt.heap.size, rfl, row2' Wt c Ac cc dc d Ad cd dd (ExL.ext HXc.out hEW) (ExL.ext HXd.out hEW)⟩
      case o5 => -- Op.call { callee := Callee.value (Operand.tmp 166), args := #[Operand.const (Val
        intro xv Wt hE hp
        have r1 : xv 1 = _ := hp.1
        obtain ⟨g4, r4, h4⟩ := hp.2.1
        clear hp
        simp only [putD, List.foldl_nil, List.foldl_cons, List.getD_cons_zero, List.getD_cons_succ, Act.put, List.setIfInBounds_toArray, List.set_cons_zero, List.set_cons_succ]
        refine OpGoal.plain ?_
        go_wp2_with fail
        refine (op_any 6 [c, d] (some ⟨g4, 0, none⟩) 2 2 rfl Wt).mono ?_
        rintro e w' ⟨rfl, hE9⟩
        go_wp2_with fail
        exact ⟨rfl, hE9, g4, 2, rfl, ExL.ext h4 hE9⟩
      case o6 => -- Op.call { callee := Callee.value (Operand.tmp 165), args := #[Operand.tmp 170], 
        intro xv Wt hE hp
        have r0 : xv 0 = _ := hp.1
        obtain ⟨g5, n5, r5, h5⟩ := hp.2.1
        clear hp
        simp only [putD, List.foldl_nil, List.foldl_cons, List.getD_cons_zero, List.getD_cons_succ, Act.put, List.setIfInBounds_toArray, List.set_cons_zero, List.set_cons_succ]
        refine OpGoal.plain ?_
        go_wp2_with fail
        have hEW := hE9.trans ((Ext.drew W9).trans hE)
        refine (val_any x (exOp 6 [c, d]) 2 (some ⟨g5, 0, none⟩) n5 (dc + dd + 1) bx Wt (rt_eq HRc.out HRd.out) (by first | omega | (simp only [size_1, size_2, size_3]; omega)) h5 (HEn.out.ext hEW)).mono ?_
        rintro r w' ⟨rfl, hE9⟩
        go_wp2_with fail
        exact ⟨rfl, hE9, rfl⟩
      case o7 => -- Op.move (Operand.tmp 7)
        intro xv Wt hE _
        simp only [putD, List.foldl_nil, List.getD_cons_zero, List.getD_cons_succ]
        refine OpGoal.plain ?_
        go_wp2_with fail
        exact ⟨rfl, Ext.refl _, rfl⟩
      case o8 => -- Op.load 68 (Operand.tmp 8)
        intro xv Wt hE _
        have hEW := hE9.trans ((Ext.drew W9).trans hE)
        have lf := HF.out Wt hEW
        obtain ⟨lc0, lc1, lc2, lc3, lc4, lc5, lc6⟩ := (HIc.out.ext hEW).cells
        obtain ⟨ld0, ld1, ld2, ld3, ld4, ld5, ld6⟩ := (HId.out.ext hEW).cells
        simp only [putD, List.foldl_nil, List.getD_cons_zero, List.getD_cons_succ]
        refine OpGoal.plain ?_
        go_wp2_with fail
        exact ⟨rfl, Ext.refl _, rfl⟩
      case o9 => -- Op.move (Operand.tmp 13)
        intro xv Wt hE _
        simp only [putD, List.foldl_nil, List.getD_cons_zero, List.getD_cons_succ]
        refine OpGoal.plain ?_
        go_wp2_with fail
        exact ⟨rfl, Ext.refl _, rfl⟩
      case o10 => -- Op.load 68 (Operand.tmp 8)
        intro xv Wt hE _
        have hEW := hE9.trans ((Ext.drew W9).trans hE)
        have lf := HF.out Wt hEW
        obtain ⟨lc0, lc1, lc2, lc3, lc4, lc5, lc6⟩ := (HIc.out.ext hEW).cells
        obtain ⟨ld0, ld1, ld2, ld3, ld4, ld5, ld6⟩ := (HId.out.ext hEW).cells
        simp only [putD, List.foldl_nil, List.getD_cons_zero, List.getD_cons_succ]
        refine OpGoal.plain ?_
        go_wp2_with fail
        exact ⟨rfl, Ext.refl _, rfl⟩
      case o11 => -- Op.load 29 (Operand.tmp 11)
        intro xv Wt hE _
        have hEW := hE9.trans ((Ext.drew W9).trans hE)
        have lf := HF.out Wt hEW
        obtain ⟨lc0, lc1, lc2, lc3, lc4, lc5, lc6⟩ := (HIc.out.ext hEW).cells
        obtain ⟨ld0, ld1, ld2, ld3, ld4, ld5, ld6⟩ := (HId.out.ext hEW).cells
        simp only [putD, List.foldl_nil, List.getD_cons_zero, List.getD_cons_succ]
        refine OpGoal.plain ?_
        go_wp2_with fail
        exact ⟨rfl, Ext.refl _, rfl⟩
      case o12 => -- Op.load 29 (Operand.tmp 12)
        intro xv Wt hE _
        have hEW := hE9.trans ((Ext.drew W9).trans hE)
        have lf := HF.out Wt hEW
        obtain ⟨lc0, lc1, lc2, lc3, lc4, lc5, lc6⟩ := (HIc.out.ext hEW).cells
        obtain ⟨ld0, ld1, ld2, ld3, ld4, ld5, ld6⟩ := (HId.out.ext hEW).cells
        simp only [putD, List.foldl_nil, List.getD_cons_zero, List.getD_cons_succ]
        refine OpGoal.plain ?_
        go_wp2_with fail
        exact ⟨rfl, Ext.refl _, rfl⟩
      case o13 => -- Op.buildSlice 27 2 #[(0, Operand.tmp 176), (1, Operand.tmp 177)]
        intro xv Wt hE hp
        have r11 : xv 11 = _ := hp.1
        have r12 : xv 12 = _ := hp.2.1
        clear hp
        simp only [putD, List.foldl_nil, List.foldl_cons, List.getD_cons_zero, List.getD_cons_succ, Act.put, List.setIfInBounds_toArray, List.set_cons_zero, List.set_cons_succ]
        refine OpGoal.plain ?_
        go_wp2_with fail
        have hEW := hE9.trans ((Ext.drew W9).trans hE)
        exact ⟨rfl, Ext.alloc _ _, Wt.heap.size, rfl, row2' Wt c Ac cc dc d Ad cd dd (ExL.ext HXc.out hEW) (ExL.ext HXd.out hEW)⟩
      case o14 => -- Op.call { callee := Callee.value (Operand.tmp 175), args := #[Operand.const (Val
        intro xv Wt hE hp
        have r10 : xv 10 = _ := hp.1
        obtain ⟨g13, r13, h13⟩ := hp.2.1
        clear hp
        simp only [putD, List.foldl_nil, List.foldl_cons, List.getD_cons_zero, List.getD_cons_succ, Act.put, List.setIfInBounds_toArray, List.set_cons_zero, List.set_cons_succ]
        refine OpGoal.plain ?_
        go_wp2_with fail
        refine (op_any 7 [c, d] (some ⟨g13, 0, none⟩) 2 2 rfl Wt).mono ?_
        rintro e w' ⟨rfl, hE9⟩
        go_wp2_with fail
        exact ⟨rfl, hE9, g13, 2, rfl, ExL.ext h13 hE9⟩
      case o15 => -- Op.call { callee := Callee.value (Operand.tmp 174), args := #[Operand.tmp 179], 
        intro xv Wt hE hp
        have r9 : xv 9 = _ := hp.1
        obtain ⟨g14, n14, r14, h14⟩ := hp.2.1
        clear hp
        simp only [putD, List.foldl_nil, List.foldl_cons, List.getD_cons_zero, List.getD_cons_succ, Act.put, List.setIfInBounds_toArray, List.set_cons_zero, List.set_cons_succ]
        refine OpGoal.plain ?_
        go_wp2_with fail
        have hEW := hE9.trans ((Ext.drew W9).trans hE)
        refine (not_any (exOp 7 [c, d]) (some ⟨g14, 0, none⟩) n14 (dc + dd + 1) bf Wt h14 (Nat.lt_of_lt_of_le hbf hEW.sz) (HF.out Wt hEW)).mono ?_
        rintro e w' ⟨g, c, rfl, hX, hE9⟩
        go_wp2_with fail
        exact ⟨rfl, hE9, g, c, rfl, hX⟩
      case o16 => -- Op.move (Operand.tmp 13)
        intro xv Wt hE _
        simp only [putD, List.foldl_nil, List.getD_cons_zero, List.getD_cons_succ]
        refine OpGoal.plain ?_
        go_wp2_with fail
        exact ⟨rfl, Ext.refl _, rfl⟩
      case o17 => -- Op.load 68 (Operand.tmp 8)
        intro xv Wt hE _
        have hEW := hE9.trans ((Ext.drew W9).trans hE)
        have lf := HF.out Wt hEW
        obtain ⟨lc0, lc1, lc2, lc3, lc4, lc5, lc6⟩ := (HIc.out.ext hEW).cells
        obtain ⟨ld0, ld1, ld2, ld3, ld4, ld5, ld6⟩ := (HId.out.ext hEW).cells
        simp only [putD, List.foldl_nil, List.getD_cons_zero, List.getD_cons_succ]
        refine OpGoal.plain ?_
        go_wp2_with fail
        exact ⟨rfl, Ext.refl _, rfl⟩
      case o18 => -- Op.load 29 (Operand.tmp 12)
        intro xv Wt hE _
        have hEW := hE9.trans ((Ext.drew W9).trans hE)
        have lf := HF.out Wt hEW
        obtain ⟨lc0, lc1, lc2, lc3, lc4, lc5, lc6⟩ := (HIc.out.ext hEW).cells
        obtain ⟨ld0, ld1, ld2, ld3, ld4, ld5, ld6⟩ := (HId.out.ext hEW).cells
        simp only [putD, List.foldl_nil, List.getD_cons_zero, List.getD_cons_succ]
        refine OpGoal.plain ?_
        go_wp2_with fail
        exact ⟨rfl, Ext.refl _, rfl⟩
      case o19 => -- Op.load 29 (Operand.tmp 11)
        intro xv Wt hE _
        have hEW := hE9.trans ((Ext.drew W9).trans hE)
        have lf := HF.out Wt hEW
        obtain ⟨lc0, lc1, lc2, lc3, lc4, lc5, lc6⟩ := (HIc.out.ext hEW).cells
        obtain ⟨ld0, ld1, ld2, ld3, ld4, ld5, ld6⟩ := (HId.out.ext hEW).cells
        simp only [putD, List.foldl_nil, List.getD_cons_zero, List.getD_cons_succ]
        refine OpGoal.plain ?_
        go_wp2_with fail
        exact ⟨rfl, Ext.refl _, rfl⟩
      case o20 => -- Op.buildSlice 27 2 #[(0, Operand.tmp 183), (1, Operand.tmp 184)]
        intro xv Wt hE hp
        have r18 : xv 18 = _ := hp.1
        have r19 : xv 19 = _ := hp.2.1
        clear hp
        simp only [putD, List.foldl_nil, List.foldl_cons, List.getD_cons_zero, List.getD_cons_succ, Act.put, List.setIfInBounds_toArray, List.set_cons_zero, List.set_cons_succ]
        refine OpGoal.plain ?_
        go_wp2_with fail
        have hEW := hE9.trans ((Ext.drew W9).trans hE)
        exact ⟨rfl, Ext.alloc _ _, Wt.heap.size, rfl, row2' Wt d Ad cd dd c Ac cc dc (ExL.ext HXd.out hEW) (ExL.ext HXc.out hEW)⟩
      case o21 => -- Op.call { callee := Callee.value (Operand.tmp 182), args := #[Operand.const (Val
        intro xv Wt hE hp
        have r17 : xv 17 = _ := hp.1
        obtain ⟨g20, r20, h20⟩ := hp.2.1
        clear hp
        simp only [putD, List.foldl_nil, List.foldl_cons, List.getD_cons_zero, List.getD_cons_succ, Act.put, List.setIfInBounds_toArray, List.set_cons_zero, List.set_cons_succ]
        refine OpGoal.plain ?_
        go_wp2_with fail
        refine (op_any 7 [d, c] (some ⟨g20, 0, none⟩) 2 2 rfl Wt).mono ?_
        rintro e w' ⟨rfl, hE9⟩
        go_wp2_with fail
        exact ⟨rfl, hE9, g20, 2, rfl, ExL.ext h20 hE9⟩
      case o22 => -- Op.call { callee := Callee.value (Operand.tmp 181), args := #[Operand.tmp 186], 
        intro xv Wt hE hp
        have r16 : xv 16 = _ := hp.1
        obtain ⟨g21, n21, r21, h21⟩ := hp.2.1
        clear hp
        simp only [putD, List.foldl_nil, List.foldl_cons, List.getD_cons_zero, List.getD_cons_succ, Act.put, List.setIfInBounds_toArray, List.set_cons_zero, List.set_cons_succ]
        refine OpGoal.plain ?_
        go_wp2_with fail
        have hEW := hE9.trans ((Ext.drew W9).trans hE)
        refine (not_any (exOp 7 [d, c]) (some ⟨g21, 0, none⟩) n21 (dd + dc + 1) bf Wt h21 (Nat.lt_of_lt_of_le hbf hEW.sz) (HF.out Wt hEW)).mono ?_
        rintro e w' ⟨g, c, rfl, hX, hE9⟩
        go_wp2_with fail
        exact ⟨rfl, hE9, g, c, rfl, hX⟩
      case o23 => -- Op.buildSlice 27 2 #[(0, Operand.tmp 180), (1, Operand.tmp 187)]
        intro xv Wt hE hp
        obtain ⟨g15, n15, r15, h15⟩ := hp.1
        obtain ⟨g22, n22, r22, h22⟩ := hp.2.1
        clear hp
        simp only [putD, List.foldl_nil, List.foldl_cons, List.getD_cons_zero, List.getD_cons_succ, Act.put, List.setIfInBounds_toArray, List.set_cons_zero, List.set_cons_succ]
        refine OpGoal.plain ?_
        go_wp2_with fail
        have hEW := hE9.trans ((Ext.drew W9).trans hE)
        exact ⟨rfl, Ext.alloc _ _, Wt.heap.size, rfl, row2' Wt (exOp 3 [(exOp 7 [c, d])]) (some ⟨g15, 0, none⟩) n15 ((dc + dd + 1) + 1) (exOp 3 [(exOp 7 [d, c])]) (some ⟨g22, 0, none⟩) n22 ((dd + dc + 1) + 1) h15 h22⟩
      case o24 => -- Op.call { callee := Callee.value (Operand.tmp 173), args := #[Operand.const (Val
        intro xv Wt hE hp
        have r8 : xv 8 = _ := hp.1
        obtain ⟨g23, r23, h23⟩ := hp.2.1
        clear hp
        simp only [putD, List.foldl_nil, List.foldl_cons, List.getD_cons_zero, List.getD_cons_succ, Act.put, List.setIfInBounds_toArray, List.set_cons_zero, List.set_cons_succ]
        refine OpGoal.plain ?_
        go_wp2_with fail
        refine (op_any 4 [(exOp 3 [(exOp 7 [c, d])]), (exOp 3 [(exOp 7 [d, c])])] (some ⟨g23, 0, none⟩) 2 2 rfl Wt).mono ?_
        rintro e w' ⟨rfl, hE9⟩
        go_wp2_with fail
        exact ⟨rfl, hE9, g23, 2, rfl, ExL.ext h23 hE9⟩
      case o25 => -- Op.call { callee := Callee.value (Operand.tmp 172), args := #[Operand.tmp 189], 
        intro xv Wt hE hp
        have r7 : xv 7 = _ := hp.1
        obtain ⟨g24, n24, r24, h24⟩ := hp.2.1
        clear hp
        simp only [putD, List.foldl_nil, List.foldl_cons, List.getD_cons_zero, List.getD_cons_succ, Act.put, List.setIfInBounds_toArray, List.set_cons_zero, List.set_cons_succ]
        refine OpGoal.plain ?_
        go_wp2_with fail
        have hEW := hE9.trans ((Ext.drew W9).trans hE)
        refine (val_any x (exOp 4 [(exOp 3 [(exOp 7 [c, d])]), (exOp 3 [(exOp 7 [d, c])])]) 2 (some ⟨g24, 0, none⟩) n24 (((dc + dd + 1) + 1) + ((dd + dc + 1) + 1) + 1) bx Wt (rt_and (rt_not (rt_less HRc.out HRd.out)) (rt_not (rt_less HRd.out HRc.out))) (by first | omega | (simp only [size_1, size_2, size_3]; omega)) h24 (HEn.out.ext hEW)).mono ?_
        rintro r w' ⟨rfl, hE9⟩
        go_wp2_with fail
        exact ⟨rfl, hE9, rfl⟩
      case o26 => -- Op.binOp BinOp.eql 26 (Operand.tmp 171) (Operand.tmp 190) 26
        intro xv Wt hE hp
        have r6 : xv 6 = _ := hp.1
        have r25 : xv 25 = _ := hp.2.1
        clear hp
        have hm := eq_less (x.fits_big) HRc.out HRd.out
        rw [hm] at r6
        unfold Vl.v at r6 r25
        have VE := veq (vt x (exOp 4 [(exOp 3 [(exOp 7 [c, d])]), (exOp 3 [(exOp 7 [d, c])])]))
        simp only [putD, List.foldl_nil, List.foldl_cons, List.getD_cons_zero, List.getD_cons_succ, Act.put, List.setIfInBounds_toArray, List.set_cons_zero, List.set_cons_succ]
        refine OpGoal.plain ?_
        go_wp2_with fail
        exact ⟨rfl, Ext.refl _, rfl⟩
      case o27 => -- Op.move (Operand.tmp 191)
        intro xv Wt hE hp
        have r26 : xv 26 = _ := hp.1
        clear hp
        simp only [putD, List.foldl_nil, List.foldl_cons, List.getD_cons_zero, List.getD_cons_succ, Act.put, List.setIfInBounds_toArray, List.set_cons_zero, List.set_cons_succ]
        refine OpGoal.plain ?_
        go_wp2_with fail
        exact ⟨rfl, Ext.refl _, rfl⟩
      case o28 => -- Op.move (Operand.tmp 7)  GUARD (27, 'true')
        intro xv Wt hE hp
        have r27 : xv 27 = _ := hp.1
        clear hp
        simp only [putD, List.foldl_nil, List.foldl_cons, List.getD_cons_zero, List.getD_cons_succ, Act.put, List.setIfInBounds_toArray, List.set_cons_zero, List.set_cons_succ]
        refine OpGoal.yes (by simp [yieldD, r27]) ?_
        go_wp2_with fail
        exact ⟨rfl, Ext.refl _, rfl⟩
      case o29 => -- Op.load 68 (Operand.tmp 8)  GUARD (27, 'true')
        intro xv Wt hE hp
        have r27 : xv 27 = _ := hp.1
        clear hp
        have hEW := hE9.trans ((Ext.drew W9).trans hE)
        have lf := HF.out Wt hEW
        obtain ⟨lc0, lc1, lc2, lc3, lc4, lc5, lc6⟩ := (HIc.out.ext hEW).cells
        obtain ⟨ld0, ld1, ld2, ld3, ld4, ld5, ld6⟩ := (HId.out.ext hEW).cells
        simp only [putD, List.foldl_nil, List.foldl_cons, List.getD_cons_zero, List.getD_cons_succ, Act.put, List.setIfInBounds_toArray, List.set_cons_zero, List.set_cons_succ]
        refine OpGoal.yes (by simp [yieldD, r27]) ?_
        go_wp2_with fail
        exact ⟨rfl, Ext.refl _, rfl⟩
      case o30 => -- Op.load 29 (Operand.tmp 11)  GUARD (27, 'true')
        intro xv Wt hE hp
        have r27 : xv 27 = _ := hp.1
        clear hp
        have hEW := hE9.trans ((Ext.drew W9).trans hE)
        have lf := HF.out Wt hEW
        obtain ⟨lc0, lc1, lc2, lc3, lc4, lc5, lc6⟩ := (HIc.out.ext hEW).cells
        obtain ⟨ld0, ld1, ld2, ld3, ld4, ld5, ld6⟩ := (HId.out.ext hEW).cells
        simp only [putD, List.foldl_nil, List.foldl_cons, List.getD_cons_zero, List.getD_cons_succ, Act.put, List.setIfInBounds_toArray, List.set_cons_zero, List.set_cons_succ]
        refine OpGoal.yes (by simp [yieldD, r27]) ?_
        go_wp2_with fail
        exact ⟨rfl, Ext.refl _, rfl⟩
      case o31 => -- Op.load 29 (Operand.tmp 11)  GUARD (27, 'true')
        intro xv Wt hE hp
        have r27 : xv 27 = _ := hp.1
        clear hp
        have hEW := hE9.trans ((Ext.drew W9).trans hE)
        have lf := HF.out Wt hEW
        obtain ⟨lc0, lc1, lc2, lc3, lc4, lc5, lc6⟩ := (HIc.out.ext hEW).cells
        obtain ⟨ld0, ld1, ld2, ld3, ld4, ld5, ld6⟩ := (HId.out.ext hEW).cells
        simp only [putD, List.foldl_nil, List.foldl_cons, List.getD_cons_zero, List.getD_cons_succ, Act.put, List.setIfInBounds_toArray, List.set_cons_zero, List.set_cons_succ]
        refine OpGoal.yes (by simp [yieldD, r27]) ?_
        go_wp2_with fail
        exact ⟨rfl, Ext.refl _, rfl⟩
      case o32 => -- Op.buildSlice 27 2 #[(0, Operand.tmp 195), (1, Operand.tmp 196)]  GUARD (27, 'tr
        intro xv Wt hE hp
        have r27 : xv 27 = _ := hp.1
        have r30 : xv 30 = _ := hp.2.1
        have r31 : xv 31 = _ := hp.2.2.1
        clear hp
        simp only [putD, List.foldl_nil, List.foldl_cons, List.getD_cons_zero, List.getD_cons_succ, Act.put, List.setIfInBounds_toArray, List.set_cons_zero, List.set_cons_succ]
        refine OpGoal.yes (by simp [yieldD, r27]) ?_
        go_wp2_with fail
        have hEW := hE9.trans ((Ext.drew W9).trans hE)
        exact ⟨rfl, Ext.alloc _ _, Wt.heap.size, rfl, row2' Wt c Ac cc dc c Ac cc dc (ExL.ext HXc.out hEW) (ExL.ext HXc.out hEW)⟩
      case o33 => -- Op.call { callee := Callee.value (Operand.tmp 194), args := #[Operand.const (Val
        intro xv Wt hE hp
        have r27 : xv 27 = _ := hp.1
        have r29 : xv 29 = _ := hp.2.1
        obtain ⟨g32, r32, h32⟩ := hp.2.2.1
        clear hp
        simp only [putD, List.foldl_nil, List.foldl_cons, List.getD_cons_zero, List.getD_cons_succ, Act.put, List.setIfInBounds_toArray, List.set_cons_zero, List.set_cons_succ]
        refine OpGoal.yes (by simp [yieldD, r27]) ?_
        go_wp2_with fail
        refine (op_any 9 [c, c] (some ⟨g32, 0, none⟩) 2 2 rfl Wt).mono ?_
        rintro e w' ⟨rfl, hE9⟩
        go_wp2_with fail
        exact ⟨rfl, hE9, g32, 2, rfl, ExL.ext h32 hE9⟩
      case o34 => -- Op.call { callee := Callee.value (Operand.tmp 193), args := #[Operand.tmp 198], 
        intro xv Wt hE hp
        have r27 : xv 27 = _ := hp.1
        have r28 : xv 28 = _ := hp.2.1
        obtain ⟨g33, n33, r33, h33⟩ := hp.2.2.1
        clear hp
        simp only [putD, List.foldl_nil, List.foldl_cons, List.getD_cons_zero, List.getD_cons_succ, Act.put, List.setIfInBounds_toArray, List.set_cons_zero, List.set_cons_succ]
        refine OpGoal.yes (by simp [yieldD, r27]) ?_
        go_wp2_with fail
        have hEW := hE9.trans ((Ext.drew W9).trans hE)
        refine (val_any x (exOp 9 [c, c]) 1 (some ⟨g33, 0, none⟩) n33 (dc + dc + 1) bx Wt (rt_sum (by decide) HRc.out HRc.out) (by first | omega | (simp only [size_1, size_2, size_3]; omega)) h33 (HEn.out.ext hEW)).mono ?_
        rintro r w' ⟨rfl, hE9⟩
        go_wp2_with fail
        exact ⟨rfl, hE9, rfl⟩
      case o35 => -- Op.field 26 (Operand.tmp 199) 1  GUARD (27, 'true')
        intro xv Wt hE hp
        have r27 : xv 27 = _ := hp.1
        have r34 : xv 34 = _ := hp.2.1
        clear hp
        unfold Vl.v at r34
        simp only [putD, List.foldl_nil, List.foldl_cons, List.getD_cons_zero, List.getD_cons_succ, Act.put, List.setIfInBounds_toArray, List.set_cons_zero, List.set_cons_succ]
        refine OpGoal.yes (by simp [yieldD, r27]) ?_
        go_wp2_with fail
        exact ⟨rfl, Ext.refl _, rfl⟩
      case o36 => -- Op.binOp BinOp.eql 3 (Operand.tmp 200) (Operand.const (Value.int IntKind.i64 0))
        intro xv Wt hE hp
        have r27 : xv 27 = _ := hp.1
        have r35 : xv 35 = _ := hp.2.1
        clear hp
        have hm := sub_self' x c
        rw [hm] at r35
        simp only [putD, List.foldl_nil, List.foldl_cons, List.getD_cons_zero, List.getD_cons_succ, Act.put, List.setIfInBounds_toArray, List.set_cons_zero, List.set_cons_succ]
        refine OpGoal.yes (by simp [yieldD, r27]) ?_
        go_wp2_with fail
        exact ⟨rfl, Ext.refl _, rfl⟩
      case o37 => -- Op.pick (Operand.tmp 192) (Operand.tmp 201) (Operand.const (Value.bool false))
        intro xv Wt hE hp
        have r27 : xv 27 = _ := hp.1
        have r36 : xv 36 = _ := hp.2.1
        clear hp
        simp only [putD, List.foldl_nil, List.foldl_cons, List.getD_cons_zero, List.getD_cons_succ, Act.put, List.setIfInBounds_toArray, List.set_cons_zero, List.set_cons_succ]
        refine OpGoal.plain ?_
        go_wp2_with fail
        exact ⟨rfl, Ext.refl _, rfl⟩
      case last =>
        intro xv Wt hE hp
        have r0 : xv 0 = _ := hp.1
        have r1 : xv 1 = _ := hp.2.1
        have r2 : xv 2 = _ := hp.2.2.1
        have r3 : xv 3 = _ := hp.2.2.2.1
        obtain ⟨g4, r4, h4⟩ := hp.2.2.2.2.1
        obtain ⟨g5, n5, r5, h5⟩ := hp.2.2.2.2.2.1
        have r6 : xv 6 = _ := hp.2.2.2.2.2.2.1
        have r7 : xv 7 = _ := hp.2.2.2.2.2.2.2.1
        have r8 : xv 8 = _ := hp.2.2.2.2.2.2.2.2.1
        have r9 : xv 9 = _ := hp.2.2.2.2.2.2.2.2.2.1
        have r10 : xv 10 = _ := hp.2.2.2.2.2.2.2.2.2.2.1
        have r11 : xv 11 = _ := hp.2.2.2.2.2.2.2.2.2.2.2.1
        have r12 : xv 12 = _ := hp.2.2.2.2.2.2.2.2.2.2.2.2.1
        obtain ⟨g13, r13, h13⟩ := hp.2.2.2.2.2.2.2.2.2.2.2.2.2.1
        obtain ⟨g14, n14, r14, h14⟩ := hp.2.2.2.2.2.2.2.2.2.2.2.2.2.2.1
        obtain ⟨g15, n15, r15, h15⟩ := hp.2.2.2.2.2.2.2.2.2.2.2.2.2.2.2.1
        have r16 : xv 16 = _ := hp.2.2.2.2.2.2.2.2.2.2.2.2.2.2.2.2.1
        have r17 : xv 17 = _ := hp.2.2.2.2.2.2.2.2.2.2.2.2.2.2.2.2.2.1
        have r18 : xv 18 = _ := hp.2.2.2.2.2.2.2.2.2.2.2.2.2.2.2.2.2.2.1
        have r19 : xv 19 = _ := hp.2.2.2.2.2.2.2.2.2.2.2.2.2.2.2.2.2.2.2.1
        obtain ⟨g20, r20, h20⟩ := hp.2.2.2.2.2.2.2.2.2.2.2.2.2.2.2.2.2.2.2.2.1
        obtain ⟨g21, n21, r21, h21⟩ := hp.2.2.2.2.2.2.2.2.2.2.2.2.2.2.2.2.2.2.2.2.2.1
        obtain ⟨g22, n22, r22, h22⟩ := hp.2.2.2.2.2.2.2.2.2.2.2.2.2.2.2.2.2.2.2.2.2.2.1
        obtain ⟨g23, r23, h23⟩ := hp.2.2.2.2.2.2.2.2.2.2.2.2.2.2.2.2.2.2.2.2.2.2.2.1
        obtain ⟨g24, n24, r24, h24⟩ := hp.2.2.2.2.2.2.2.2.2.2.2.2.2.2.2.2.2.2.2.2.2.2.2.2.1
        have r25 : xv 25 = _ := hp.2.2.2.2.2.2.2.2.2.2.2.2.2.2.2.2.2.2.2.2.2.2.2.2.2.1
        have r26 : xv 26 = _ := hp.2.2.2.2.2.2.2.2.2.2.2.2.2.2.2.2.2.2.2.2.2.2.2.2.2.2.1
        have r27 : xv 27 = _ := hp.2.2.2.2.2.2.2.2.2.2.2.2.2.2.2.2.2.2.2.2.2.2.2.2.2.2.2.1
        have r28 : xv 28 = _ := hp.2.2.2.2.2.2.2.2.2.2.2.2.2.2.2.2.2.2.2.2.2.2.2.2.2.2.2.2.1
        have r29 : xv 29 = _ := hp.2.2.2.2.2.2.2.2.2.2.2.2.2.2.2.2.2.2.2.2.2.2.2.2.2.2.2.2.2.1
        have r30 : xv 30 = _ := hp.2.2.2.2.2.2.2.2.2.2.2.2.2.2.2.2.2.2.2.2.2.2.2.2.2.2.2.2.2.2.1
        have r31 : xv 31 = _ := hp.2.2.2.2.2.2.2.2.2.2.2.2.2.2.2.2.2.2.2.2.2.2.2.2.2.2.2.2.2.2.2.1
        obtain ⟨g32, r32, h32⟩ := hp.2.2.2.2.2.2.2.2.2.2.2.2.2.2.2.2.2.2.2.2.2.2.2.2.2.2.2.2.2.2.2.2.1
        obtain ⟨g33, n33, r33, h33⟩ := hp.2.2.2.2.2.2.2.2.2.2.2.2.2.2.2.2.2.2.2.2.2.2.2.2.2.2.2.2.2.2.2.2.2.1
        have r34 : xv 34 = _ := hp.2.2.2.2.2.2.2.2.2.2.2.2.2.2.2.2.2.2.2.2.2.2.2.2.2.2.2.2.2.2.2.2.2.2.1
        have r35 : xv 35 = _ := hp.2.2.2.2.2.2.2.2.2.2.2.2.2.2.2.2.2.2.2.2.2.2.2.2.2.2.2.2.2.2.2.2.2.2.2.1
        have r36 : xv 36 = _ := hp.2.2.2.2.2.2.2.2.2.2.2.2.2.2.2.2.2.2.2.2.2.2.2.2.2.2.2.2.2.2.2.2.2.2.2.2.1
        have r37 : xv 37 = _ := hp.2.2.2.2.2.2.2.2.2.2.2.2.2.2.2.2.2.2.2.2.2.2.2.2.2.2.2.2.2.2.2.2.2.2.2.2.2.1
        clear hp
        simp only [putD, List.foldl_nil, List.foldl_cons, List.getD_cons_zero, List.getD_cons_succ, Act.put, List.length_cons, List.length_nil, List.range_succ, List.range_zero, List.nil_append, List.cons_append, List.setIfInBounds_toArray, List.set_cons_zero, List.set_cons_succ]
        have hEW := hE9.trans ((Ext.drew W9).trans hE)
        clear r0 r1 r2 r3 r4 r5 r6 r7 r8 r9 r10 r11 r12 r13 r14 r15 r16 r17 r18 r19 r20 r21 r22 r23 r24 r25 r26 r27 r28 r29 r30 r31 r32 r33 r34 r35 r36
        have hr37 : xv 37 = .bool true := r37
        rw [hr37]
        clear r37 hr37 hEW
        have hEt : Ext w8 Wt := hE9.trans ((Ext.drew W9).trans hE)
        clear hE hE9
        obtain ⟨l0, l1, l2, l3, l4, l5, l6⟩ := (HId.out.ext hEt).cells
        go_wp2_with fail
        refine (val_any x d 1 Ad cd dd bx Wt HRd.out (by omega) (ExL.ext HXd.out hEt) (HEn.out.ext hEt)).mono ?_
        rintro r wu ⟨rfl, hEu⟩
        unfold Vl.v
        clear l0 l1 l2 l3 l4 l5 l6
        go_upto_region 12 with fail
        have hwv := V4.put' wu (vt x d)
        obtain ⟨wv, hwve⟩ : ∃ y, wu.alloc (.cells #[.int .i64 (vt x d).ty, .int .i64 (vt x d).n, .bool (vt x d).b, .string ⟨(vt x d).s.toArray⟩] 26) = y := ⟨_, rfl⟩
        have hEuv : Ext wu wv := by rw [← hwve]; exact Ext.alloc _ _
        rw [hwve] at hwv ⊢
        have hEv := hEt.trans (hEu.trans hEuv)
        obtain ⟨la0, la1, la2, la3, la4, la5, la6⟩ := (HIa.out.ext hEv).cells
        have hlv := hwv.lt
        have hs8 : w8.heap.size ≤ wu.heap.size := (hEt.trans hEu).sz
        clear hwve hEt hEu hEuv
        go_wp2_with fail
        refine (val_any x a 2 Aa ca da bx wv HRa.out (by omega) (ExL.ext HXa.out hEv) (HEn.out.ext hEv)).mono ?_
        rintro r ww ⟨rfl, hEw⟩
        unfold Vl.v
        obtain ⟨bv, hbv⟩ : ∃ q, (vt x a).b = q := ⟨_, rfl⟩
        rw [hbv]
        clear la0 la1 la2 la3 la4 la5 la6
        have hww := hwv.ext hEw
        have hE8w := hEv.trans hEw
        have hif := if_val x a c d
        rw [hbv] at hif
        have HIF := Lib.hid hif
        clear hif hbv
        go_upto_if 209 with fail
        go_cut [] from 18 (fun wx => ∃ want : Vl, V4 wx wu.heap.size want ∧ vt x (exOp 13 [a, c, d]) = want ∧ Ext w8 wx)
        case first =>
          cases bv with
          | true =>
            obtain ⟨lc0, lc1, lc2, lc3, lc4, lc5, lc6⟩ := (HIc.out.ext hE8w).cells
            go_wp2_with fail
            refine (val_any x c 1 Ac cc dc bx ww HRc.out (by omega) (ExL.ext HXc.out hE8w) (HEn.out.ext hE8w)).mono ?_
            rintro r wx ⟨rfl, hEx⟩
            unfold Vl.v
            have hwx := hww.ext hEx
            obtain ⟨q0, q1, q2, q3⟩ := hwx.cells
            obtain ⟨f0, f1, f2, f3⟩ := hwx.free
            clear lc0 lc1 lc2 lc3 lc4 lc5 lc6
            go_wp2_with fail
            go_meet
            case rel => exact ⟨vt x c, hwx.set (vt x c), by rw [HIF.out]; simp, vset_ext (hE8w.trans hEx) hs8⟩
          | false =>
            go_wp2_with fail
            go_meet
            case rel => exact ⟨vt x d, hww, by rw [HIF.out]; simp, hE8w⟩
        case rest =>
        obtain ⟨want, hV, hwant, hEc⟩ := hcut
        have HWant := Lib.hid hV
        have HWN := Lib.hid hwant
        clear hV hwant hww hE8w hEv hEw hwv
        go_upto_region 14 with fail
        apply wp_region_seq (l := [_, _, _, _, _, _, _, _, _, _, _, _, _, _, _, _, _, _, _, _, _, _, _, _, _, _, _, _, _, _, _, _, _, _, _, _]) (t := [_]) [some 213, some 214, some 215, some 216, some 217, some 218, some 219, some 220, some 221, some 222, some 223, some 224, some 225, some 226, some 227, some 228, some 229, some 230, some 231, some 232, some 233, some 234, some 235, some 236, some 237, some 238, some 239, some 240, some 241, some 242, some 243, some 244, some 245, some 246, some 247, some 248, some 4] [[], [0], [1], [1, 2], [3], [4], [4, 5], [6], [7], [7, 8], [9], [10], [10], [10], [10], [10], [10, 13, 14, 15], [10, 12, 16], [10, 11, 17], [10], [10, 18, 19], [10, 20], [21], [22], [22], [22, 23, 24], [22, 25], [22, 26], [22, 27], [28], [29], [29], [29, 30, 31], [29, 32], [29, 33], [29, 34], [35]] [36, 36, 36, 36, 36, 36, 36, 36, 36, 36, 36, 36, 36, 36, 36, 36, 36, 36, 36, 36, 36, 36, 36, 36, 36, 36, 36, 36, 36, 36, 36, 36, 36, 36, 36, 36] [(eqv (.bool true)), (eqv (.bool true)), (eqv (.bool true)), (eqv (.bool true)), (eqv (.bool true)), (eqv (.bool true)), (eqv (.bool true)), (eqv (.bool true)), (eqv (.bool true)), (eqv (.bool true)), (eqv (.bool true)), (eqv (.func (.func 25) #[] #[.pointer (some ⟨bx, 0, none⟩)])), (eqv (.func (.func 27) #[] #[])), (eqv (.agg #[.int .i64 a.op, .int .i64 a.var, .int .i64 a.ty, .int .i64 a.n, .bool a.b, .string ⟨a.s.toArray⟩, .slice Aa a.l.length ca])), (eqv (.agg #[.int .i64 c.op, .int .i64 c.var, .int .i64 c.ty, .int .i64 c.n, .bool c.b, .string ⟨c.s.toArray⟩, .slice Ac c.l.length cc])), (eqv (.agg #[.int .i64 d.op, .int .i64 d.var, .int .i64 d.ty, .int .i64 d.n, .bool d.b, .string ⟨d.s.toArray⟩, .slice Ad d.l.length cd])), (slSP [a, c, d] 3 (da + dc + dd + 1)), (opSP 13 [a, c, d] 3 (da + dc + dd + 1)), (eqv (vt x (exOp 13 [a, c, d])).v), (eqv (want.v)), (eqv (.bool true)), (eqv (.bool true)), (eqv (.bool true)), (eqv (.func (.func 25) #[] #[.pointer (some ⟨bx, 0, none⟩)])), (eqv (.agg #[.int .i64 a.op, .int .i64 a.var, .int .i64 a.ty, .int .i64 a.n, .bool a.b, .string ⟨a.s.toArray⟩, .slice Aa a.l.length ca])), (eqv (vt x a).v), (eqv (.int .i64 (vt x a).ty)), (eqv (.bool true)), (eqv (.bool true)), (eqv (.bool true)), (eqv (.func (.func 25) #[] #[.pointer (some ⟨bx, 0, none⟩)])), (eqv (.agg #[.int .i64 c.op, .int .i64 c.var, .int .i64 c.ty, .int .i64 c.n, .bool c.b, .string ⟨c.s.toArray⟩, .slice Ac c.l.length cc])), (eqv (vt x c).v), (eqv (.int .i64 (vt x c).ty)), (eqv (.bool true)), (eqv (.bool true))] (by kernel_rfl) (by kernel_rfl) ⟨?o0, ?o1, ?o2, ?o3, ?o4, ?o5, ?o6, ?o7, ?o8, ?o9, ?o10, ?o11, ?o12, ?o13, ?o14, ?o15, ?o16, ?o17, ?o18, ?o19, ?o20, ?o21, ?o22, ?o23, ?o24, ?o25, ?o26, ?o27, ?o28, ?o29, ?o30, ?o31, ?o32, ?o33, ?o34, ?o35, trivial⟩ ?last
        case o0 => -- Op.move (Operand.tmp 5)
          intro xv Wf hE _
          simp only [putD, List.foldl_nil, List.getD_cons_zero]
          refine OpGoal.plain ?_
          go_wp2_with fail
          exact ⟨rfl, Ext.refl _, rfl⟩
        case o1 => -- Op.move (Operand.tmp 213)
          intro xv Wf hE hp
          have r0 : xv 0 = _ := hp.1
          clear hp
          simp only [putD, List.foldl_nil, List.foldl_cons, List.getD_cons_zero, List.getD_cons_succ, Act.put, List.setIfInBounds_toArray, List.set_cons_zero, List.set_cons_succ]
          refine OpGoal.plain ?_
          go_wp2_with fail
          exact ⟨rfl, Ext.refl _, rfl⟩
        case o2 => -- Op.move (Operand.tmp 14)  GUARD (1, 'true')
          intro xv Wf hE hp
          have r1 : xv 1 = _ := hp.1
          clear hp
          simp only [putD, List.foldl_nil, List.foldl_cons, List.getD_cons_zero, List.getD_cons_succ, Act.put, List.setIfInBounds_toArray, List.set_cons_zero, List.set_cons_succ]
          refine OpGoal.yes (by simp [yieldD, r1]) ?_
          go_wp2_with fail
          exact ⟨rfl, Ext.refl _, rfl⟩
        case o3 => -- Op.pick (Operand.tmp 214) (Operand.tmp 215) (Operand.const (Value.bool false))
          intro xv Wf hE hp
          have r1 : xv 1 = _ := hp.1
          have r2 : xv 2 = _ := hp.2.1
          clear hp
          simp only [putD, List.foldl_nil, List.foldl_cons, List.getD_cons_zero, List.getD_cons_succ, Act.put, List.setIfInBounds_toArray, List.set_cons_zero, List.set_cons_succ]
          refine OpGoal.plain ?_
          go_wp2_with fail
          exact ⟨rfl, Ext.refl _, rfl⟩
        case o4 => -- Op.move (Operand.tmp 216)
          intro xv Wf hE hp
          have r3 : xv 3 = _ := hp.1
          clear hp
          simp only [putD, List.foldl_nil, List.foldl_cons, List.getD_cons_zero, List.getD_cons_succ, Act.put, List.setIfInBounds_toArray, List.set_cons_zero, List.set_cons_succ]
          refine OpGoal.plain ?_
          go_wp2_with fail
          exact ⟨rfl, Ext.refl _, rfl⟩
        case o5 => -- Op.move (Operand.tmp 15)  GUARD (4, 'true')
          intro xv Wf hE hp
          have r4 : xv 4 = _ := hp.1
          clear hp
          simp only [putD, List.foldl_nil, List.foldl_cons, List.getD_cons_zero, List.getD_cons_succ, Act.put, List.setIfInBounds_toArray, List.set_cons_zero, List.set_cons_succ]
          refine OpGoal.yes (by simp [yieldD, r4]) ?_
          go_wp2_with fail
          exact ⟨rfl, Ext.refl _, rfl⟩
        case o6 => -- Op.pick (Operand.tmp 217) (Operand.tmp 218) (Operand.const (Value.bool false))
          intro xv Wf hE hp
          have r4 : xv 4 = _ := hp.1
          have r5 : xv 5 = _ := hp.2.1
          clear hp
          simp only [putD, List.foldl_nil, List.foldl_cons, List.getD_cons_zero, List.getD_cons_succ, Act.put, List.setIfInBounds_toArray, List.set_cons_zero, List.set_cons_succ]
          refine OpGoal.plain ?_
          go_wp2_with fail
          exact ⟨rfl, Ext.refl _, rfl⟩
        case o7 => -- Op.move (Operand.tmp 219)
          intro xv Wf hE hp
          have r6 : xv 6 = _ := hp.1
          clear hp
          simp only [putD, List.foldl_nil, List.foldl_cons, List.getD_cons_zero, List.getD_cons_succ, Act.put, List.setIfInBounds_toArray, List.set_cons_zero, List.set_cons_succ]
          refine OpGoal.plain ?_
          go_wp2_with fail
          exact ⟨rfl, Ext.refl _, rfl⟩
        case o8 => -- Op.move (Operand.tmp 16)  GUARD (7, 'true')
          intro xv Wf hE hp
          have r7 : xv 7 = _ := hp.1
          clear hp
          simp only [putD, List.foldl_nil, List.foldl_cons, List.getD_cons_zero, List.getD_cons_succ, Act.put, List.setIfInBounds_toArray, List.set_cons_zero, List.set_cons_succ]
          refine OpGoal.yes (by simp [yieldD, r7]) ?_
          go_wp2_with fail
          exact ⟨rfl, Ext.refl _, rfl⟩
        case o9 => -- Op.pick (Operand.tmp 220) (Operand.tmp 221) (Operand.const (Value.bool false))
          intro xv Wf hE hp
          have r7 : xv 7 = _ := hp.1
          have r8 : xv 8 = _ := hp.2.1
          clear hp
          simp only [putD, List.foldl_nil, List.foldl_cons, List.getD_cons_zero, List.getD_cons_succ, Act.put, List.setIfInBounds_toArray, List.set_cons_zero, List.set_cons_succ]
          refine OpGoal.plain ?_
          go_wp2_with fail
          exact ⟨rfl, Ext.refl _, rfl⟩
        case o10 => -- Op.move (Operand.tmp 222)
          intro xv Wf hE hp
          have r9 : xv 9 = _ := hp.1
          clear hp
          simp only [putD, List.foldl_nil, List.foldl_cons, List.getD_cons_zero, List.getD_cons_succ, Act.put, List.setIfInBounds_toArray, List.set_cons_zero, List.set_cons_succ]
          refine OpGoal.plain ?_
          go_wp2_with fail
          exact ⟨rfl, Ext.refl _, rfl⟩
        case o11 => -- Op.move (Operand.tmp 7)  GUARD (10, 'true')
          intro xv Wf hE hp
          have r10 : xv 10 = _ := hp.1
          clear hp
          simp only [putD, List.foldl_nil, List.foldl_cons, List.getD_cons_zero, List.getD_cons_succ, Act.put, List.setIfInBounds_toArray, List.set_cons_zero, List.set_cons_succ]
          refine OpGoal.yes (by simp [yieldD, r10]) ?_
          go_wp2_with fail
          exact ⟨rfl, Ext.refl _, rfl⟩
        case o12 => -- Op.load 68 (Operand.tmp 8)  GUARD (10, 'true')
          intro xv Wf hE hp
          have r10 : xv 10 = _ := hp.1
          clear hp
          have hEW := hEc.trans ((Ext.drew wc).trans hE)
          have lf := HF.out Wf hEW
          obtain ⟨la0, la1, la2, la3, la4, la5, la6⟩ := (HIa.out.ext hEW).cells
          obtain ⟨lc0, lc1, lc2, lc3, lc4, lc5, lc6⟩ := (HIc.out.ext hEW).cells
          obtain ⟨ld0, ld1, ld2, ld3, ld4, ld5, ld6⟩ := (HId.out.ext hEW).cells
          obtain ⟨lw0, lw1, lw2, lw3⟩ := (HWant.out.ext ((Ext.drew wc).trans hE)).cells
          simp only [putD, List.foldl_nil, List.foldl_cons, List.getD_cons_zero, List.getD_cons_succ, Act.put, List.setIfInBounds_toArray, List.set_cons_zero, List.set_cons_succ]
          refine OpGoal.yes (by simp [yieldD, r10]) ?_
          go_wp2_with fail
          exact ⟨rfl, Ext.refl _, rfl⟩
        case o13 => -- Op.load 29 (Operand.tmp 9)  GUARD (10, 'true')
          intro xv Wf hE hp
          have r10 : xv 10 = _ := hp.1
          clear hp
          have hEW := hEc.trans ((Ext.drew wc).trans hE)
          have lf := HF.out Wf hEW
          obtain ⟨la0, la1, la2, la3, la4, la5, la6⟩ := (HIa.out.ext hEW).cells
          obtain ⟨lc0, lc1, lc2, lc3, lc4, lc5, lc6⟩ := (HIc.out.ext hEW).cells
          obtain ⟨ld0, ld1, ld2, ld3, ld4, ld5, ld6⟩ := (HId.out.ext hEW).cells
          obtain ⟨lw0, lw1, lw2, lw3⟩ := (HWant.out.ext ((Ext.drew wc).trans hE)).cells
          simp only [putD, List.foldl_nil, List.foldl_cons, List.getD_cons_zero, List.getD_cons_succ, Act.put, List.setIfInBounds_toArray, List.set_cons_zero, List.set_cons_succ]
          refine OpGoal.yes (by simp [yieldD, r10]) ?_
          go_wp2_with fail
          exact ⟨rfl, Ext.refl _, rfl⟩
        case o14 => -- Op.load 29 (Operand.tmp 11)  GUARD (10, 'true')
          intro xv Wf hE hp
          have r10 : xv 10 = _ := hp.1
          clear hp
          have hEW := hEc.trans ((Ext.drew wc).trans hE)
          have lf := HF.out Wf hEW
          obtain ⟨la0, la1, la2, la3, la4, la5, la6⟩ := (HIa.out.ext hEW).cells
          obtain ⟨lc0, lc1, lc2, lc3, lc4, lc5, lc6⟩ := (HIc.out.ext hEW).cells
          obtain ⟨ld0, ld1, ld2, ld3, ld4, ld5, ld6⟩ := (HId.out.ext hEW).cells
          obtain ⟨lw0, lw1, lw2, lw3⟩ := (HWant.out.ext ((Ext.drew wc).trans hE)).cells
          simp only [putD, List.foldl_nil, List.foldl_cons, List.getD_cons_zero, List.getD_cons_succ, Act.put, List.setIfInBounds_toArray, List.set_cons_zero, List.set_cons_succ]
          refine OpGoal.yes (by simp [yieldD, r10]) ?_
          go_wp2_with fail
          exact ⟨rfl, Ext.refl _, rfl⟩
        case o15 => -- Op.load 29 (Operand.tmp 12)  GUARD (10, 'true')
          intro xv Wf hE hp
          have r10 : xv 10 = _ := hp.1
          clear hp
          have hEW := hEc.trans ((Ext.drew wc).trans hE)
          have lf := HF.out Wf hEW
          obtain ⟨la0, la1, la2, la3, la4, la5, la6⟩ := (HIa.out.ext hEW).cells
          obtain ⟨lc0, lc1, lc2, lc3, lc4, lc5, lc6⟩ := (HIc.out.ext hEW).cells
          obtain ⟨ld0, ld1, ld2, ld3, ld4, ld5, ld6⟩ := (HId.out.ext hEW).cells
          obtain ⟨lw0, lw1, lw2, lw3⟩ := (HWant.out.ext ((Ext.drew wc).trans hE)).cells
          simp only [putD, List.foldl_nil, List.foldl_cons, List.getD_cons_zero, List.getD_cons_succ, Act.put, List.setIfInBounds_toArray, List.set_cons_zero, List.set_cons_succ]
          refine OpGoal.yes (by simp [yieldD, r10]) ?_
          go_wp2_with fail
          exact ⟨rfl, Ext.refl _, rfl⟩
        case o16 => -- Op.buildSlice 27 3 #[(0, Operand.tmp 226), (1, Operand.tmp 227), (2, Operand.tmp
          intro xv Wf hE hp
          have r10 : xv 10 = _ := hp.1
          have r13 : xv 13 = _ := hp.2.1
          have r14 : xv 14 = _ := hp.2.2.1
          have r15 : xv 15 = _ := hp.2.2.2.1
          clear hp
          simp only [putD, List.foldl_nil, List.foldl_cons, List.getD_cons_zero, List.getD_cons_succ, Act.put, List.setIfInBounds_toArray, List.set_cons_zero, List.set_cons_succ]
          refine OpGoal.yes (by simp [yieldD, r10]) ?_
          go_wp2_with fail
          have hEW := hEc.trans ((Ext.drew wc).trans hE)
          exact ⟨rfl, Ext.alloc _ _, Wf.heap.size, rfl, row3' Wf a Aa ca da c Ac cc dc d Ad cd dd (ExL.ext HXa.out hEW) (ExL.ext HXc.out hEW) (ExL.ext HXd.out hEW)⟩
        case o17 => -- Op.call { callee := Callee.value (Operand.tmp 225), args := #[Operand.const (Val
          intro xv Wf hE hp
          have r10 : xv 10 = _ := hp.1
          have r12 : xv 12 = _ := hp.2.1
          obtain ⟨g16, r16, h16⟩ := hp.2.2.1
          clear hp
          simp only [putD, List.foldl_nil, List.foldl_cons, List.getD_cons_zero, List.getD_cons_succ, Act.put, List.setIfInBounds_toArray, List.set_cons_zero, List.set_cons_succ]
          refine OpGoal.yes (by simp [yieldD, r10]) ?_
          go_wp2_with fail
          refine (op_any 13 [a, c, d] (some ⟨g16, 0, none⟩) 3 3 rfl Wf).mono ?_
          rintro e w' ⟨rfl, hE9⟩
          go_wp2_with fail
          exact ⟨rfl, hE9, g16, 3, rfl, ExL.ext h16 hE9⟩
        case o18 => -- Op.call { callee := Callee.value (Operand.tmp 224), args := #[Operand.tmp 230], 
          intro xv Wf hE hp
          have r10 : xv 10 = _ := hp.1
          have r11 : xv 11 = _ := hp.2.1
          obtain ⟨g17, n17, r17, h17⟩ := hp.2.2.1
          clear hp
          simp only [putD, List.foldl_nil, List.foldl_cons, List.getD_cons_zero, List.getD_cons_succ, Act.put, List.setIfInBounds_toArray, List.set_cons_zero, List.set_cons_succ]
          refine OpGoal.yes (by simp [yieldD, r10]) ?_
          go_wp2_with fail
          have hEW := hEc.trans ((Ext.drew wc).trans hE)
          refine (val_any x (exOp 13 [a, c, d]) 1 (some ⟨g17, 0, none⟩) n17 (da + dc + dd + 1) bx Wf (rt_if HRa.out HRc.out HRd.out) (by first | omega | (simp only [size_1, size_2, size_3]; omega)) h17 (HEn.out.ext hEW)).mono ?_
          rintro r w' ⟨rfl, hE9⟩
          go_wp2_with fail
          exact ⟨rfl, hE9, rfl⟩
        case o19 => -- Op.load 26 (Operand.tmp 17)  GUARD (10, 'true')
          intro xv Wf hE hp
          have r10 : xv 10 = _ := hp.1
          clear hp
          have hEW := hEc.trans ((Ext.drew wc).trans hE)
          have lf := HF.out Wf hEW
          obtain ⟨la0, la1, la2, la3, la4, la5, la6⟩ := (HIa.out.ext hEW).cells
          obtain ⟨lc0, lc1, lc2, lc3, lc4, lc5, lc6⟩ := (HIc.out.ext hEW).cells
          obtain ⟨ld0, ld1, ld2, ld3, ld4, ld5, ld6⟩ := (HId.out.ext hEW).cells
          obtain ⟨lw0, lw1, lw2, lw3⟩ := (HWant.out.ext ((Ext.drew wc).trans hE)).cells
          simp only [putD, List.foldl_nil, List.foldl_cons, List.getD_cons_zero, List.getD_cons_succ, Act.put, List.setIfInBounds_toArray, List.set_cons_zero, List.set_cons_succ]
          refine OpGoal.yes (by simp [yieldD, r10]) ?_
          go_wp2_with fail
          exact ⟨rfl, Ext.refl _, rfl⟩
        case o20 => -- Op.binOp BinOp.eql 26 (Operand.tmp 231) (Operand.tmp 232) 26  GUARD (10, 'true')
          intro xv Wf hE hp
          have r10 : xv 10 = _ := hp.1
          have r18 : xv 18 = _ := hp.2.1
          have r19 : xv 19 = _ := hp.2.2.1
          clear hp
          have hm := HWN.out
          rw [hm] at r18
          unfold Vl.v at r18 r19
          have VE := veq want
          simp only [putD, List.foldl_nil, List.foldl_cons, List.getD_cons_zero, List.getD_cons_succ, Act.put, List.setIfInBounds_toArray, List.set_cons_zero, List.set_cons_succ]
          refine OpGoal.yes (by simp [yieldD, r10]) ?_
          go_wp2_with fail
          exact ⟨rfl, Ext.refl _, rfl⟩
        case o21 => -- Op.pick (Operand.tmp 223) (Operand.tmp 233) (Operand.const (Value.bool false))
          intro xv Wf hE hp
          have r10 : xv 10 = _ := hp.1
          have r20 : xv 20 = _ := hp.2.1
          clear hp
          simp only [putD, List.foldl_nil, List.foldl_cons, List.getD_cons_zero, List.getD_cons_succ, Act.put, List.setIfInBounds_toArray, List.set_cons_zero, List.set_cons_succ]
          refine OpGoal.plain ?_
          go_wp2_with fail
          exact ⟨rfl, Ext.refl _, rfl⟩
        case o22 => -- Op.move (Operand.tmp 234)
          intro xv Wf hE hp
          have r21 : xv 21 = _ := hp.1
          clear hp
          simp only [putD, List.foldl_nil, List.foldl_cons, List.getD_cons_zero, List.getD_cons_succ, Act.put, List.setIfInBounds_toArray, List.set_cons_zero, List.set_cons_succ]
          refine OpGoal.plain ?_
          go_wp2_with fail
          exact ⟨rfl, Ext.refl _, rfl⟩
        case o23 => -- Op.move (Operand.tmp 7)  GUARD (22, 'true')
          intro xv Wf hE hp
          have r22 : xv 22 = _ := hp.1
          clear hp
          simp only [putD, List.foldl_nil, List.foldl_cons, List.getD_cons_zero, List.getD_cons_succ, Act.put, List.setIfInBounds_toArray, List.set_cons_zero, List.set_cons_succ]
          refine OpGoal.yes (by simp [yieldD, r22]) ?_
          go_wp2_with fail
          exact ⟨rfl, Ext.refl _, rfl⟩
        case o24 => -- Op.load 29 (Operand.tmp 9)  GUARD (22, 'true')
          intro xv Wf hE hp
          have r22 : xv 22 = _ := hp.1
          clear hp
          have hEW := hEc.trans ((Ext.drew wc).trans hE)
          have lf := HF.out Wf hEW
          obtain ⟨la0, la1, la2, la3, la4, la5, la6⟩ := (HIa.out.ext hEW).cells
          obtain ⟨lc0, lc1, lc2, lc3, lc4, lc5, lc6⟩ := (HIc.out.ext hEW).cells
          obtain ⟨ld0, ld1, ld2, ld3, ld4, ld5, ld6⟩ := (HId.out.ext hEW).cells
          obtain ⟨lw0, lw1, lw2, lw3⟩ := (HWant.out.ext ((Ext.drew wc).trans hE)).cells
          simp only [putD, List.foldl_nil, List.foldl_cons, List.getD_cons_zero, List.getD_cons_succ, Act.put, List.setIfInBounds_toArray, List.set_cons_zero, List.set_cons_succ]
          refine OpGoal.yes (by simp [yieldD, r22]) ?_
          go_wp2_with fail
          exact ⟨rfl, Ext.refl _, rfl⟩
        case o25 => -- Op.call { callee := Callee.value (Operand.tmp 236), args := #[Operand.tmp 237], 
          intro xv Wf hE hp
          have r22 : xv 22 = _ := hp.1
          have r23 : xv 23 = _ := hp.2.1
          have r24 : xv 24 = _ := hp.2.2.1
          clear hp
          simp only [putD, List.foldl_nil, List.foldl_cons, List.getD_cons_zero, List.getD_cons_succ, Act.put, List.setIfInBounds_toArray, List.set_cons_zero, List.set_cons_succ]
          refine OpGoal.yes (by simp [yieldD, r22]) ?_
          go_wp2_with fail
          have hEW := hEc.trans ((Ext.drew wc).trans hE)
          refine (val_any x a 2 Aa ca da bx Wf HRa.out (by first | omega | (simp only [size_1, size_2, size_3]; omega)) (ExL.ext HXa.out hEW) (HEn.out.ext hEW)).mono ?_
          rintro r w' ⟨rfl, hE9⟩
          go_wp2_with fail
          exact ⟨rfl, hE9, rfl⟩
        case o26 => -- Op.field 26 (Operand.tmp 238) 0  GUARD (22, 'true')
          intro xv Wf hE hp
          have r22 : xv 22 = _ := hp.1
          have r25 : xv 25 = _ := hp.2.1
          clear hp
          unfold Vl.v at r25
          simp only [putD, List.foldl_nil, List.foldl_cons, List.getD_cons_zero, List.getD_cons_succ, Act.put, List.setIfInBounds_toArray, List.set_cons_zero, List.set_cons_succ]
          refine OpGoal.yes (by simp [yieldD, r22]) ?_
          go_wp2_with fail
          exact ⟨rfl, Ext.refl _, rfl⟩
        case o27 => -- Op.binOp BinOp.eql 3 (Operand.tmp 239) (Operand.const (Value.int IntKind.i64 2))
          intro xv Wf hE hp
          have r22 : xv 22 = _ := hp.1
          have r26 : xv 26 = _ := hp.2.1
          clear hp
          have hm := vt_bool (x.fits_big) HRa.out
          rw [hm] at r26
          simp only [putD, List.foldl_nil, List.foldl_cons, List.getD_cons_zero, List.getD_cons_succ, Act.put, List.setIfInBounds_toArray, List.set_cons_zero, List.set_cons_succ]
          refine OpGoal.yes (by simp [yieldD, r22]) ?_
          go_wp2_with fail
          exact ⟨rfl, Ext.refl _, rfl⟩
        case o28 => -- Op.pick (Operand.tmp 235) (Operand.tmp 240) (Operand.const (Value.bool false))
          intro xv Wf hE hp
          have r22 : xv 22 = _ := hp.1
          have r27 : xv 27 = _ := hp.2.1
          clear hp
          simp only [putD, List.foldl_nil, List.foldl_cons, List.getD_cons_zero, List.getD_cons_succ, Act.put, List.setIfInBounds_toArray, List.set_cons_zero, List.set_cons_succ]
          refine OpGoal.plain ?_
          go_wp2_with fail
          exact ⟨rfl, Ext.refl _, rfl⟩
        case o29 => -- Op.move (Operand.tmp 241)
          intro xv Wf hE hp
          have r28 : xv 28 = _ := hp.1
          clear hp
          simp only [putD, List.foldl_nil, List.foldl_cons, List.getD_cons_zero, List.getD_cons_succ, Act.put, List.setIfInBounds_toArray, List.set_cons_zero, List.set_cons_succ]
          refine OpGoal.plain ?_
          go_wp2_with fail
          exact ⟨rfl, Ext.refl _, rfl⟩
        case o30 => -- Op.move (Operand.tmp 7)  GUARD (29, 'true')
          intro xv Wf hE hp
          have r29 : xv 29 = _ := hp.1
          clear hp
          simp only [putD, List.foldl_nil, List.foldl_cons, List.getD_cons_zero, List.getD_cons_succ, Act.put, List.setIfInBounds_toArray, List.set_cons_zero, List.set_cons_succ]
          refine OpGoal.yes (by simp [yieldD, r29]) ?_
          go_wp2_with fail
          exact ⟨rfl, Ext.refl _, rfl⟩
        case o31 => -- Op.load 29 (Operand.tmp 11)  GUARD (29, 'true')
          intro xv Wf hE hp
          have r29 : xv 29 = _ := hp.1
          clear hp
          have hEW := hEc.trans ((Ext.drew wc).trans hE)
          have lf := HF.out Wf hEW
          obtain ⟨la0, la1, la2, la3, la4, la5, la6⟩ := (HIa.out.ext hEW).cells
          obtain ⟨lc0, lc1, lc2, lc3, lc4, lc5, lc6⟩ := (HIc.out.ext hEW).cells
          obtain ⟨ld0, ld1, ld2, ld3, ld4, ld5, ld6⟩ := (HId.out.ext hEW).cells
          obtain ⟨lw0, lw1, lw2, lw3⟩ := (HWant.out.ext ((Ext.drew wc).trans hE)).cells
          simp only [putD, List.foldl_nil, List.foldl_cons, List.getD_cons_zero, List.getD_cons_succ, Act.put, List.setIfInBounds_toArray, List.set_cons_zero, List.set_cons_succ]
          refine OpGoal.yes (by simp [yieldD, r29]) ?_
          go_wp2_with fail
          exact ⟨rfl, Ext.refl _, rfl⟩
        case o32 => -- Op.call { callee := Callee.value (Operand.tmp 243), args := #[Operand.tmp 244], 
          intro xv Wf hE hp
          have r29 : xv 29 = _ := hp.1
          have r30 : xv 30 = _ := hp.2.1
          have r31 : xv 31 = _ := hp.2.2.1
          clear hp
          simp only [putD, List.foldl_nil, List.foldl_cons, List.getD_cons_zero, List.getD_cons_succ, Act.put, List.setIfInBounds_toArray, List.set_cons_zero, List.set_cons_succ]
          refine OpGoal.yes (by simp [yieldD, r29]) ?_
          go_wp2_with fail
          have hEW := hEc.trans ((Ext.drew wc).trans hE)
          refine (val_any x c 1 Ac cc dc bx Wf HRc.out (by first | omega | (simp only [size_1, size_2, size_3]; omega)) (ExL.ext HXc.out hEW) (HEn.out.ext hEW)).mono ?_
          rintro r w' ⟨rfl, hE9⟩
          go_wp2_with fail
          exact ⟨rfl, hE9, rfl⟩
        case o33 => -- Op.field 26 (Operand.tmp 245) 0  GUARD (29, 'true')
          intro xv Wf hE hp
          have r29 : xv 29 = _ := hp.1
          have r32 : xv 32 = _ := hp.2.1
          clear hp
          unfold Vl.v at r32
          simp only [putD, List.foldl_nil, List.foldl_cons, List.getD_cons_zero, List.getD_cons_succ, Act.put, List.setIfInBounds_toArray, List.set_cons_zero, List.set_cons_succ]
          refine OpGoal.yes (by simp [yieldD, r29]) ?_
          go_wp2_with fail
          exact ⟨rfl, Ext.refl _, rfl⟩
        case o34 => -- Op.binOp BinOp.eql 3 (Operand.tmp 246) (Operand.const (Value.int IntKind.i64 1))
          intro xv Wf hE hp
          have r29 : xv 29 = _ := hp.1
          have r33 : xv 33 = _ := hp.2.1
          clear hp
          have hm := (vt_int (x.fits_big) HRc.out).1
          rw [hm] at r33
          simp only [putD, List.foldl_nil, List.foldl_cons, List.getD_cons_zero, List.getD_cons_succ, Act.put, List.setIfInBounds_toArray, List.set_cons_zero, List.set_cons_succ]
          refine OpGoal.yes (by simp [yieldD, r29]) ?_
          go_wp2_with fail
          exact ⟨rfl, Ext.refl _, rfl⟩
        case o35 => -- Op.pick (Operand.tmp 242) (Operand.tmp 247) (Operand.const (Value.bool false))
          intro xv Wf hE hp
          have r29 : xv 29 = _ := hp.1
          have r34 : xv 34 = _ := hp.2.1
          clear hp
          simp only [putD, List.foldl_nil, List.foldl_cons, List.getD_cons_zero, List.getD_cons_succ, Act.put, List.setIfInBounds_toArray, List.set_cons_zero, List.set_cons_succ]
          refine OpGoal.plain ?_
          go_wp2_with fail
          exact ⟨rfl, Ext.refl _, rfl⟩
        case last =>
          intro xv Wf hE hp
          have r0 : xv 0 = _ := hp.1
          have r1 : xv 1 = _ := hp.2.1
          have r2 : xv 2 = _ := hp.2.2.1
          have r3 : xv 3 = _ := hp.2.2.2.1
          have r4 : xv 4 = _ := hp.2.2.2.2.1
          have r5 : xv 5 = _ := hp.2.2.2.2.2.1
          have r6 : xv 6 = _ := hp.2.2.2.2.2.2.1
          have r7 : xv 7 = _ := hp.2.2.2.2.2.2.2.1
          have r8 : xv 8 = _ := hp.2.2.2.2.2.2.2.2.1
          have r9 : xv 9 = _ := hp.2.2.2.2.2.2.2.2.2.1
          have r10 : xv 10 = _ := hp.2.2.2.2.2.2.2.2.2.2.1
          have r11 : xv 11 = _ := hp.2.2.2.2.2.2.2.2.2.2.2.1
          have r12 : xv 12 = _ := hp.2.2.2.2.2.2.2.2.2.2.2.2.1
          have r13 : xv 13 = _ := hp.2.2.2.2.2.2.2.2.2.2.2.2.2.1
          have r14 : xv 14 = _ := hp.2.2.2.2.2.2.2.2.2.2.2.2.2.2.1
          have r15 : xv 15 = _ := hp.2.2.2.2.2.2.2.2.2.2.2.2.2.2.2.1
          obtain ⟨g16, r16, h16⟩ := hp.2.2.2.2.2.2.2.2.2.2.2.2.2.2.2.2.1
          obtain ⟨g17, n17, r17, h17⟩ := hp.2.2.2.2.2.2.2.2.2.2.2.2.2.2.2.2.2.1
          have r18 : xv 18 = _ := hp.2.2.2.2.2.2.2.2.2.2.2.2.2.2.2.2.2.2.1
          have r19 : xv 19 = _ := hp.2.2.2.2.2.2.2.2.2.2.2.2.2.2.2.2.2.2.2.1
          have r20 : xv 20 = _ := hp.2.2.2.2.2.2.2.2.2.2.2.2.2.2.2.2.2.2.2.2.1
          have r21 : xv 21 = _ := hp.2.2.2.2.2.2.2.2.2.2.2.2.2.2.2.2.2.2.2.2.2.1
          have r22 : xv 22 = _ := hp.2.2.2.2.2.2.2.2.2.2.2.2.2.2.2.2.2.2.2.2.2.2.1
          have r23 : xv 23 = _ := hp.2.2.2.2.2.2.2.2.2.2.2.2.2.2.2.2.2.2.2.2.2.2.2.1
          have r24 : xv 24 = _ := hp.2.2.2.2.2.2.2.2.2.2.2.2.2.2.2.2.2.2.2.2.2.2.2.2.1
          have r25 : xv 25 = _ := hp.2.2.2.2.2.2.2.2.2.2.2.2.2.2.2.2.2.2.2.2.2.2.2.2.2.1
          have r26 : xv 26 = _ := hp.2.2.2.2.2.2.2.2.2.2.2.2.2.2.2.2.2.2.2.2.2.2.2.2.2.2.1
          have r27 : xv 27 = _ := hp.2.2.2.2.2.2.2.2.2.2.2.2.2.2.2.2.2.2.2.2.2.2.2.2.2.2.2.1
          have r28 : xv 28 = _ := hp.2.2.2.2.2.2.2.2.2.2.2.2.2.2.2.2.2.2.2.2.2.2.2.2.2.2.2.2.1
          have r29 : xv 29 = _ := hp.2.2.2.2.2.2.2.2.2.2.2.2.2.2.2.2.2.2.2.2.2.2.2.2.2.2.2.2.2.1
          have r30 : xv 30 = _ := hp.2.2.2.2.2.2.2.2.2.2.2.2.2.2.2.2.2.2.2.2.2.2.2.2.2.2.2.2.2.2.1
          have r31 : xv 31 = _ := hp.2.2.2.2.2.2.2.2.2.2.2.2.2.2.2.2.2.2.2.2.2.2.2.2.2.2.2.2.2.2.2.1
          have r32 : xv 32 = _ := hp.2.2.2.2.2.2.2.2.2.2.2.2.2.2.2.2.2.2.2.2.2.2.2.2.2.2.2.2.2.2.2.2.1
          have r33 : xv 33 = _ := hp.2.2.2.2.2.2.2.2.2.2.2.2.2.2.2.2.2.2.2.2.2.2.2.2.2.2.2.2.2.2.2.2.2.1
          have r34 : xv 34 = _ := hp.2.2.2.2.2.2.2.2.2.2.2.2.2.2.2.2.2.2.2.2.2.2.2.2.2.2.2.2.2.2.2.2.2.2.1
          have r35 : xv 35 = _ := hp.2.2.2.2.2.2.2.2.2.2.2.2.2.2.2.2.2.2.2.2.2.2.2.2.2.2.2.2.2.2.2.2.2.2.2.1
          clear hp
          simp only [putD, List.foldl_nil, List.foldl_cons, List.getD_cons_zero, List.getD_cons_succ, Act.put, List.length_cons, List.length_nil, List.range_succ, List.range_zero, List.nil_append, List.cons_append, List.setIfInBounds_toArray, List.set_cons_zero, List.set_cons_succ]
          have hEW := hEc.trans ((Ext.drew wc).trans hE)
          clear r0 r1 r2 r3 r4 r5 r6 r7 r8 r9 r10 r11 r12 r13 r14 r15 r16 r17 r18 r19 r20 r21 r22 r23 r24 r25 r26 r27 r28 r29 r30 r31 r32 r33 r34
          have hr35 : xv 35 = .bool true := r35
          rw [hr35]
          clear r35 hr35
          go_wp2_with fail
          go_ret
          exact ⟨rfl, HE8.out.trans hEW⟩
end Go.Proofs.YtggkkjnfonbpkaaGreatDoor
