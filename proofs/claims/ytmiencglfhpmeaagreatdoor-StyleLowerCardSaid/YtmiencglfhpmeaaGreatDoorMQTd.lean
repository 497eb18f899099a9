/- Constants and variables: the contracts of Number, Var, Word, yes, num. -/
import Derived.Test.YtmiencglfhpmeaaGreatDoorMQXu
import Derived.Test.YtmiencglfhpmeaaGreatDoorMQSu
import Derived.Test.YtmiencglfhpmeaaGreatDoorMQSa
import Derived.Test.YtmiencglfhpmeaaGreatDoorMQSq
import Derived.Test.YtmiencglfhpmeaaGreatDoorMQSl
import Derived.Test.YtmiencglfhpmeaaGreatDoorMQTc
set_option linter.unusedSimpArgs false
set_option linter.unusedVariables false
namespace Go.Proofs.YtmiencglfhpmeaaGreatDoor
open Go.RowKit Hach
def numE (n : Int) : Ex := .mk 1 0 1 n false [] []
def varE (v : Int) : Ex := .mk 2 v 0 0 false [] []
def wordE (s : List UInt8) : Ex := .mk 1 0 3 0 false s []
theorem finB {fn : Func} {t : Tmp} (hr : fn.results = #[.cell t 47]) {blk : Nat} {W : World} {Q : Ending → World → Prop} (x : Ex) (A : Option Addr) (c : Nat) (hI : InBlk W blk x (.slice A x.l.length c)) {tmps : Array Value} (ht : tmps.getD t undef = .pointer (some ⟨blk, 0, none⟩))
  (hQ : Q (.returned (.agg (x.cells A c).toArray)) W) : bodyPost Tryz.prog fn Q Exit.ret ⟨tmps, []⟩ W := bodyPost_ret (results_blk hr hI tmps ht) rfl hQ
def New0 (x : Ex) (w : World) (e : Ending) (w' : World) : Prop := e = .returned (.agg (x.cells none 0).toArray) ∧ Ext w w'
theorem number_any' (n : Int) (w : World) : Calls Tryz.prog 67 #[.int .i64 n] w (New0 (numE n) w) := by
 go_enter Tryz.func67, Tryz.ntmps67
 go_wp2_with fail
 exact finB (blk := w.heap.size) rfl (numE n) none 0 (Go.heap_alloc_new _ _) rfl ⟨rfl, Ext.alloc _ _⟩
theorem var_any' (n : Int) (w : World) : Calls Tryz.prog 72 #[.int .i64 n] w (New0 (varE n) w) := by
 go_enter Tryz.func72, Tryz.ntmps72
 go_wp2_with fail
 exact finB (blk := w.heap.size) rfl (varE n) none 0 (Go.heap_alloc_new _ _) rfl ⟨rfl, Ext.alloc _ _⟩
theorem word_any' (s : List UInt8) (w : World) : Calls Tryz.prog 75 #[.string ⟨s.toArray⟩] w (New0 (wordE s) w) := by
 go_enter Tryz.func75, Tryz.ntmps75
 go_wp2_with fail
 exact finB (blk := w.heap.size) rfl (wordE s) none 0 (Go.heap_alloc_new _ _) rfl ⟨rfl, Ext.alloc _ _⟩
theorem yes_any (w : World) : Calls Tryz.prog 28 #[] w (New0 yesE w) := by
 go_enter Tryz.func28, Tryz.ntmps28
 go_wp2_with fail
 exact finB (blk := w.heap.size) rfl yesE none 0 (Go.heap_alloc_new _ _) rfl ⟨rfl, Ext.alloc _ _⟩
theorem num_any (n : Int) (w : World) : Calls Tryz.prog 29 #[.int .i64 n] w (New0 (numE n) w) := by
 have hz := Z7.new w
 have hE0 := Ext.alloc w (.cells zero7 47)
 obtain ⟨w0, hw0⟩ : ∃ w0, w.alloc (.cells zero7 47) = w0 := ⟨_, rfl⟩
 obtain ⟨bz, hbz⟩ : ∃ b, w.heap.size = b := ⟨_, rfl⟩
 rw [hw0, hbz] at hz
 rw [hw0] at hE0
 have NU := Lib.hid (number_any' n w0)
 unfold New0 at NU
 have HZ := Lib.hid hz
 have HE0 := Lib.hid hE0
 have HB := Lib.hid hbz
 unfold zero7 at hw0
 have HW0 := Lib.hid hw0
 clear hw0 hz hE0 hbz
 go_enter Tryz.func29, Tryz.ntmps29
 go_upto_region 1 with fail
 rw [HW0.out, HB.out]
 go_wp2_with fail
 refine NU.out.mono ?_
 rintro e w1 ⟨rfl, hE1⟩
 have HZ1 := Lib.hid (HZ.out.ext hE1)
 have HE1 := Lib.hid (HE0.out.trans hE1)
 obtain ⟨z0, z1, z2, z3, z4, z5, z6⟩ := HZ1.out.cells
 obtain ⟨f0, f1, f2, f3, f4, f5, f6⟩ := HZ1.out.free
 unfold Ex.cells
 clear hE1 NU
 go_wp2_with fail
 exact finB (W := set7 w1 bz (numE n) (.slice none 0 0)) rfl (numE n) none 0 (set7_in HZ1.out (numE n) _) rfl ⟨rfl, ext_fresh HE1.out (set7_grown w1 bz (numE n) (.slice none 0 0)) (Nat.le_of_eq HB.out)⟩
end Go.Proofs.YtmiencglfhpmeaaGreatDoor
namespace Go.Proofs.YtmiencglfhpmeaaGreatDoor
open List (foldl_nil foldl_cons getD_cons_zero getD_cons_succ setIfInBounds_toArray set_cons_zero set_cons_succ)
open Go.RowKit Hach
def zpE (lo : Nat) : SP := ⟨fun v W => ∃ g, v = .pointer (some ⟨g, 0, none⟩) ∧ lo ≤ g ∧ Z7 W g, fun h hE => by
 obtain ⟨g, e, h1, h2⟩ := h
 exact ⟨g, e, h1, h2.ext hE⟩⟩
theorem row2L (W : World) (lo : Nat) (hlo : lo ≤ W.heap.size) (x0 : Ex) (A0 : Option Addr) (c0 d0 : Nat) (x1 : Ex) (A1 : Option Addr) (c1 d1 : Nat) (h0 : ExL W (fun b => lo ≤ b ∧ b < W.heap.size) d0 A0 x0.l) (h1 : ExL W (fun b => lo ≤ b ∧ b < W.heap.size) d1 A1 x1.l) : ExL (W.alloc (.cells #[.int .i64 x0.op, .int .i64 x0.var, .int .i64 x0.ty, .int .i64 x0.n, .bool x0.b, .string ⟨x0.s.toArray⟩, .slice A0 x0.l.length c0, .int .i64 x1.op, .int .i64 x1.var, .int .i64 x1.ty, .int .i64 x1.n, .bool x1.b, .string ⟨x1.s.toArray⟩, .slice A1 x1.l.length c1] 47)) (fun b => lo ≤ b ∧ b < (W.alloc (.cells #[.int .i64 x0.op, .int .i64 x0.var, .int .i64 x0.ty, .int .i64 x0.n, .bool x0.b, .string ⟨x0.s.toArray⟩, .slice A0 x0.l.length c0, .int .i64 x1.op, .int .i64 x1.var, .int .i64 x1.ty, .int .i64 x1.n, .bool x1.b, .string ⟨x1.s.toArray⟩, .slice A1 x1.l.length c1] 47)).heap.size) (d0 + d1 + 1) (some ⟨W.heap.size, 0, none⟩) [x0, x1] := by
 have hE := Ext.alloc W (.cells #[.int .i64 x0.op, .int .i64 x0.var, .int .i64 x0.ty, .int .i64 x0.n, .bool x0.b, .string ⟨x0.s.toArray⟩, .slice A0 x0.l.length c0, .int .i64 x1.op, .int .i64 x1.var, .int .i64 x1.ty, .int .i64 x1.n, .bool x1.b, .string ⟨x1.s.toArray⟩, .slice A1 x1.l.length c1] 47)
 refine ExL.row (us := [⟨x0, A0, c0⟩, ⟨x1, A1, c1⟩]) ⟨hlo, by simp⟩ (fun u hu => ?_) (fun i v hi => ?_)
 ·simp only [List.mem_cons, List.not_mem_nil, or_false] at hu
  rcases hu with rfl | rfl
  ·exact (exl_ext h0 hE).deep (by omega)
  ·exact (exl_ext h1 hE).deep (by omega)
 ·rw [World.cell?_alloc_new]
  simpa [Nd.cells, Ex.cells] using hi
def RowF (W : World) (g : Nat) (l : List Ex) : Prop := g < W.heap.size ∧ ∀ (i : Nat) (u : Value), ((l.map fun x => x.cells none 0).flatten)[i]? = some u → W.cell? ⟨g, i, none⟩ = some u
theorem RowF.ext {W W' : World} {g : Nat} {l : List Ex} (h : RowF W g l) (hE : Ext W W') : RowF W' g l := ⟨Nat.lt_of_lt_of_le h.1 hE.sz, fun i u hi => (hE.old (p := ⟨g, i, none⟩) h.1).trans (h.2 i u hi)⟩
theorem RowF.own {W W' : World} {g b : Nat} {l : List Ex} (h : RowF W g l) (hg : W.grownBy W' (some b)) (hb : b ≠ g) : RowF W' g l := ⟨Nat.lt_of_lt_of_le h.1 hg.size, fun i u hi => (grown_cell hg h.1 (by simpa using hb) i).trans (h.2 i u hi)⟩
theorem RowF.list {W : World} {g lo : Nat} {l : List Ex} (h : RowF W g l) (hlo : lo ≤ g) (hl : ∀ x ∈ l, x.l = []) : ExL W (fun b => lo ≤ b ∧ b < W.heap.size) 1 (some ⟨g, 0, none⟩) l := by
 have e : (l.map fun x => (⟨x, none, 0⟩ : Nd)).map (·.x) = l := by rw [List.map_map]; exact List.map_id _
 have e2 : ((l.map fun x => (⟨x, none, 0⟩ : Nd)).map Nd.cells).flatten = (l.map fun x => x.cells none 0).flatten := by rw [List.map_map]; rfl
 have hr := ExL.row (w := W) (S := fun b => lo ≤ b ∧ b < W.heap.size) (d := 0) (g := g) (us := l.map fun x => (⟨x, none, 0⟩ : Nd)) ⟨hlo, h.1⟩ (fun u hu => by
  obtain ⟨x, hx, rfl⟩ := List.mem_map.1 hu
  show ExL W _ 0 none x.l
  rw [hl x hx]; exact ExL.nil _ _ _ _) (fun i v hi => h.2 i v (by rw [← e2]; exact hi))
 rw [e] at hr
 exact hr
def slF (lo : Nat) (l : List Ex) (n : Nat) : SP := ⟨fun v W => ∃ g, v = .slice (some ⟨g, 0, none⟩) n n ∧ lo ≤ g ∧ RowF W g l, fun h hE => by
 obtain ⟨g, e, h1, h2⟩ := h
 exact ⟨g, e, h1, h2.ext hE⟩⟩
def opF (lo : Nat) (o : Int) (l : List Ex) (n : Nat) : SP := ⟨fun v W => ∃ g, v = .agg #[.int .i64 o, .int .i64 0, .int .i64 0, .int .i64 0, .bool false, .string ⟨#[]⟩, .slice (some ⟨g, 0, none⟩) n n] ∧ lo ≤ g ∧ RowF W g l, fun h hE => by
 obtain ⟨g, e, h1, h2⟩ := h
 exact ⟨g, e, h1, h2.ext hE⟩⟩
theorem RowF.two (W : World) (x y : Ex) : RowF (W.alloc (.cells #[.int .i64 x.op, .int .i64 x.var, .int .i64 x.ty, .int .i64 x.n, .bool x.b, .string ⟨x.s.toArray⟩, .slice none x.l.length 0, .int .i64 y.op, .int .i64 y.var, .int .i64 y.ty, .int .i64 y.n, .bool y.b, .string ⟨y.s.toArray⟩, .slice none y.l.length 0] 47)) W.heap.size [x, y] := by
 refine ⟨by simp, fun i u hi => ?_⟩
 rw [World.cell?_alloc_new]
 simpa [Ex.cells] using hi
def exA : Rl := ⟨[97], 1, yesE, numE 5, numE 2, numE 0⟩
def lightE : Ex := .mk 7 0 0 0 false [] [varE 4, numE 10]
def exB : Rl := ⟨[98], 2, lightE, .mk 8 0 0 0 false [] [varE 4, numE 300], numE (-4), numE 99⟩
def aRn : Rn := ⟨exA, none, none, none, none, 0, 0, 0, 0⟩
def bRn (g3 g : Nat) : Rn := ⟨exB, some ⟨g3, 0, none⟩, some ⟨g, 0, none⟩, none, none, 2, 2, 0, 0⟩
def bSP (lo g3 : Nat) : SP := ⟨fun v W => ∃ g, v = .agg #[.string ⟨#[98]⟩, .int .i64 2, .int .i64 7, .int .i64 0, .int .i64 0, .int .i64 0, .bool false, .string ⟨#[]⟩, .slice (some ⟨g3, 0, none⟩) 2 2, .int .i64 8, .int .i64 0, .int .i64 0, .int .i64 0, .bool false, .string ⟨#[]⟩, .slice (some ⟨g, 0, none⟩) 2 2, .int .i64 1, .int .i64 0, .int .i64 1, .int .i64 (-4), .bool false, .string ⟨#[]⟩, .slice none 0 0, .int .i64 1, .int .i64 0, .int .i64 1, .int .i64 99, .bool false, .string ⟨#[]⟩, .slice none 0 0] ∧ lo ≤ g ∧ RowF W g [varE 4, numE 300], fun h hE => by
 obtain ⟨g, e, h1, h2⟩ := h
 exact ⟨g, e, h1, h2.ext hE⟩⟩
def Two (a b : Rl) (w : World) (e : Ending) (w' : World) : Prop := ∃ (g : Nat) (u v : Rn) (d : Nat), e = .returned (.slice (some ⟨g, 0, none⟩) 2 2) ∧ u.r = a ∧ v.r = b ∧ w'.heap[g]? = some (.cells (u.cells ++ v.cells).toArray 49 (0, 0)) ∧
 u.kids w' (fun b => w.heap.size ≤ b ∧ b < w'.heap.size ∧ b ≠ g) d ∧ v.kids w' (fun b => w.heap.size ≤ b ∧ b < w'.heap.size ∧ b ≠ g) d ∧ w.heap.size ≤ g ∧ Ext w w'
theorem Two.new {w W : World} {g3 g12 : Nat} (hE : Ext w W) (k3 : ExL W (fun b => w.heap.size ≤ b ∧ b < W.heap.size) 1 (some ⟨g3, 0, none⟩) [varE 4, numE 10]) (k12 : ExL W (fun b => w.heap.size ≤ b ∧ b < W.heap.size) 1 (some ⟨g12, 0, none⟩) [varE 4, numE 300]) :
  Two exA exB w (.returned (.slice (some ⟨W.heap.size, 0, none⟩) 2 2)) (W.alloc (.cells (aRn.cells ++ (bRn g3 g12).cells).toArray 49)) := by
 have hE1 := Ext.alloc W (.cells (aRn.cells ++ (bRn g3 g12).cells).toArray 49)
 have key : ∀ (A : Option Addr) (l : List Ex), ExL W (fun b => w.heap.size ≤ b ∧ b < W.heap.size) 1 A l → ExL (W.alloc (.cells (aRn.cells ++ (bRn g3 g12).cells).toArray 49)) (fun b => w.heap.size ≤ b ∧ b < (W.alloc (.cells (aRn.cells ++ (bRn g3 g12).cells).toArray 49)).heap.size ∧ b ≠ W.heap.size) 1 A l := fun A l h =>
  (h.keep fun b hb o => hE1.old (p := ⟨b, o, none⟩) hb.2).more fun b hb => ⟨hb.1, Nat.lt_of_lt_of_le hb.2 hE1.sz, by omega⟩
 exact ⟨W.heap.size, aRn, bRn g3 g12, 1, rfl, rfl, rfl, Go.heap_alloc_new _ _, ⟨ExL.nil _ _ _ _, ExL.nil _ _ _ _, ExL.nil _ _ _ _, ExL.nil _ _ _ _⟩, ⟨key _ _ k3, key _ _ k12, ExL.nil _ _ _ _, ExL.nil _ _ _ _⟩, hE.sz, hE.trans hE1⟩
set_option maxRecDepth 100000 in
set_option maxHeartbeats 4000000 in
theorem example_any (w : World) : Calls Tryz.prog 33 #[] w (Two exA exB w) := by
 have VA := Lib.hid (var_any' 4 w)
 unfold New0 at VA
 go_enter Tryz.func33, Tryz.ntmps33
 go_wp2_with fail
 refine VA.out.mono ?_
 rintro e w1 ⟨rfl, hE1⟩
 have HE1 := Lib.hid hE1
 unfold Ex.cells
 clear VA hE1
 go_upto_region 2 with fail
 have hI1 : InBlk (w1.alloc (.cells (cell7 (varE 4) (.slice none 0 0)) 47)) w1.heap.size (varE 4) (.slice none 0 0) := InBlk.new _ _ _
 have hE2 := Ext.alloc w1 (.cells (cell7 (varE 4) (.slice none 0 0)) 47)
 obtain ⟨w2, hw2⟩ : ∃ q, w1.alloc (.cells (cell7 (varE 4) (.slice none 0 0)) 47) = q := ⟨_, rfl⟩
 obtain ⟨b1, hb1⟩ : ∃ q, w1.heap.size = q := ⟨_, rfl⟩
 rw [hw2, hb1] at hI1
 rw [hw2] at hE2
 have hwb : w.heap.size ≤ b1 := by rw [← hb1]; exact HE1.out.sz
 have HI1 := Lib.hid hI1
 have HE2 := Lib.hid (HE1.out.trans hE2)
 have HW2 : Hid (w1.alloc (.cells #[.int .i64 (varE 4).op, .int .i64 (varE 4).var, .int .i64 (varE 4).ty, .int .i64 (varE 4).n, .bool (varE 4).b, .string ⟨(varE 4).s.toArray⟩, .slice none (varE 4).l.length 0] 47) = w2) := Lib.hid hw2
 have hsz2 := HE2.out.sz
 rw [HW2.out, hb1]
 clear hw2 hb1 hI1 hE2 HW2
 apply wp_region_seq (l := [_, _, _, _, _]) (t := [_]) [some 4, some 5, some 6, some 7, some 2, none] [[], [], [0, 1], [2], [], [3, 4]] [5, 5, 5, 5, 5] [eqv _, (eqv (.agg ((numE 10).cells none 0).toArray)), (slF w.heap.size [varE 4, numE 10] 2), (opF w.heap.size 7 [varE 4, numE 10] 2), (zpE w2.heap.size)] (by kernel_rfl) (by kernel_rfl) ⟨?o0, ?o1, ?o2, ?o3, ?o4, trivial⟩ ?last
 case o0 =>
  intro xv W hE _
  obtain ⟨y0, y1, y2, y3, y4, y5, y6⟩ := (HI1.out.ext ((Ext.drew w2).trans hE)).cells
  simp only [putD, List.foldl_nil, List.getD_cons_zero]
  refine OpGoal.plain ?_
  go_wp2_with fail
  exact ⟨rfl, Ext.refl _, rfl⟩
 case o1 =>
  intro xv W hE _
  simp only [putD, List.foldl_nil, List.getD_cons_zero, List.getD_cons_succ]
  refine OpGoal.plain ?_
  go_wp2_with fail
  refine (num_any 10 W).mono ?_
  rintro e w' ⟨rfl, hE9⟩
  go_wp2_with fail
  exact ⟨rfl, hE9, rfl⟩
 case o2 =>
  intro xv W hE hp
  have r0 : xv 0 = _ := hp.1
  have r1 : xv 1 = _ := hp.2.1
  clear hp
  simp only [putD, foldl_nil, foldl_cons, getD_cons_zero, getD_cons_succ, Act.put, setIfInBounds_toArray, set_cons_zero, set_cons_succ]
  refine OpGoal.plain ?_
  go_wp2_with fail
  exact ⟨rfl, Ext.alloc _ _, W.heap.size, rfl, Nat.le_trans hsz2 ((Ext.drew w2).trans hE).sz, RowF.two W (varE 4) (numE 10)⟩
 case o3 =>
  intro xv W hE hp
  obtain ⟨g2, r2, l2, h2⟩ := hp.1
  clear hp
  simp only [putD, foldl_nil, foldl_cons, getD_cons_zero, getD_cons_succ, Act.put, setIfInBounds_toArray, set_cons_zero, set_cons_succ]
  refine OpGoal.plain ?_
  go_wp2_with fail
  exact ⟨rfl, Ext.refl _, g2, rfl, l2, h2⟩
 case o4 =>
  intro xv W hE _
  simp only [putD, List.foldl_nil, List.getD_cons_zero, List.getD_cons_succ]
  refine OpGoal.plain ?_
  go_wp2_with fail
  exact ⟨rfl, Ext.alloc _ _, _, rfl, (by have := hE.sz; simpa using this), Z7.new _⟩
 case last =>
  intro xv W hE hp
  have r0 : xv 0 = _ := hp.1
  have r1 : xv 1 = _ := hp.2.1
  obtain ⟨g2, r2, l2, h2⟩ := hp.2.2.1
  obtain ⟨g3, r3, l3, h3⟩ := hp.2.2.2.1
  obtain ⟨g4, r4, l4, h4⟩ := hp.2.2.2.2.1
  clear hp
  simp only [putD, List.foldl_nil, List.foldl_cons, List.getD_cons_zero, List.getD_cons_succ, Act.put, List.length_cons, List.length_nil, List.range_succ, List.range_zero, List.nil_append, List.cons_append, List.setIfInBounds_toArray, List.set_cons_zero, List.set_cons_succ]
  have hEw : Ext w2 W := (Ext.drew w2).trans hE
  have hne : g4 ≠ g3 := by
   rintro rfl
   have e1 := h3.2 0 (.int .i64 2) rfl
   have e2 := h4.cells.1
   rw [e1] at e2
   cases e2
  obtain ⟨z0, z1, z2, z3, z4, z5, z6⟩ := h4.cells
  obtain ⟨f0, f1, f2, f3, f4, f5, f6⟩ := h4.free
  rw [r4, r3]
  have hG := set7_grown W g4 lightE (.slice (some ⟨g3, 0, none⟩) 2 2)
  have hI4 := set7_in h4 lightE (.slice (some ⟨g3, 0, none⟩) 2 2)
  have hI1 := (HI1.out.ext hEw).own hG (by simp; have := HI1.out.lt; omega)
  have hL4 := (h3.own hG hne).list l3 (by intro x hx; simp only [List.mem_cons, List.not_mem_nil, or_false] at hx; rcases hx with rfl | rfl <;> rfl)
  have hE4 := ext_fresh (HE2.out.trans hEw) hG (Nat.le_trans hsz2 l4)
  have HI1' := Lib.hid hI1
  have HI4 := Lib.hid hI4
  have HL4 := Lib.hid hL4
  have HE4 := Lib.hid hE4
  clear r0 r1 r2 r3 r4 hI1 hI4 hL4 hE4 hG HI1 h2 h3 h4
  go_upto_region 3 with fail
  obtain ⟨w4, hw4⟩ : ∃ q, set7 W g4 lightE (.slice (some ⟨g3, 0, none⟩) 2 2) = q := ⟨_, rfl⟩
  rw [hw4] at HI1' HI4 HL4 HE4
  have HW4 : Hid (((((((W.setCell ⟨g4, 0, none⟩ (.int .i64 7)).setCell ⟨g4, 1, none⟩ (.int .i64 0)).setCell ⟨g4, 2, none⟩ (.int .i64 0)).setCell ⟨g4, 3, none⟩ (.int .i64 0)).setCell ⟨g4, 4, none⟩ (.bool false)).setCell ⟨g4, 5, none⟩ (.string ⟨#[]⟩)).setCell ⟨g4, 6, none⟩ (.slice (some ⟨g3, 0, none⟩) 2 2) = w4) := Lib.hid hw4
  rw [HW4.out]
  clear hw4 HW4 z0 z1 z2 z3 z4 z5 z6 f0 f1 f2 f3 f4 f5 f6 hEw
  generalize xv 0 = v0
  generalize xv 1 = v1
  generalize xv 2 = v2
  clear xv hE
  apply wp_region_seq (l := [_, _, _, _, _, _, _, _, _, _, _, _, _]) (t := [_, _]) [some 8, some 9, some 10, some 11, some 12, some 13, some 14, some 15, some 16, some 17, some 18, some 19, some 20, some 21, some 0] [[], [], [], [], [0, 1, 2, 3], [], [], [], [6, 7], [8], [], [], [5, 9, 10, 11], [4, 12], [13]] [4, 4, 4, 7, 13, 12, 8, 10, 9, 12, 12, 12, 13] [(eqv (.agg #[.int .i64 1, .int .i64 0, .int .i64 2, .int .i64 0, .bool true, .string ⟨#[]⟩, .slice none 0 0])), (eqv (.agg #[.int .i64 1, .int .i64 0, .int .i64 1, .int .i64 5, .bool false, .string ⟨#[]⟩, .slice none 0 0])), (eqv (.agg #[.int .i64 1, .int .i64 0, .int .i64 1, .int .i64 2, .bool false, .string ⟨#[]⟩, .slice none 0 0])), (eqv (.agg #[.int .i64 1, .int .i64 0, .int .i64 1, .int .i64 0, .bool false, .string ⟨#[]⟩, .slice none 0 0])), eqv _, eqv _, eqv _, (eqv (.agg #[.int .i64 1, .int .i64 0, .int .i64 1, .int .i64 300, .bool false, .string ⟨#[]⟩, .slice none 0 0])), (slF w.heap.size [varE 4, numE 300] 2), (opF w.heap.size 8 [varE 4, numE 300] 2), (eqv (.agg #[.int .i64 1, .int .i64 0, .int .i64 1, .int .i64 (-4), .bool false, .string ⟨#[]⟩, .slice none 0 0])), (eqv (.agg #[.int .i64 1, .int .i64 0, .int .i64 1, .int .i64 99, .bool false, .string ⟨#[]⟩, .slice none 0 0])), (bSP w.heap.size g3)] (by kernel_rfl) (by kernel_rfl) ⟨?o0, ?o1, ?o2, ?o3, ?o4, ?o5, ?o6, ?o7, ?o8, ?o9, ?o10, ?o11, ?o12, trivial⟩ ?last
  case o0 =>
   intro xv W2 hE _
   simp only [putD, List.foldl_nil, List.getD_cons_zero]
   refine OpGoal.plain ?_
   go_wp2_with fail
   refine (yes_any W2).mono ?_
   rintro e w' ⟨rfl, hE9⟩
   go_wp2_with fail
   exact ⟨rfl, hE9, rfl⟩
  case o1 =>
   intro xv W2 hE _
   simp only [putD, List.foldl_nil, List.getD_cons_zero, List.getD_cons_succ]
   refine OpGoal.plain ?_
   go_wp2_with fail
   refine (num_any 5 W2).mono ?_
   rintro e w' ⟨rfl, hE9⟩
   go_wp2_with fail
   exact ⟨rfl, hE9, rfl⟩
  case o2 =>
   intro xv W2 hE _
   simp only [putD, List.foldl_nil, List.getD_cons_zero, List.getD_cons_succ]
   refine OpGoal.plain ?_
   go_wp2_with fail
   refine (num_any 2 W2).mono ?_
   rintro e w' ⟨rfl, hE9⟩
   go_wp2_with fail
   exact ⟨rfl, hE9, rfl⟩
  case o3 =>
   intro xv W2 hE _
   simp only [putD, List.foldl_nil, List.getD_cons_zero, List.getD_cons_succ]
   refine OpGoal.plain ?_
   go_wp2_with fail
   refine (num_any 0 W2).mono ?_
   rintro e w' ⟨rfl, hE9⟩
   go_wp2_with fail
   exact ⟨rfl, hE9, rfl⟩
  case o4 =>
   intro xv W2 hE hp
   have r0 : xv 0 = _ := hp.1
   have r1 : xv 1 = _ := hp.2.1
   have r2 : xv 2 = _ := hp.2.2.1
   have r3 : xv 3 = _ := hp.2.2.2.1
   clear hp
   simp only [putD, foldl_nil, foldl_cons, getD_cons_zero, getD_cons_succ, Act.put, setIfInBounds_toArray, set_cons_zero, set_cons_succ]
   refine OpGoal.plain ?_
   go_wp2_with fail
   exact ⟨rfl, Ext.refl _, rfl⟩
  case o5 =>
   intro xv W2 hE _
   obtain ⟨y0, y1, y2, y3, y4, y5, y6⟩ := (HI1'.out.ext ((Ext.drew w4).trans hE)).cells
   obtain ⟨u0, u1, u2, u3, u4, u5, u6⟩ := (HI4.out.ext ((Ext.drew w4).trans hE)).cells
   simp only [putD, List.foldl_nil, List.getD_cons_zero, List.getD_cons_succ]
   refine OpGoal.plain ?_
   go_wp2_with fail
   exact ⟨rfl, Ext.refl _, rfl⟩
  case o6 =>
   intro xv W2 hE _
   obtain ⟨y0, y1, y2, y3, y4, y5, y6⟩ := (HI1'.out.ext ((Ext.drew w4).trans hE)).cells
   obtain ⟨u0, u1, u2, u3, u4, u5, u6⟩ := (HI4.out.ext ((Ext.drew w4).trans hE)).cells
   simp only [putD, List.foldl_nil, List.getD_cons_zero, List.getD_cons_succ]
   refine OpGoal.plain ?_
   go_wp2_with fail
   exact ⟨rfl, Ext.refl _, rfl⟩
  case o7 =>
   intro xv W2 hE _
   simp only [putD, List.foldl_nil, List.getD_cons_zero, List.getD_cons_succ]
   refine OpGoal.plain ?_
   go_wp2_with fail
   refine (num_any 300 W2).mono ?_
   rintro e w' ⟨rfl, hE9⟩
   go_wp2_with fail
   exact ⟨rfl, hE9, rfl⟩
  case o8 =>
   intro xv W2 hE hp
   have r6 : xv 6 = _ := hp.1
   have r7 : xv 7 = _ := hp.2.1
   clear hp
   simp only [putD, foldl_nil, foldl_cons, getD_cons_zero, getD_cons_succ, Act.put, setIfInBounds_toArray, set_cons_zero, set_cons_succ]
   refine OpGoal.plain ?_
   go_wp2_with fail
   exact ⟨rfl, Ext.alloc _ _, W2.heap.size, rfl, (HE4.out.trans ((Ext.drew w4).trans hE)).sz, RowF.two W2 (varE 4) (numE 300)⟩
  case o9 =>
   intro xv W2 hE hp
   obtain ⟨g8, r8, l8, h8⟩ := hp.1
   clear hp
   simp only [putD, foldl_nil, foldl_cons, getD_cons_zero, getD_cons_succ, Act.put, setIfInBounds_toArray, set_cons_zero, set_cons_succ]
   refine OpGoal.plain ?_
   go_wp2_with fail
   exact ⟨rfl, Ext.refl _, g8, rfl, l8, h8⟩
  case o10 =>
   intro xv W2 hE _
   simp only [putD, List.foldl_nil, List.getD_cons_zero, List.getD_cons_succ]
   refine OpGoal.plain ?_
   go_wp2_with fail
   refine (num_any (-4) W2).mono ?_
   rintro e w' ⟨rfl, hE9⟩
   go_wp2_with fail
   exact ⟨rfl, hE9, rfl⟩
  case o11 =>
   intro xv W2 hE _
   simp only [putD, List.foldl_nil, List.getD_cons_zero, List.getD_cons_succ]
   refine OpGoal.plain ?_
   go_wp2_with fail
   refine (num_any 99 W2).mono ?_
   rintro e w' ⟨rfl, hE9⟩
   go_wp2_with fail
   exact ⟨rfl, hE9, rfl⟩
  case o12 =>
   intro xv W2 hE hp
   have r5 : xv 5 = _ := hp.1
   obtain ⟨g9, r9, l9, h9⟩ := hp.2.1
   have r10 : xv 10 = _ := hp.2.2.1
   have r11 : xv 11 = _ := hp.2.2.2.1
   clear hp
   simp only [putD, foldl_nil, foldl_cons, getD_cons_zero, getD_cons_succ, Act.put, setIfInBounds_toArray, set_cons_zero, set_cons_succ]
   refine OpGoal.plain ?_
   go_wp2_with fail
   exact ⟨rfl, Ext.refl _, g9, rfl, l9, h9⟩
  case last =>
   intro xv W2 hE hp
   have r0 : xv 0 = _ := hp.1
   have r1 : xv 1 = _ := hp.2.1
   have r2 : xv 2 = _ := hp.2.2.1
   have r3 : xv 3 = _ := hp.2.2.2.1
   have r4 : xv 4 = _ := hp.2.2.2.2.1
   have r5 : xv 5 = _ := hp.2.2.2.2.2.1
   have r6 : xv 6 = _ := hp.2.2.2.2.2.2.1
   have r7 : xv 7 = _ := hp.2.2.2.2.2.2.2.1
   obtain ⟨g8, r8, l8, h8⟩ := hp.2.2.2.2.2.2.2.2.1
   obtain ⟨g9, r9, l9, h9⟩ := hp.2.2.2.2.2.2.2.2.2.1
   have r10 : xv 10 = _ := hp.2.2.2.2.2.2.2.2.2.2.1
   have r11 : xv 11 = _ := hp.2.2.2.2.2.2.2.2.2.2.2.1
   obtain ⟨g12, r12, l12, h12⟩ := hp.2.2.2.2.2.2.2.2.2.2.2.2.1
   clear hp
   simp only [putD, List.foldl_nil, List.foldl_cons, List.getD_cons_zero, List.getD_cons_succ, Act.put, List.length_cons, List.length_nil, List.range_succ, List.range_zero, List.nil_append, List.cons_append, List.setIfInBounds_toArray, List.set_cons_zero, List.set_cons_succ]
   have hEw : Ext w4 W2 := (Ext.drew w4).trans hE
   have hE2 := HE4.out.trans hEw
   have k3 := exl_ext HL4.out hEw
   have k12 := h12.list l12 (by intro x hx; simp only [List.mem_cons, List.not_mem_nil, or_false] at hx; rcases hx with rfl | rfl <;> rfl)
   rw [r12, r4]
   clear r0 r1 r2 r3 r4 r5 r6 r7 r8 r9 r10 r11 r12
   go_wp2_with fail
   go_ret
   exact Two.new hE2 k3 k12
end Go.Proofs.YtmiencglfhpmeaaGreatDoor
namespace Go.Proofs.YtmiencglfhpmeaaGreatDoor
open Go.RowKit Hach
def exP : Rl := ⟨exB.nm, 1, exB.e1, exB.e2, exB.e3, exB.e4⟩
def exT : Rl := ⟨exB.nm, exB.pr, exB.e1, yesE, exB.e3, exB.e4⟩
def enW (n : Int) : En := ⟨3, [], [], n, 0, false, 0, 0, 0⟩
theorem f6 : chkL [exA, exB] = 0 := by decide
theorem f7 : chkL [exA, exB, exA] = 6 := by decide
theorem f8 : chkL [exA, exT] = 30 := by decide
theorem f1 : lookL [exA, exB] (enW 20) = ((5, 2, 0), [97], 0) := by decide
theorem f2 : lookL [exA, exB] (enW 3) = ((255, 0, 8), [98], 0) := by decide
theorem f3 : lookL [] (enW 3) = ((0, 0, 0), [], 0) := by decide
theorem f4 : lookL [exA, exP] (enW 3) = ((0, 0, 0), [97, 47, 98], 31) := by decide
theorem f5 : lookL [exA, exP] (enW 20) = ((5, 2, 0), [97], 0) := by decide
theorem f9 : exA.same exA = true := by decide
theorem f9n : exA.same exB = false := by decide
end Go.Proofs.YtmiencglfhpmeaaGreatDoor
namespace Go.Proofs.YtmiencglfhpmeaaGreatDoor
open Go.RowKit Hach
set_option maxRecDepth 100000 in
set_option maxHeartbeats 4000000 in
theorem looks_any (l : List Rl) (A : Option Addr) (c d : Nat) (w : World) (n a1 a2 a3 er : Int) (nm : List UInt8) (hX : RlB w w.heap.size d A l) (hl : l.length < 4294967296) (hc : l.length ≤ c) (hc2 : c < 9223372036854775808) (hok : ∀ r ∈ l, r.ok) (h : lookL l (enW n) = ((a1, a2, a3), nm, er)) :
  Calls Tryz.prog 34 #[.slice A l.length c, .int .i64 n, .agg #[.int .i64 a1, .int .i64 a2, .int .i64 a3], .string ⟨nm.toArray⟩, .int .i64 er] w fun e w' => e = .returned (.bool true) ∧ Ext w w' := by
 have hE1 := Ext.alloc w (.cells (Lk_row (a1, a2, a3)) 39)
 have hB1 := LkB.new w (a1, a2, a3)
 obtain ⟨w1, hw1⟩ : ∃ q, w.alloc (.cells (Lk_row (a1, a2, a3)) 39) = q := ⟨_, rfl⟩
 obtain ⟨bl, hbl⟩ : ∃ q, w.heap.size = q := ⟨_, rfl⟩
 rw [hw1] at hE1
 rw [hw1, hbl] at hB1
 have LO := Lib.hid (Look_any l (enW n) A c d w1 (RlL.ext hX hE1) hl hc hc2 hok)
 unfold LookR at LO
 rw [h] at LO
 have HB1 := Lib.hid hB1
 have HE1 := Lib.hid hE1
 have HBL := Lib.hid hbl
 have HW1 : Hid (w.alloc (.cells #[.int .i64 a1, .int .i64 a2, .int .i64 a3] 39) = w1) := Lib.hid hw1
 unfold Lk_row En.v enW at LO
 obtain ⟨D, hD⟩ : ∃ D : ByteArray, (⟨nm.toArray⟩ : ByteArray) = D := ⟨_, rfl⟩
 rw [hD] at LO ⊢
 clear hw1 hbl hE1 hB1 hX hl hc hc2 hok h hD
 go_enter Tryz.func34, Tryz.ntmps34
 go_upto_region 1 with fail
 rw [HW1.out, HBL.out]
 go_wp2_with fail
 refine LO.out.mono ?_
 rintro e w2 ⟨rfl, hE2⟩
 have HE2 := Lib.hid (HE1.out.trans hE2)
 have HB2 := Lib.hid (HB1.out.ext hE2)
 clear hE2 LO
 go_upto_region 2 with fail
 have hE3 := Ext.alloc w2 (.cells (Lk_row (a1, a2, a3)) 39)
 have hB3 := LkB.new w2 (a1, a2, a3)
 obtain ⟨w3, hw3⟩ : ∃ q, w2.alloc (.cells (Lk_row (a1, a2, a3)) 39) = q := ⟨_, rfl⟩
 obtain ⟨b3, hb3⟩ : ∃ q, w2.heap.size = q := ⟨_, rfl⟩
 rw [hw3] at hE3
 rw [hw3, hb3] at hB3
 have HW3 : Hid (w2.alloc (.cells #[.int .i64 a1, .int .i64 a2, .int .i64 a3] 39) = w3) := Lib.hid hw3
 have HE3 := Lib.hid (HE2.out.trans hE3)
 obtain ⟨y0, y1, y2⟩ := (HB2.out.ext hE3).cells
 obtain ⟨u0, u1, u2⟩ := hB3.cells
 rw [HW3.out, hb3]
 have hDD : (D.toList == D.toList) = true := beq_self_eq_true _
 clear hw3 hb3 hE3 hB3
 go_wp2_with fail
 go_ret
 exact ⟨rfl, HE3.out⟩
end Go.Proofs.YtmiencglfhpmeaaGreatDoor
namespace Go.Proofs.YtmiencglfhpmeaaGreatDoor
open Go.RowKit Hach
structure TwoB (W : World) (g : Nat) (u v : Rn) (d : Nat) : Prop where
 blk : W.heap[g]? = some (.cells (u.cells ++ v.cells).toArray 49 (0, 0))
 k1 : u.kids W (fun b => b < W.heap.size ∧ b ≠ g) d
 k2 : v.kids W (fun b => b < W.heap.size ∧ b ≠ g) d
theorem TwoB.lt {W : World} {g d : Nat} {u v : Rn} (h : TwoB W g u v d) : g < W.heap.size := (Array.getElem?_eq_some_iff.1 h.blk).1
theorem TwoB.of {a b : Rl} {w w' : World} {e : Ending} (h : Two a b w e w') : ∃ (g : Nat) (u v : Rn) (d : Nat), e = .returned (.slice (some ⟨g, 0, none⟩) 2 2) ∧ u.r = a ∧ v.r = b ∧ TwoB w' g u v d ∧ w.heap.size ≤ g ∧ Ext w w' := by
 obtain ⟨g, u, v, d, h1, h2, h3, h4, h5, h6, h7, h8⟩ := h
 exact ⟨g, u, v, d, h1, h2, h3, ⟨h4, h5.more fun b hb => hb.2, h6.more fun b hb => hb.2⟩, h7, h8⟩
theorem TwoB.ext {W W' : World} {g d : Nat} {u v : Rn} (h : TwoB W g u v d) (hE : Ext W W') : TwoB W' g u v d :=
 ⟨(hE.below.block g h.lt).trans h.blk, (h.k1.keep fun b hb o => hE.old (p := ⟨b, o, none⟩) hb.1).more fun b hb => ⟨Nat.lt_of_lt_of_le hb.1 hE.sz, hb.2⟩, (h.k2.keep fun b hb o => hE.old (p := ⟨b, o, none⟩) hb.1).more fun b hb => ⟨Nat.lt_of_lt_of_le hb.1 hE.sz, hb.2⟩⟩
theorem TwoB.rng {W : World} {g d : Nat} {u v : Rn} (h : TwoB W g u v d) : W.rangeAt g 0 u.cells ∧ W.rangeAt g 30 v.cells := by
 constructor
 ·intro j x hx
  have hj := (List.getElem?_eq_some_iff.1 hx).1
  simp [World.cell?, h.blk, List.getElem?_append_left hj, hx]
 ·intro j x hx
  have h30 : u.cells.length = 30 := rfl
  have : (u.cells ++ v.cells)[30 + j]? = some x := by rw [List.getElem?_append_right (by omega), h30, Nat.add_sub_cancel_left]; exact hx
  simp [World.cell?, h.blk, this]
theorem TwoB.at_ {W : World} {g d : Nat} {u v : Rn} (h : TwoB W g u v d) : ∀ (j : Nat) (t : Rn), [u, v][j]? = some t → W.rangeAt g (0 + j * 30) t.cells := fun j t ht => by
 match j, ht with
 | 0, ht => simp only [List.getElem?_cons_zero, Option.some.injEq] at ht; subst ht; exact h.rng.1
 | 1, ht => simp only [List.getElem?_cons_succ, List.getElem?_cons_zero, Option.some.injEq] at ht; subst ht; exact h.rng.2
 | j + 2, ht => simp at ht
theorem TwoB.rlb {W : World} {g d : Nat} {u v : Rn} (h : TwoB W g u v d) {a b : Rl} (ha : u.r = a) (hb : v.r = b) : RlB W W.heap.size d (some ⟨g, 0, none⟩) [a, b] := by
 have hr := RlL.row (S := fun b => b < W.heap.size) (d := d) (us := [u, v]) h.lt (fun t ht => by
  simp only [List.mem_cons, List.not_mem_nil, or_false] at ht
  rcases ht with rfl | rfl
  ·exact h.k1.more fun b hb => hb.1
  ·exact h.k2.more fun b hb => hb.1) h.at_
 subst ha; subst hb
 exact hr
theorem TwoB.free {W : World} {g d : Nat} {u v : Rn} (h : TwoB W g u v d) (o : Nat) : W.frozen? ⟨g, o, none⟩ = false := by simp [World.frozen?, h.blk]
theorem TwoB.setP {W : World} {g d : Nat} {u v : Rn} (h : TwoB W g u v d) (n : Int) : TwoB (W.setCell ⟨g, 31, none⟩ (.int .i64 n)) g u (v.setP n) d ∧ W.grownBy (W.setCell ⟨g, 31, none⟩ (.int .i64 n)) (some g) := by
 have hp := put_mid [.int .i64 n] [.int .i64 v.r.pr] (u.cells ++ [.string ⟨v.r.nm.toArray⟩]) (v.r.e1.cells v.A1 v.c1 ++ (v.r.e2.cells v.A2 v.c2 ++ (v.r.e3.cells v.A3 v.c3 ++ v.r.e4.cells v.A4 v.c4))) W h.blk rfl
 have hk : ∀ b, b < W.heap.size ∧ b ≠ g → ∀ o, (W.setCell ⟨g, 31, none⟩ (.int .i64 n)).cell? ⟨b, o, none⟩ = W.cell? ⟨b, o, none⟩ := fun b hb o => grown_cell hp.2 hb.1 (by simp; omega) o
 have hs : W.heap.size ≤ (W.setCell ⟨g, 31, none⟩ (.int .i64 n)).heap.size := hp.2.size
 refine ⟨⟨hp.1, (h.k1.keep hk).more fun b hb => ⟨Nat.lt_of_lt_of_le hb.1 hs, hb.2⟩, ?_⟩, hp.2⟩
 have k := (h.k2.keep hk).more (S' := fun b => b < (W.setCell ⟨g, 31, none⟩ (.int .i64 n)).heap.size ∧ b ≠ g) fun b hb => ⟨Nat.lt_of_lt_of_le hb.1 hs, hb.2⟩
 exact ⟨k.k1, k.k2, k.k3, k.k4⟩
theorem store_22 {ops : Array Oper} {rest : List Oper} {op : Oper} {a : Act} {w : World} {Q : Exit → Act → World → Prop} (g d : Nat) (u v : Rn) (y : Ex) (h : TwoB w g u v d) (hl : y.l = []) (hgd : op.guard = none) (x z : Operand) (hop : op.op = .store 47 x z) (hx : a.eval x = .pointer (some ⟨g, 39, none⟩)) (hy : a.eval z = .agg (y.cells none 0).toArray)
  (hk : ∀ w', TwoB w' g u (v.set2 y none 0) d → w.grownBy w' (some g) → wpList Tryz.prog ops Q rest (a.put op.dst undef) w') : wpList Tryz.prog ops Q (op :: rest) a w := by
 have hp := put_mid (y.cells none 0) (v.r.e2.cells v.A2 v.c2) (u.cells ++ .string ⟨v.r.nm.toArray⟩ :: .int .i64 v.r.pr :: v.r.e1.cells v.A1 v.c1) (v.r.e3.cells v.A3 v.c3 ++ v.r.e4.cells v.A4 v.c4) w h.blk rfl
 refine store_E g 39 (u.cells ++ .string ⟨v.r.nm.toArray⟩ :: .int .i64 v.r.pr :: v.r.e1.cells v.A1 v.c1) (v.r.e2.cells v.A2 v.c2) (v.r.e3.cells v.A3 v.c3 ++ v.r.e4.cells v.A4 v.c4) (y.cells none 0) 49 h.blk rfl rfl rfl (ex_one y none 0) hgd x z hop hx hy (hk _ ?_ hp.2)
 have hkk : ∀ b, b < w.heap.size ∧ b ≠ g → ∀ o, (w.setCells g 39 (y.cells none 0)).cell? ⟨b, o, none⟩ = w.cell? ⟨b, o, none⟩ := fun b hb o => grown_cell hp.2 hb.1 (by simp; omega) o
 have hs : w.heap.size ≤ (w.setCells g 39 (y.cells none 0)).heap.size := hp.2.size
 have k := (h.k2.keep hkk).more (S' := fun b => b < (w.setCells g 39 (y.cells none 0)).heap.size ∧ b ≠ g) fun b hb => ⟨Nat.lt_of_lt_of_le hb.1 hs, hb.2⟩
 exact ⟨hp.1, (h.k1.keep hkk).more fun b hb => ⟨Nat.lt_of_lt_of_le hb.1 hs, hb.2⟩, ⟨k.k1, by rw [show (v.set2 y none 0).r.e2.l = [] from hl]; exact ExL.nil _ _ _ _, k.k3, k.k4⟩⟩
theorem app_G {ops : Array Oper} {rest : List Oper} {o : Oper} {a : Act} {w : World} {Q : Exit → Act → World → Prop} (hgd : o.guard = none) (s x : Tmp)
  (ho : o.op = .call { callee := .builtin .append, args := #[.tmp s, .tmp x], argTypes := #[30, 30] }) (b p cap : Nat) (us : List Rn) (hs : a.eval (.tmp s) = .slice (some ⟨b, p, none⟩) us.length cap) (hu : ∀ (j : Nat) (t : Rn), us[j]? = some t → w.rangeAt b (p + j * 30) t.cells)
  (g k c : Nat) (ts : List Rn) (hx : a.eval (.tmp x) = .slice (some ⟨g, k, none⟩) ts.length c) (hc : ∀ (j : Nat) (t : Rn), ts[j]? = some t → w.rangeAt g (k + j * 30) t.cells) (hfull : cap < us.length + ts.length) (hl : us.length + ts.length < 4294967296)
  (h : ∀ v' w', OwnR w' w.heap.size v' (us ++ ts) → Ext w w' → wpList Tryz.prog ops Q rest (a.put o.dst v') w') : wpList Tryz.prog ops Q (o :: rest) a w := by
 obtain ⟨i0, hi, hz0, hz1, hz2⟩ := info_parts infoR
 have key : ∀ (b p : Nat) (us : List Rn), (∀ (j : Nat) (t : Rn), us[j]? = some t → w.rangeAt b (p + j * 30) t.cells) → ∀ j u, (us.map Rn.cells).flatten[j]? = some u → w.cell? ⟨b, p + j, none⟩ = some u := by
  intro b p us hu j u hj
  have hj' : j < us.length * 30 := by have := (List.getElem?_eq_some_iff.1 hj).1; rw [rns_len] at this; exact this
  have e1 : j = j / 30 * 30 + j % 30 := by omega
  have hq : j / 30 < us.length := by omega
  rw [e1, rns_at us (j / 30) hq (j % 30) (Nat.mod_lt _ (by decide))] at hj
  have := hu (j / 30) us[j / 30] (List.getElem?_eq_getElem hq) (j % 30) u hj
  rw [show p + j / 30 * 30 + j % 30 = p + j by omega] at this
  exact this
 refine wpList_append_grows w hgd _ _ _ ho 49 i0 _ 30 344 Tryz.underlying30 hi hz0 hz1 hz2 rfl (by decide) (some ⟨b, p, none⟩) us.length cap (us.map Rn.cells).flatten hs (fun h => by cases h) (rns_len us) (fun q hq j u hj => ?_) ⟨g, k, none⟩ ts.length c (ts.map Rn.cells).flatten hx (rns_len ts) (fun j u hj => ?_) ?_ hfull ?_ ?_ ?_
 ·simp only [Option.some.injEq] at hq
  subst hq
  rw [Addr.add_mid]
  exact key b p us hu j u hj
 ·rw [Addr.add_mid]
  exact key g k ts hc j u hj
 ·intro u hu
  obtain ⟨l, hl1, hl2⟩ := List.mem_flatten.1 hu
  obtain ⟨t, _, rfl⟩ := List.mem_map.1 hl1
  exact rn_one t u hl2
 ·simp only [maxLen]; omega
 ·omega
 ·intro v' w' h2 h3
  refine h v' w' ?_ (Below.grown (Below.refl _ w) h3 (Nat.le_refl _) (by intro k hk; cases hk))
  unfold OwnR
  simpa using h2
end Go.Proofs.YtmiencglfhpmeaaGreatDoor
