/- Numbers that make expressions: the contracts of the reference's Mod, Draw.Next. -/
import Derived.Test.YtggkkjnfonbpkaaGreatDoorQEe
import Derived.Deep.QuietTactic
import Derived.BigQuiet
import Derived.IntWalk
import Derived.Test.YtggkkjnfonbpkaaGreatDoorQXd

set_option linter.unusedSimpArgs false
set_option linter.unusedVariables false
namespace Go.Proofs.YtggkkjnfonbpkaaGreatDoor
open Go.RowKit Hach

def rmod (n m : Int) : Int := n.tmod m % m
theorem rmod_bd (n : Int) {m : Int} (h : 0 < m) : 0 ≤ rmod n m ∧ rmod n m < m := ⟨Int.emod_nonneg _ (by omega), Int.emod_lt_of_pos _ h⟩
theorem mod_any (n m : Int) (w : World) (h1 : 0 < m) (hm : m < 4294967296) : Calls Tryz.prog 36 #[.int .i64 n, .int .i64 m] w fun e w' => e = .returned (.int .i64 (rmod n m)) ∧ w' = w := by
  have HR := Lib.hid (show rmod n m = n.tmod m % m from rfl)
  obtain ⟨q, hq⟩ : ∃ q, n.tmod m = q := ⟨_, rfl⟩
  rw [hq] at HR
  have b1 : -m < q := by have := Int.lt_tmod_of_pos n h1; omega
  have b2 : q < m := by have := Int.tmod_lt_of_pos n h1; omega
  have k3 : (q + m).tmod m = (q + m) % m := Int.tmod_eq_emod_of_nonneg (by omega)
  have e0 : (m == 0) = false := by rw [beq_eq_false_iff_ne]; omega
  go_enter Tryz.func36, Tryz.ntmps36
  go_wp2_with fail
  go_ret
  exact ⟨by rw [HR.out]; rfl, rfl⟩
/- a block that says which numbers come -/
def DrA (w : World) (b : Nat) : Prop := ∃ (A : Option Addr) (n c t : Nat), w.heap[b]? = some (.cells #[.slice A n c, .int .i64 (t : Int)] 63 (0, 0)) ∧ n < 9223372036854775808 ∧ t ≤ n ∧ (0 < n → ∃ g o, A = some ⟨g, o, none⟩ ∧ g < b ∧ ∀ j, j < n → ∃ x : Int, w.cell? ⟨g, o + j, none⟩ = some (.int .i64 x))
theorem DrA.own {w w' : World} {b : Nat} {r : Option Nat} (h : DrA w b) (hg : w.grownBy w' r) (hr : ∀ g, r = some g → b < g) : DrA w' b := by
  obtain ⟨A, n, c, t, h1, h2, h3, h4⟩ := h
  have hb := (Array.getElem?_eq_some_iff.1 h1).1
  refine ⟨A, n, c, t, (hg.block b hb fun e => by have := hr b e.symm; omega).trans h1, h2, h3, fun hn => ?_⟩
  obtain ⟨g, o, e, k1, k3⟩ := h4 hn
  refine ⟨g, o, e, k1, fun j hj => ?_⟩
  obtain ⟨x, hx⟩ := k3 j hj
  exact ⟨x, (grown_cell hg (by omega) (fun e => by have := hr g e; omega) _).trans hx⟩
theorem DrA.ext {w w' : World} {b : Nat} (h : DrA w b) (hE : Ext w w') : DrA w' b := h.own (grown_of hE none) (fun g e => by cases e)
theorem DrA.lt {w : World} {b : Nat} (h : DrA w b) : b < w.heap.size := by
  obtain ⟨A, n, c, t, h1, _⟩ := h
  exact (Array.getElem?_eq_some_iff.1 h1).1
theorem ext_drewN (w : World) (k : Nat) : Ext w (w.drewN k) := ⟨rfl, rfl, rfl, Nat.le_refl _, fun _ _ => rfl⟩
abbrev dp (b : Nat) : Value := .pointer (some ⟨b, 0, none⟩)
def NextR (m : Int) (b : Nat) (w : World) (e : Ending) (w' : World) : Prop := ∃ k : Int, 0 ≤ k ∧ k < m ∧ e = .returned (.int .i64 k) ∧ DrA w' b ∧ w.grownBy w' (some b)
set_option maxHeartbeats 1000000 in
theorem draw_any (m : Int) (b : Nat) (w : World) (h : DrA w b) (h1 : 0 < m) (hm : m < 4294967296) : Calls Tryz.prog 34 #[dp b, .int .i64 m] w (NextR m b w) := by
  have H0 := Lib.hid h
  obtain ⟨A, n, c, t, hb, hn, ht, hA⟩ := h
  have c0 : w.cell? ⟨b, 0, none⟩ = some (.slice A n c) := by simp [World.cell?, hb]
  have c1 : w.cell? ⟨b, 1, none⟩ = some (.int .i64 (t : Int)) := by simp [World.cell?, hb]
  have f1 : w.frozen? ⟨b, 1, none⟩ = false := by simp [World.frozen?, hb]
  have HM := Lib.hid (fun (x : Int) (W : World) => mod_any x m W h1 hm)
  have HA := Lib.hid hA
  have HB := Lib.hid hb
  have HM1 := Lib.hid h1
  clear hb hA
  unfold dp
  by_cases htn : t < n
  · obtain ⟨g, o, e, k1, k3⟩ := HA.out (by omega)
    have hbs := (Array.getElem?_eq_some_iff.1 HB.out).1
    have k2 : g < w.heap.size := by omega
    obtain ⟨x, hx⟩ := k3 t htn
    subst e
    have tt : decide (n ≤ t) = false := by simp; omega
    have hx1 : (w.setCell ⟨b, 1, none⟩ (.int .i64 ((t : Int) + 1))).cell? ⟨g, o + t, none⟩ = some (.int .i64 x) := by rw [set_cell_other (by omega)]; exact hx
    clear k3 h1 hm
    go_enter Tryz.func34, Tryz.ntmps34
    go_wp2_with fail
    go_quiet (fail)
    go_wp2_with fail
    have hE0 : Ext w (w.drewN nq) := ext_drewN w nq
    have hG0 : w.grownBy ((w.drewN nq).setCell ⟨b, 1, none⟩ (.int .i64 ((t : Int) + 1))) (some b) := grown_trans (grown_of hE0 _) (grown_set _ _ _ _)
    have hb1 : ((w.drewN nq).setCell ⟨b, 1, none⟩ (.int .i64 ((t : Int) + 1))).heap[b]? = some (.cells #[.slice (some ⟨g, o, none⟩) n c, .int .i64 ((t : Int) + 1)] 63 (0, 0)) := by
      have h' := HB.out
      simp [World.setCell, Array.getElem?_modify, h']
    have hg1 : ∀ j, ((w.drewN nq).setCell ⟨b, 1, none⟩ (.int .i64 ((t : Int) + 1))).cell? ⟨g, o + j, none⟩ = w.cell? ⟨g, o + j, none⟩ := fun j => grown_cell hG0 k2 (by simp; omega) _
    have hx2 := (hg1 t).trans hx
    have hs1 := hG0.size
    have HG0 := Lib.hid hG0
    have HG1 := Lib.hid hg1
    have HS1 := Lib.hid hs1
    clear hx hx1 c0 c1 f1 hE0 hG0 hg1 hs1
    generalize (w.drewN nq).setCell ⟨b, 1, none⟩ (.int .i64 ((t : Int) + 1)) = W1 at *
    have c0 : W1.cell? ⟨b, 0, none⟩ = some (.slice (some ⟨g, o, none⟩) n c) := by simp [World.cell?, hb1]
    have c1 : W1.cell? ⟨b, 1, none⟩ = some (.int .i64 ((t : Int) + 1)) := by simp [World.cell?, hb1]
    have e1 : IntKind.i64.wrap ((t : Int) + 1 - 1) = (t : Int) := by rw [Int.add_sub_cancel]; exact IntWalk.i64_in _ (by omega)
    have HB1 := Lib.hid hb1
    clear hb1
    go_quiet ((go_at_call 36; exact Calls.quiet_of_same (HM.out _ _)))
    go_wp2_with fail
    go_ret
    obtain ⟨r1, r2⟩ := rmod_bd x HM1.out
    refine ⟨rmod x m, r1, r2, rfl, ?_, ?_⟩
    · have hD1 : DrA W1 b := ⟨some ⟨g, o, none⟩, n, c, t + 1, by rw [HB1.out]; rfl, hn, by omega, fun _ => ⟨g, o, rfl, k1, fun j hj => by obtain ⟨A', o', e', _, k⟩ := HA.out (by omega); simp only [Option.some.injEq, Addr.mk.injEq, and_true] at e'; obtain ⟨rfl, rfl⟩ := e'; obtain ⟨x', hx'⟩ := k j hj; exact ⟨x', (HG1.out j).trans hx'⟩⟩⟩
      exact hD1.ext (ext_drewN _ _)
    · exact grown_trans HG0.out (grown_of (ext_drewN _ _) _)
  · have tt : decide (n ≤ t) = true := by simp; omega
    clear h1 hm
    go_enter Tryz.func34, Tryz.ntmps34
    go_wp2_with fail
    go_quiet (fail)
    go_wp2_with fail
    go_ret
    exact ⟨0, Int.le_refl _, HM1.out, rfl, H0.out.ext (ext_drewN _ _), grown_of (ext_drewN _ _) _⟩
end Go.Proofs.YtggkkjnfonbpkaaGreatDoor

/- Leaves that numbers make: the contracts of the reference's Texts, leaf. -/
namespace Go.Proofs.YtggkkjnfonbpkaaGreatDoor
open Go.RowKit Hach

/- a block with nothing in it yet; the end of a function whose result lies in one -/
def Z7 (w : World) (blk : Nat) : Prop := w.heap[blk]? = some (.cells zero7 29 (0, 0))
theorem Z7.lt {w : World} {blk : Nat} (h : Z7 w blk) : blk < w.heap.size := (Array.getElem?_eq_some_iff.1 h).1
theorem Z7.own {w w' : World} {blk : Nat} {r : Option Nat} (h : Z7 w blk) (hg : w.grownBy w' r) (hb : some blk ≠ r) : Z7 w' blk := (hg.block blk h.lt hb).trans h
theorem Z7.ext {w w' : World} {blk : Nat} (h : Z7 w blk) (hE : Ext w w') : Z7 w' blk := h.own (grown_of hE none) (by simp)
theorem Z7.new (w : World) : Z7 (w.alloc (.cells zero7 29)) w.heap.size := Go.heap_alloc_new _ _
theorem Z7.cells {w : World} {blk : Nat} (h : Z7 w blk) : w.cell? ⟨blk, 0, none⟩ = some (.int .i64 0) ∧ w.cell? ⟨blk, 1, none⟩ = some (.int .i64 0) ∧ w.cell? ⟨blk, 2, none⟩ = some (.int .i64 0) ∧ w.cell? ⟨blk, 3, none⟩ = some (.int .i64 0) ∧ w.cell? ⟨blk, 4, none⟩ = some (.bool false) ∧ w.cell? ⟨blk, 5, none⟩ = some (.string ⟨#[]⟩) ∧ w.cell? ⟨blk, 6, none⟩ = some (.slice none 0 0) := by
  have h' : w.heap[blk]? = _ := h
  refine ⟨?_, ?_, ?_, ?_, ?_, ?_, ?_⟩ <;> simp [World.cell?, h', zero7]
theorem Z7.free {w : World} {blk : Nat} (h : Z7 w blk) : w.frozen? ⟨blk, 0, none⟩ = false ∧ w.frozen? ⟨blk, 1, none⟩ = false ∧ w.frozen? ⟨blk, 2, none⟩ = false ∧ w.frozen? ⟨blk, 3, none⟩ = false ∧ w.frozen? ⟨blk, 4, none⟩ = false ∧ w.frozen? ⟨blk, 5, none⟩ = false ∧ w.frozen? ⟨blk, 6, none⟩ = false := by
  have h' : w.heap[blk]? = _ := h
  refine ⟨?_, ?_, ?_, ?_, ?_, ?_, ?_⟩ <;> simp [World.frozen?, h']
theorem fin7 {fn : Func} {t : Tmp} (hr : fn.results = #[.cell t 29]) {blk : Nat} {wr : World} {Q : Ending → World → Prop} (x : Ex) (hz : Z7 wr blk) (A : Option Addr) (n c : Nat) (hn : n = x.l.length) {tmps : Array Value} (ht : tmps.getD t undef = .pointer (some ⟨blk, 0, none⟩))
    (hQ : Q (.returned (.agg (x.cells A c).toArray)) (set7 wr blk x (.slice A n c))) : bodyPost Tryz.prog fn Q Exit.ret ⟨tmps, []⟩ (set7 wr blk x (.slice A n c)) := by
  subst hn
  exact bodyPost_ret (results_blk hr (set7_in hz x _) tmps ht) rfl hQ
/- a write into what is new -/
theorem grown_fresh {w wr wf : World} {b blk : Nat} (hg : w.grownBy wr (some b)) (hblk : w.heap.size ≤ blk) (h : wr.grownBy wf (some blk)) : w.grownBy wf (some b) :=
  ⟨h.os.trans hg.os, h.tape.trans hg.tape, h.output.trans hg.output, Nat.le_trans hg.size h.size, fun k hk hne => (h.block k (Nat.lt_of_lt_of_le hk hg.size) (by simp; omega)).trans (hg.block k hk hne)⟩
def LeafR (t : Int) (b : Nat) (w : World) (e : Ending) (w' : World) : Prop := ∃ x : Ex, Rt x t ∧ x.l = [] ∧ e = .returned (.agg (x.cells none 0).toArray) ∧ DrA w' b ∧ w.grownBy w' (some b)
theorem leaf_fin {fn : Func} {s : Tmp} (hr : fn.results = #[.cell s 29]) {b blk : Nat} {w wr : World} {t : Int} (x : Ex) (hx : Rt x t) (hl : x.l = []) (hz : Z7 wr blk) (hblk : w.heap.size ≤ blk) (hb : b < w.heap.size) (hD : DrA wr b) (hg : w.grownBy wr (some b))
    {tmps : Array Value} (ht : tmps.getD s undef = .pointer (some ⟨blk, 0, none⟩)) : bodyPost Tryz.prog fn (LeafR t b w) Exit.ret ⟨tmps, []⟩ (set7 wr blk x (.slice none 0 0)) := by
  have hG := set7_grown wr blk x (.slice none 0 0)
  refine fin7 hr x hz none 0 0 (by rw [hl]; rfl) ht ⟨x, hx, hl, rfl, ?_, grown_fresh hg hblk hG⟩
  exact hD.own hG fun g e => by simp only [Option.some.injEq] at e; omega
theorem alloc2_cell (w : World) (o : Obj) (C : Array Value) (T : TypeId) (j : Nat) (v : Value) (h : C[j]? = some v) : ((w.alloc o).alloc (.cells C T)).cell? ⟨w.heap.size + 1, j, none⟩ = some v := by
  have h1 : w.heap.size + 1 = (w.alloc o).heap.size := by simp
  rw [h1, World.cell?_alloc_new]; exact h
def setV (W : World) (be : Nat) (t n : Int) (b : Bool) (s : ByteArray) : World := (((W.setCell ⟨be, 2, none⟩ (.int .i64 t)).setCell ⟨be, 3, none⟩ (.int .i64 n)).setCell ⟨be, 4, none⟩ (.bool b)).setCell ⟨be, 5, none⟩ (.string s)
theorem setV_grown (W : World) (be : Nat) (t n : Int) (b : Bool) (s : ByteArray) : W.grownBy (setV W be t n b s) (some be) := grown_trans (grown_trans (grown_trans (grown_set _ _ _ _) (grown_set _ _ _ _)) (grown_set _ _ _ _)) (grown_set _ _ _ _)
abbrev con0 : Ex := .mk 1 0 0 0 false [] []
theorem InBlk.freeAll {w : World} {b : Nat} {x : Ex} {v : Value} (h : InBlk w b x v) : w.frozen? ⟨b, 0, none⟩ = false ∧ w.frozen? ⟨b, 1, none⟩ = false ∧ w.frozen? ⟨b, 2, none⟩ = false ∧ w.frozen? ⟨b, 3, none⟩ = false ∧ w.frozen? ⟨b, 4, none⟩ = false ∧ w.frozen? ⟨b, 5, none⟩ = false ∧ w.frozen? ⟨b, 6, none⟩ = false := ⟨h.free 0, h.free 1, h.free 2, h.free 3, h.free 4, h.free 5, h.free 6⟩
theorem con0_cells {w : World} {b : Nat} {v : Value} (h : InBlk w b con0 v) : w.cell? ⟨b, 0, none⟩ = some (.int .i64 1) ∧ w.cell? ⟨b, 1, none⟩ = some (.int .i64 0) ∧ w.cell? ⟨b, 2, none⟩ = some (.int .i64 0) ∧ w.cell? ⟨b, 3, none⟩ = some (.int .i64 0) ∧ w.cell? ⟨b, 4, none⟩ = some (.bool false) ∧ w.cell? ⟨b, 5, none⟩ = some (.string ⟨#[]⟩) ∧ w.cell? ⟨b, 6, none⟩ = some v := h.cells
theorem setV_in {w : World} {b : Nat} {o v ty n : Int} {bb : Bool} {s : List UInt8} {l : List Ex} {u : Value} (h : InBlk w b (.mk o v ty n bb s l) u) (t' n' : Int) (b' : Bool) (q : List UInt8) : InBlk (setV w b t' n' b' ⟨q.toArray⟩) b (.mk o v t' n' b' q l) u := by
  have h' : w.heap[b]? = _ := h
  simp [InBlk, setV, World.setCell, Array.getElem?_modify, h', cell7, Ex.op, Ex.var, Ex.ty, Ex.n, Ex.b, Ex.s]
theorem setV_all {w wr : World} {b be blk : Nat} (hI : InBlk wr be con0 (.slice none 0 0)) (hz : Z7 wr blk) (hne : be ≠ blk) (hD : DrA wr b) (hbe : b < be) (hg : w.grownBy wr (some b)) (hw : w.heap.size ≤ be) (t n : Int) (bb : Bool) (q : List UInt8) (hr : vlRight ⟨t, n, bb, q⟩ = true) :
    ∃ W, W = setV wr be t n bb ⟨q.toArray⟩ ∧ InBlk W be (.mk 1 0 t n bb q []) (.slice none 0 0) ∧ Z7 W blk ∧ DrA W b ∧ w.grownBy W (some b) ∧ Rt (.mk 1 0 t n bb q []) t := by
  have hG := setV_grown wr be t n bb ⟨q.toArray⟩
  exact ⟨_, rfl, setV_in hI t n bb q, hz.own hG (by simp; omega), hD.own hG (fun g e => by simp only [Option.some.injEq] at e; omega), grown_fresh hg hw hG, Rt.con ⟨t, n, bb, q⟩ hr⟩
theorem con_cells {w : World} {b : Nat} {t n : Int} {bb : Bool} {q : List UInt8} {v : Value} (h : InBlk w b (.mk 1 0 t n bb q []) v) : w.cell? ⟨b, 0, none⟩ = some (.int .i64 1) ∧ w.cell? ⟨b, 1, none⟩ = some (.int .i64 0) ∧ w.cell? ⟨b, 2, none⟩ = some (.int .i64 t) ∧ w.cell? ⟨b, 3, none⟩ = some (.int .i64 n) ∧ w.cell? ⟨b, 4, none⟩ = some (.bool bb) ∧ w.cell? ⟨b, 5, none⟩ = some (.string ⟨q.toArray⟩) ∧ w.cell? ⟨b, 6, none⟩ = some v := h.cells
def txtL : List (List UInt8) := [[], [116, 114, 101, 101], [102, 105, 101, 108, 100], [112, 97, 116, 104], [77, 111, 111, 114], [71, 97, 116, 101]]
theorem texts_any (w : World) : Calls Tryz.prog 38 #[] w fun e w' => e = .returned (.slice (some ⟨w.heap.size, 0, none⟩) 6 6) ∧ (∀ j, j < 6 → w'.cell? ⟨w.heap.size, j, none⟩ = some (.string ⟨(txtL.getD j []).toArray⟩)) ∧ w.heap.size < w'.heap.size ∧ Ext w w' := by
  go_enter Tryz.func38, Tryz.ntmps38
  go_wp2_with fail
  go_ret
  refine ⟨rfl, fun j hj => ?_, by simp, Ext.alloc _ _⟩
  rw [World.cell?_alloc_new]
  rcases (by omega : j = 0 ∨ j = 1 ∨ j = 2 ∨ j = 3 ∨ j = 4 ∨ j = 5) with rfl | rfl | rfl | rfl | rfl | rfl <;> rfl
/- the first variable of a type -/
def lead (t : Int) : Nat := if t = 1 then 1 else if t = 2 then 6 else 2
theorem lead_pos (t : Int) : 1 ≤ lead t ∧ lead t ≤ 6 := by unfold lead; split; omega; split <;> omega
theorem lead_ty {t : Int} (h : 1 ≤ t ∧ t ≤ 3) : varTy (lead t : Nat) = t := by
  rcases (by omega : t = 1 ∨ t = 2 ∨ t = 3) with rfl | rfl | rfl <;> decide
set_option maxRecDepth 100000 in
set_option maxHeartbeats 4000000 in
theorem leaf_any (t : Int) (ht : 1 ≤ t ∧ t ≤ 3) (b : Nat) (w : World) (hD : DrA w b) : Calls Tryz.prog 49 #[dp b, .int .i64 t] w (LeafR t b w) := by
  have hbl := hD.lt
  have hz := Z7.new w
  obtain ⟨w0, hw0⟩ : ∃ w0, w.alloc (.cells zero7 29) = w0 := ⟨_, rfl⟩
  have hE0 : Ext w w0 := by rw [← hw0]; exact Ext.alloc _ _
  have hs0 : w0.heap.size = w.heap.size + 1 := by rw [← hw0]; simp
  rw [hw0] at hz
  have hD0 := hD.ext hE0
  have HW := Lib.hid hw0
  have HS0 := Lib.hid hs0
  have hG0 : w.grownBy w0 (some b) := grown_of hE0 _
  have DN := Lib.hid (fun (m : Int) (W : World) (h : DrA W b) (h1 : 0 < m) (h2 : m < 4294967296) => draw_any m b W h h1 h2)
  unfold zero7 at HW
  unfold dp at *
  clear hw0 hs0 hD
  go_enter Tryz.func49, Tryz.ntmps49
  go_upto_region 1 with fail
  rw [HW.out]
  go_wp2_with fail
  refine (DN.out 2 _ hD0 (by decide) (by decide)).mono ?_
  rintro e w1 ⟨k, k1, k2, rfl, hD1, hg1⟩
  have hz1 := hz.own hg1 (by simp; omega)
  have hw1 : w.heap.size + 1 ≤ w1.heap.size := by have h1 := HS0.out; have h2 := hg1.size; omega
  by_cases hk : k = 0
  · subst hk
    have hB1 : b < w1.heap.size := by omega
    go_wp2_with fail
    go_loopw [5, 6] (fun lv kv wr => ∃ (k : Nat) (us : List Value), 1 ≤ k ∧ k ≤ 10 ∧ kv = .int .i64 k ∧ OwnC 3 wr w1.heap.size lv us ∧ Hid (∀ u ∈ us, ∃ n : Int, u = .int .i64 n ∧ (1 ≤ n ∧ n ≤ 9) ∧ varTy n = t) ∧ us.length < k ∧ (lead t < k → 0 < us.length) ∧ Ext w1 wr) (fun _ kv _ => 10 - (intOf kv).toNat)
    case atStart => exact ⟨1, [], Nat.le_refl _, by omega, rfl, OwnC.nil _ _ _, Lib.hid (fun v h => by cases h), by simp, fun h => by have := lead_pos t; omega, Ext.refl _⟩
    case round =>
      obtain ⟨k, us, hk1, hk2, rfl, hO, hus, hlen, hld, hE⟩ := hrel
      obtain ⟨A0, c0, e, hR⟩ := hO.form
      subst e
      by_cases hlt : k ≤ 9
      · have VT := Lib.hid (varType_any (k : Int) wr)
        clear hR
        by_cases hv : varTy (k : Int) = t
        · have tv : (varTy (k : Int) == t) = true := by rw [hv]; simp
          have HV := Lib.hid hv
          clear hv
          go_wp2_with fail
          refine VT.out.mono ?_
          rintro e w2 ⟨rfl, hE2⟩
          have hEa : Ext w2 (w2.alloc (.cells #[.int .i64 (k : Int)] 3)) := Ext.alloc _ _
          have hOa := (hO.ext hE2).ext hEa
          have hEb := (hE.trans hE2).trans hEa
          have hba : w1.heap.size ≤ (w2.alloc (.cells #[.int .i64 (k : Int)] 3)).heap.size := hEb.sz
          have hus4 : us.length < 4294967296 := by omega
          have HCG := Lib.hid (show (w2.alloc (.cells #[.int .i64 (k : Int)] 3)).cell? ⟨w2.heap.size, 0, none⟩ = some (.int .i64 (k : Int)) by rw [World.cell?_alloc_new]; rfl)
          clear hO hE hE2 hEa VT
          go_wp2_with (at_builtin; refine app_C ctyI rfl 19 21 rfl w1.heap.size (.slice A0 us.length c0) us rfl hOa w2.heap.size (.int .i64 (k : Int)) rfl HCG.out rfl hus4 hba ?_; intro v1 wb hO2 hg2)
          go_roundw
          case rel =>
            refine ⟨k + 1, us ++ [.int .i64 (k : Int)], by omega, by omega, by go_num, hO2, Lib.hid (fun u hu => ?_), by simp; omega, fun _ => by simp, Below.trans hEb (below_row' hg2 hba fun g e => (hOa.lt g e).1)⟩
            rcases List.mem_append.1 hu with hu | hu
            · exact hus.out u hu
            · rw [List.mem_singleton] at hu
              exact ⟨k, hu, by omega, HV.out⟩
          case measure => simp [intOf]; omega
        · have tv : (varTy (k : Int) == t) = false := by rw [beq_eq_false_iff_ne]; exact hv
          have hle : lead t ≠ k := fun e => hv (by rw [← e]; exact lead_ty ht)
          clear hv
          go_wp2_with fail
          refine VT.out.mono ?_
          rintro e w2 ⟨rfl, hE2⟩
          go_wp2_with fail
          go_roundw
          case rel => exact ⟨k + 1, us, by omega, by omega, by go_num, hO.ext hE2, hus, by omega, fun h => hld (by omega), hE.trans hE2⟩
          case measure => simp [intOf]; omega
      · obtain rfl : k = 10 := by omega
        have hpos : 0 < us.length := hld (by have := lead_pos t; omega)
        obtain ⟨b0, e0, hb0, hc0⟩ := hR (by intro e; rw [e] at hpos; simp at hpos)
        subst e0
        have hb1 := (hO.lt b0 rfl).1
        have hDr := hD1.ext hE
        have hzr := hz1.ext hE
        have hGr := grown_trans (grown_trans hG0 hg1) (grown_of hE (some b))
        obtain ⟨n, hn⟩ : ∃ n, us.length = n := ⟨_, rfl⟩
        have HN := Lib.hid hn
        rw [hn] at hpos hlen ⊢
        clear hO hld hlt hR hn hE
        go_wp2_with fail
        refine (DN.out (n : Int) _ hDr (by omega) (by omega)).mono ?_
        rintro e w3 ⟨j, j1, j2, rfl, hD3, hg3⟩
        obtain ⟨j, rfl⟩ := Int.eq_ofNat_of_zero_le j1
        have hjl : j < us.length := by rw [HN.out]; omega
        obtain ⟨v, hv, hv9, hvt⟩ := hus.out us[j] (List.getElem_mem hjl)
        have hcv : w3.cell? ⟨b0, j, none⟩ = some (.int .i64 v) := (grown_cell hg3 hb0 (by simp; omega) j).trans ((hc0 j us[j] (List.getElem?_eq_getElem hjl)).trans (by rw [hv]))
        have hz3 := hzr.own hg3 (by simp; omega)
        have hG3 := grown_trans hGr hg3
        have HVT := Lib.hid hvt
        obtain ⟨u0, u1, u2, u3, u4, u5, u6⟩ := hz3.cells
        obtain ⟨f0, f1, f2, f3, f4, f5, f6⟩ := hz3.free
        clear hc0 hv hvt hjl hus
        go_wp2_with fail
        exact leaf_fin rfl (.mk 2 v 0 0 false [] []) (by have := Rt.var v hv9; rw [HVT.out] at this; exact this) rfl hz3 (Nat.le_refl _) hbl hD3 hG3 rfl
  · have tk : (k == 0) = false := by rw [beq_eq_false_iff_ne]; exact hk
    clear hk
    have hEe : Ext w1 (w1.alloc (.cells #[.int .i64 1, .int .i64 0, .int .i64 0, .int .i64 0, .bool false, .string ⟨#[]⟩, .slice none 0 0] 29)) := Ext.alloc _ _
    rcases (by omega : t = 1 ∨ t = 2 ∨ t = 3) with rfl | rfl | rfl
    · clear ht
      have hDe := (hD1.ext hEe).ext (Ext.alloc _ (.cells #[.int .i64 0, .int .i64 1, .int .i64 2, .int .i64 3, .int .i64 9, .int .i64 32, .int .i64 (-1), .int .i64 (-7), .int .i64 1000, .int .i64 1073741824, .int .i64 (-1073741824)] 3))
      go_wp2_with fail
      refine (DN.out 11 _ hDe (by decide) (by decide)).mono ?_
      rintro e w3 ⟨j, j1, j2, rfl, hD3, hg3⟩
      obtain ⟨j, rfl⟩ := Int.eq_ofNat_of_zero_le j1
      have hv : ∃ n : Int, w3.cell? ⟨w1.heap.size + 1, j, none⟩ = some (.int .i64 n) ∧ vlRight ⟨1, n, false, []⟩ = true := by
        have key : ∀ v, (#[.int .i64 0, .int .i64 1, .int .i64 2, .int .i64 3, .int .i64 9, .int .i64 32, .int .i64 (-1), .int .i64 (-7), .int .i64 1000, .int .i64 1073741824, .int .i64 (-1073741824)] : Array Value)[j]? = some v → w3.cell? ⟨w1.heap.size + 1, j, none⟩ = some v := fun v hv => by
          rw [grown_cell hg3 (by simp) (by simp; omega)]
          exact alloc2_cell _ _ _ _ _ _ hv
        rcases (by omega : j = 0 ∨ j = 1 ∨ j = 2 ∨ j = 3 ∨ j = 4 ∨ j = 5 ∨ j = 6 ∨ j = 7 ∨ j = 8 ∨ j = 9 ∨ j = 10) with rfl | rfl | rfl | rfl | rfl | rfl | rfl | rfl | rfl | rfl | rfl <;> exact ⟨_, key _ rfl, by decide⟩
      obtain ⟨n, hv, hr⟩ := hv
      have hI3 := ((InBlk.new w1 con0 (.slice none 0 0)).ext (Ext.alloc _ _)).own hg3 (by simp; omega)
      have hz3 := ((hz1.ext hEe).ext (Ext.alloc _ _)).own hg3 (by simp; omega)
      have hG3 := grown_trans (grown_trans (grown_trans (grown_trans hG0 hg1) (grown_of hEe _)) (grown_of (Ext.alloc _ _) _)) hg3
      have hs1 := hg1.size
      have HR := Lib.hid hr
      clear hr hDe
      go_wp2_with fail
      refine (rInt_any _ _).mono ?_
      rintro e w4 ⟨rfl, hE4⟩
      have hI4 := hI3.ext hE4
      have hz4 := hz3.ext hE4
      obtain ⟨c0, c1, c2, c3, c4, c5, c6⟩ := con0_cells hI4
      obtain ⟨q0, q1, q2, q3, q4, q5, q6⟩ := hI4.freeAll
      obtain ⟨w5, hw5, hI5, hz5, hD5, hG5, hR5⟩ := setV_all (w := w) (b := b) hI4 hz4 (by omega) (hD3.ext hE4) (by omega) (grown_trans hG3 (grown_of hE4 _)) (by omega) 1 n false [] HR.out
      have HW5 := Lib.hid hw5
      have HR5 := Lib.hid hR5
      clear hw5 hR5
      go_upto_region 17 with fail
      show Code.wp _ _ _ _ (setV w4 w1.heap.size 1 n false ⟨([] : List UInt8).toArray⟩)
      rw [← HW5.out]
      clear c0 c1 c2 c3 c4 c5 c6 q0 q1 q2 q3 q4 q5 q6
      obtain ⟨c0, c1, c2, c3, c4, c5, c6⟩ := con_cells hI5
      obtain ⟨u0, u1, u2, u3, u4, u5, u6⟩ := hz5.cells
      obtain ⟨f0, f1, f2, f3, f4, f5, f6⟩ := hz5.free
      go_wp2_with fail
      exact leaf_fin rfl (.mk 1 0 1 n false [] []) HR5.out rfl hz5 (Nat.le_refl _) hbl hD5 hG5 rfl
    · clear ht
      have hDe := (hD1.ext hEe)
      go_wp2_with fail
      refine (DN.out 2 _ hDe (by decide) (by decide)).mono ?_
      rintro e w3 ⟨j, j1, j2, rfl, hD3, hg3⟩
      have hI3 := (InBlk.new w1 con0 (.slice none 0 0)).own hg3 (by simp; have := hg1.size; have := HS0.out; omega)
      have hz3 := (hz1.ext hEe).own hg3 (by simp; omega)
      have hG3 := grown_trans (grown_trans (grown_trans hG0 hg1) (grown_of hEe _)) hg3
      have hs1 := hg1.size
      clear hDe
      go_wp2_with fail
      refine (rBool_any _ _).mono ?_
      rintro e w4 ⟨rfl, hE4⟩
      have hI4 := hI3.ext hE4
      have hz4 := hz3.ext hE4
      obtain ⟨c0, c1, c2, c3, c4, c5, c6⟩ := con0_cells hI4
      obtain ⟨q0, q1, q2, q3, q4, q5, q6⟩ := hI4.freeAll
      obtain ⟨w5, hw5, hI5, hz5, hD5, hG5, hR5⟩ := setV_all (w := w) (b := b) hI4 hz4 (by omega) (hD3.ext hE4) (by omega) (grown_trans hG3 (grown_of hE4 _)) (by omega) 2 0 (j == 1) [] rfl
      have HW5 := Lib.hid hw5
      have HR5 := Lib.hid hR5
      clear hw5 hR5
      go_upto_region 17 with fail
      show Code.wp _ _ _ _ (setV w4 w1.heap.size 2 0 (j == 1) ⟨([] : List UInt8).toArray⟩)
      rw [← HW5.out]
      clear c0 c1 c2 c3 c4 c5 c6 q0 q1 q2 q3 q4 q5 q6
      obtain ⟨c0, c1, c2, c3, c4, c5, c6⟩ := con_cells hI5
      obtain ⟨u0, u1, u2, u3, u4, u5, u6⟩ := hz5.cells
      obtain ⟨f0, f1, f2, f3, f4, f5, f6⟩ := hz5.free
      go_wp2_with fail
      exact leaf_fin rfl (.mk 1 0 2 0 (j == 1) [] []) HR5.out rfl hz5 (Nat.le_refl _) hbl hD5 hG5 rfl
    · clear ht
      go_wp2_with fail
      refine (texts_any _).mono ?_
      rintro e w2 ⟨rfl, hrow, hsz2, hE2⟩
      have hDe := (hD1.ext hEe).ext hE2
      go_wp2_with fail
      refine (DN.out 6 _ hDe (by decide) (by decide)).mono ?_
      rintro e w3 ⟨j, j1, j2, rfl, hD3, hg3⟩
      obtain ⟨j, rfl⟩ := Int.eq_ofNat_of_zero_le j1
      have hs1 := hg1.size
      have hv : ∃ s : List UInt8, w3.cell? ⟨w1.heap.size + 1, j, none⟩ = some (.string ⟨s.toArray⟩) ∧ vlRight ⟨3, 0, false, s⟩ = true := by
        rw [World.size_alloc] at hrow hsz2
        have h1 := (grown_cell hg3 hsz2 (by simp; omega) j).trans (hrow j (by omega))
        refine ⟨_, h1, ?_⟩
        rcases (by omega : j = 0 ∨ j = 1 ∨ j = 2 ∨ j = 3 ∨ j = 4 ∨ j = 5) with rfl | rfl | rfl | rfl | rfl | rfl <;> decide
      obtain ⟨s, hv, hr⟩ := hv
      have hI3 := ((InBlk.new w1 con0 (.slice none 0 0)).ext hE2).own hg3 (by simp; have := HS0.out; omega)
      have hz3 := ((hz1.ext hEe).ext hE2).own hg3 (by simp; omega)
      have hG3 := grown_trans (grown_trans (grown_trans (grown_trans hG0 hg1) (grown_of hEe _)) (grown_of hE2 _)) hg3
      have HR := Lib.hid hr
      clear hr hDe hrow
      go_wp2_with fail
      refine (rString_any _ _).mono ?_
      rintro e w4 ⟨rfl, hE4⟩
      have hI4 := hI3.ext hE4
      have hz4 := hz3.ext hE4
      obtain ⟨c0, c1, c2, c3, c4, c5, c6⟩ := con0_cells hI4
      obtain ⟨q0, q1, q2, q3, q4, q5, q6⟩ := hI4.freeAll
      obtain ⟨w5, hw5, hI5, hz5, hD5, hG5, hR5⟩ := setV_all (w := w) (b := b) hI4 hz4 (by omega) (hD3.ext hE4) (by omega) (grown_trans hG3 (grown_of hE4 _)) (by omega) 3 0 false s HR.out
      have HW5 := Lib.hid hw5
      have HR5 := Lib.hid hR5
      clear hw5 hR5
      go_upto_region 17 with fail
      show Code.wp _ _ _ _ (setV w4 w1.heap.size 3 0 false ⟨s.toArray⟩)
      rw [← HW5.out]
      clear c0 c1 c2 c3 c4 c5 c6 q0 q1 q2 q3 q4 q5 q6
      obtain ⟨c0, c1, c2, c3, c4, c5, c6⟩ := con_cells hI5
      obtain ⟨u0, u1, u2, u3, u4, u5, u6⟩ := hz5.cells
      obtain ⟨f0, f1, f2, f3, f4, f5, f6⟩ := hz5.free
      go_wp2_with fail
      exact leaf_fin rfl (.mk 1 0 3 0 false s []) HR5.out rfl hz5 (Nat.le_refl _) hbl hD5 hG5 rfl
end Go.Proofs.YtggkkjnfonbpkaaGreatDoor
