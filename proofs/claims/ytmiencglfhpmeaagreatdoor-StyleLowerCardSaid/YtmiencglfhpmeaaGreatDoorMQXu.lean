/- Numbers that make expressions: the contracts of the reference's Mod, Draw.Next. -/
import Derived.Test.YtmiencglfhpmeaaGreatDoorMQXb
import Derived.Deep.QuietTactic
import Derived.BigQuiet
import Derived.IntWalk
import Derived.Test.YtmiencglfhpmeaaGreatDoorMQXf
import Derived.Test.YtmiencglfhpmeaaGreatDoorMQXo
import Derived.Test.YtmiencglfhpmeaaGreatDoorMQXc
import Derived.Test.YtmiencglfhpmeaaGreatDoorMQXg
import Derived.Test.YtmiencglfhpmeaaGreatDoorMQXa
set_option linter.unusedSimpArgs false
set_option linter.unusedVariables false
namespace Go.Proofs.YtmiencglfhpmeaaGreatDoor
open Go.RowKit Hach
def rmod (n m : Int) : Int := n.tmod m % m
theorem rmod_bd (n : Int) {m : Int} (h : 0 < m) : 0 ≤ rmod n m ∧ rmod n m < m := ⟨Int.emod_nonneg _ (by omega), Int.emod_lt_of_pos _ h⟩
theorem mod_any (n m : Int) (w : World) (h1 : 0 < m) (hm : m < 4294967296) : Calls Tryz.prog 73 #[.int .i64 n, .int .i64 m] w fun e w' => e = .returned (.int .i64 (rmod n m)) ∧ w' = w := by
 have HR := Lib.hid (show rmod n m = n.tmod m % m from rfl)
 obtain ⟨q, hq⟩ : ∃ q, n.tmod m = q := ⟨_, rfl⟩
 rw [hq] at HR
 have b1 : -m < q := by have := Int.lt_tmod_of_pos n h1; omega
 have b2 : q < m := by have := Int.tmod_lt_of_pos n h1; omega
 have k3 : (q + m).tmod m = (q + m) % m := Int.tmod_eq_emod_of_nonneg (by omega)
 have e0 : (m == 0) = false := by rw [beq_eq_false_iff_ne]; omega
 go_enter Tryz.func73, Tryz.ntmps73
 go_wp2_with fail
 go_ret
 exact ⟨by rw [HR.out]; rfl, rfl⟩
def DrA (w : World) (b : Nat) : Prop := ∃ (A : Option Addr) (n c t : Nat), w.heap[b]? = some (.cells #[.slice A n c, .int .i64 (t : Int)] 86 (0, 0)) ∧ n < 9223372036854775808 ∧ t ≤ n ∧ (0 < n → ∃ g o, A = some ⟨g, o, none⟩ ∧ g < b ∧ ∀ j, j < n → ∃ x : Int, w.cell? ⟨g, o + j, none⟩ = some (.int .i64 x))
theorem DrA.own {w w' : World} {b : Nat} {r : Option Nat} (h : DrA w b) (hg : w.grownBy w' r) (hr : ∀ g, r = some g → b < g) : DrA w' b := by
 obtain ⟨A, n, c, t, h1, h2, h3, h4⟩ := h
 have hb := (Array.getElem?_eq_some_iff.1 h1).1
 refine ⟨A, n, c, t, (hg.block b hb fun e => by have := hr b e.symm; omega).trans h1, h2, h3, fun hn => ?_⟩
 obtain ⟨g, o, e, k1, k3⟩ := h4 hn
 refine ⟨g, o, e, k1, fun j hj => ?_⟩
 obtain ⟨x, hx⟩ := k3 j hj
 exact ⟨x, (grown_cell hg (by omega) (fun e => by have := hr g e; omega) _).trans hx⟩
theorem DrA.ext {w w' : World} {b : Nat} (h : DrA w b) (hE : Ext w w') : DrA w' b := h.own (grown_of hE none) (fun g e => by cases e)
theorem DrA.lt {w : World} {b : Nat} (h : DrA w b) : b < w.heap.size := by
 obtain ⟨A, n, c, t, h1, _⟩ := h
 exact (Array.getElem?_eq_some_iff.1 h1).1
theorem ext_drewN (w : World) (k : Nat) : Ext w (w.drewN k) := ⟨rfl, rfl, rfl, Nat.le_refl _, fun _ _ => rfl⟩
abbrev dp (b : Nat) : Value := .pointer (some ⟨b, 0, none⟩)
def NextR (m : Int) (b : Nat) (w : World) (e : Ending) (w' : World) : Prop := ∃ k : Int, 0 ≤ k ∧ k < m ∧ e = .returned (.int .i64 k) ∧ DrA w' b ∧ w.grownBy w' (some b)
set_option maxHeartbeats 1000000 in
theorem draw_any (m : Int) (b : Nat) (w : World) (h : DrA w b) (h1 : 0 < m) (hm : m < 4294967296) : Calls Tryz.prog 36 #[dp b, .int .i64 m] w (NextR m b w) := by
 have H0 := Lib.hid h
 obtain ⟨A, n, c, t, hb, hn, ht, hA⟩ := h
 have c0 : w.cell? ⟨b, 0, none⟩ = some (.slice A n c) := by simp [World.cell?, hb]
 have c1 : w.cell? ⟨b, 1, none⟩ = some (.int .i64 (t : Int)) := by simp [World.cell?, hb]
 have f1 : w.frozen? ⟨b, 1, none⟩ = false := by simp [World.frozen?, hb]
 have HM := Lib.hid (fun (x : Int) (W : World) => mod_any x m W h1 hm)
 have HA := Lib.hid hA
 have HB := Lib.hid hb
 have HM1 := Lib.hid h1
 clear hb hA
 unfold dp
 by_cases htn : t < n
 ·obtain ⟨g, o, e, k1, k3⟩ := HA.out (by omega)
  have hbs := (Array.getElem?_eq_some_iff.1 HB.out).1
  have k2 : g < w.heap.size := by omega
  obtain ⟨x, hx⟩ := k3 t htn
  subst e
  have tt : decide (n ≤ t) = false := by simp; omega
  have hx1 : (w.setCell ⟨b, 1, none⟩ (.int .i64 ((t : Int) + 1))).cell? ⟨g, o + t, none⟩ = some (.int .i64 x) := by rw [set_cell_other (by omega)]; exact hx
  clear k3 h1 hm
  go_enter Tryz.func36, Tryz.ntmps36
  go_wp2_with fail
  go_quiet (fail)
  go_wp2_with fail
  have hE0 : Ext w (w.drewN nq) := ext_drewN w nq
  have hG0 : w.grownBy ((w.drewN nq).setCell ⟨b, 1, none⟩ (.int .i64 ((t : Int) + 1))) (some b) := grown_trans (grown_of hE0 _) (grown_set _ _ _ _)
  have hb1 : ((w.drewN nq).setCell ⟨b, 1, none⟩ (.int .i64 ((t : Int) + 1))).heap[b]? = some (.cells #[.slice (some ⟨g, o, none⟩) n c, .int .i64 ((t : Int) + 1)] 86 (0, 0)) := by
   have h' := HB.out
   simp [World.setCell, Array.getElem?_modify, h']
  have hg1 : ∀ j, ((w.drewN nq).setCell ⟨b, 1, none⟩ (.int .i64 ((t : Int) + 1))).cell? ⟨g, o + j, none⟩ = w.cell? ⟨g, o + j, none⟩ := fun j => grown_cell hG0 k2 (by simp; omega) _
  have hx2 := (hg1 t).trans hx
  have hs1 := hG0.size
  have HG0 := Lib.hid hG0
  have HG1 := Lib.hid hg1
  have HS1 := Lib.hid hs1
  clear hx hx1 c0 c1 f1 hE0 hG0 hg1 hs1
  generalize (w.drewN nq).setCell ⟨b, 1, none⟩ (.int .i64 ((t : Int) + 1)) = W1 at *
  have c0 : W1.cell? ⟨b, 0, none⟩ = some (.slice (some ⟨g, o, none⟩) n c) := by simp [World.cell?, hb1]
  have c1 : W1.cell? ⟨b, 1, none⟩ = some (.int .i64 ((t : Int) + 1)) := by simp [World.cell?, hb1]
  have e1 : IntKind.i64.wrap ((t : Int) + 1 - 1) = (t : Int) := by rw [Int.add_sub_cancel]; exact IntWalk.i64_in _ (by omega)
  have HB1 := Lib.hid hb1
  clear hb1
  go_quiet ((go_at_call 73; exact Calls.quiet_of_same (HM.out _ _)))
  go_wp2_with fail
  go_ret
  obtain ⟨r1, r2⟩ := rmod_bd x HM1.out
  refine ⟨rmod x m, r1, r2, rfl, ?_, ?_⟩
  ·have hD1 : DrA W1 b := ⟨some ⟨g, o, none⟩, n, c, t + 1, by rw [HB1.out]; rfl, hn, by omega, fun _ => ⟨g, o, rfl, k1, fun j hj => by obtain ⟨A', o', e', _, k⟩ := HA.out (by omega); simp only [Option.some.injEq, Addr.mk.injEq, and_true] at e'; obtain ⟨rfl, rfl⟩ := e'; obtain ⟨x', hx'⟩ := k j hj; exact ⟨x', (HG1.out j).trans hx'⟩⟩⟩
   exact hD1.ext (ext_drewN _ _)
  ·exact grown_trans HG0.out (grown_of (ext_drewN _ _) _)
 ·have tt : decide (n ≤ t) = true := by simp; omega
  clear h1 hm
  go_enter Tryz.func36, Tryz.ntmps36
  go_wp2_with fail
  go_quiet (fail)
  go_wp2_with fail
  go_ret
  exact ⟨0, Int.le_refl _, HM1.out, rfl, H0.out.ext (ext_drewN _ _), grown_of (ext_drewN _ _) _⟩
end Go.Proofs.YtmiencglfhpmeaaGreatDoor
namespace Go.Proofs.YtmiencglfhpmeaaGreatDoor
open Go.RowKit Hach
def Z7 (w : World) (blk : Nat) : Prop := w.heap[blk]? = some (.cells zero7 47 (0, 0))
theorem Z7.lt {w : World} {blk : Nat} (h : Z7 w blk) : blk < w.heap.size := (Array.getElem?_eq_some_iff.1 h).1
theorem Z7.own {w w' : World} {blk : Nat} {r : Option Nat} (h : Z7 w blk) (hg : w.grownBy w' r) (hb : some blk ≠ r) : Z7 w' blk := (hg.block blk h.lt hb).trans h
theorem Z7.ext {w w' : World} {blk : Nat} (h : Z7 w blk) (hE : Ext w w') : Z7 w' blk := h.own (grown_of hE none) (by simp)
theorem Z7.new (w : World) : Z7 (w.alloc (.cells zero7 47)) w.heap.size := Go.heap_alloc_new _ _
theorem Z7.cells {w : World} {blk : Nat} (h : Z7 w blk) : w.cell? ⟨blk, 0, none⟩ = some (.int .i64 0) ∧ w.cell? ⟨blk, 1, none⟩ = some (.int .i64 0) ∧ w.cell? ⟨blk, 2, none⟩ = some (.int .i64 0) ∧ w.cell? ⟨blk, 3, none⟩ = some (.int .i64 0) ∧ w.cell? ⟨blk, 4, none⟩ = some (.bool false) ∧ w.cell? ⟨blk, 5, none⟩ = some (.string ⟨#[]⟩) ∧ w.cell? ⟨blk, 6, none⟩ = some (.slice none 0 0) := by
 have h' : w.heap[blk]? = _ := h
 refine ⟨?_, ?_, ?_, ?_, ?_, ?_, ?_⟩ <;> simp [World.cell?, h', zero7]
theorem Z7.free {w : World} {blk : Nat} (h : Z7 w blk) : w.frozen? ⟨blk, 0, none⟩ = false ∧ w.frozen? ⟨blk, 1, none⟩ = false ∧ w.frozen? ⟨blk, 2, none⟩ = false ∧ w.frozen? ⟨blk, 3, none⟩ = false ∧ w.frozen? ⟨blk, 4, none⟩ = false ∧ w.frozen? ⟨blk, 5, none⟩ = false ∧ w.frozen? ⟨blk, 6, none⟩ = false := by
 have h' : w.heap[blk]? = _ := h
 refine ⟨?_, ?_, ?_, ?_, ?_, ?_, ?_⟩ <;> simp [World.frozen?, h']
theorem fin7 {fn : Func} {t : Tmp} (hr : fn.results = #[.cell t 47]) {blk : Nat} {wr : World} {Q : Ending → World → Prop} (x : Ex) (hz : Z7 wr blk) (A : Option Addr) (n c : Nat) (hn : n = x.l.length) {tmps : Array Value} (ht : tmps.getD t undef = .pointer (some ⟨blk, 0, none⟩))
  (hQ : Q (.returned (.agg (x.cells A c).toArray)) (set7 wr blk x (.slice A n c))) : bodyPost Tryz.prog fn Q Exit.ret ⟨tmps, []⟩ (set7 wr blk x (.slice A n c)) := by
 subst hn
 exact bodyPost_ret (results_blk hr (set7_in hz x _) tmps ht) rfl hQ
theorem grown_fresh {w wr wf : World} {b blk : Nat} (hg : w.grownBy wr (some b)) (hblk : w.heap.size ≤ blk) (h : wr.grownBy wf (some blk)) : w.grownBy wf (some b) :=
 ⟨h.os.trans hg.os, h.tape.trans hg.tape, h.output.trans hg.output, Nat.le_trans hg.size h.size, fun k hk hne => (h.block k (Nat.lt_of_lt_of_le hk hg.size) (by simp; omega)).trans (hg.block k hk hne)⟩
end Go.Proofs.YtmiencglfhpmeaaGreatDoor
namespace Go.Proofs.YtmiencglfhpmeaaGreatDoor
open Go.RowKit Hach
def MadeR (t : Int) (N : Nat) (b : Nat) (w : World) (e : Ending) (w' : World) : Prop := ∃ (x : Ex) (A : Option Addr) (c d : Nat), Rt x t ∧ x.size ≤ N ∧ e = .returned (.agg (x.cells A c).toArray) ∧ ExL w' (fun k => w.heap.size ≤ k ∧ k < w'.heap.size) d A x.l ∧ DrA w' b ∧ w.grownBy w' (some b)
theorem exl_own {w w' : World} {lo d b : Nat} {A : Option Addr} {l : List Ex} (h : ExL w (fun k => lo ≤ k ∧ k < w.heap.size) d A l) (hg : w.grownBy w' (some b)) (hb : b < lo) : ExL w' (fun k => lo ≤ k ∧ k < w'.heap.size) d A l :=
 (h.keep fun k hk o => grown_cell hg hk.2 (by simp; omega) o).more fun k hk => ⟨hk.1, Nat.lt_of_lt_of_le hk.2 hg.size⟩
theorem exl_lo {w : World} {lo lo' d : Nat} {A : Option Addr} {l : List Ex} (h : ExL w (fun k => lo ≤ k ∧ k < w.heap.size) d A l) (hl : lo' ≤ lo) : ExL w (fun k => lo' ≤ k ∧ k < w.heap.size) d A l := h.more fun k hk => ⟨by omega, hk.2⟩
theorem made_fin {fn : Func} {s : Tmp} (hr : fn.results = #[.cell s 47]) {b : Nat} {w wr : World} {t : Int} {N : Nat} (op : Int) (us : List Nd) (d : Nat) (hx : Rt (.mk op 0 0 0 false [] (us.map (·.x))) t) (hsz : (Ex.mk op 0 0 0 false [] (us.map (·.x))).size ≤ N)
  (hz : Z7 wr w.heap.size) (hb : b < w.heap.size) (hD : DrA wr b) (hg : w.grownBy wr (some b)) (hk : Kids wr (fun k => w.heap.size + 1 ≤ k ∧ k < wr.heap.size) d us) (g : Nat) (hgk : w.heap.size + 1 ≤ g ∧ g < wr.heap.size)
  (hc : ∀ (i : Nat) (v : Value), (us.map Nd.cells).flatten[i]? = some v → wr.cell? ⟨g, i, none⟩ = some v) (n : Nat) (hn : n = us.length) {tmps : Array Value} (ht : tmps.getD s undef = .pointer (some ⟨w.heap.size, 0, none⟩)) :
  bodyPost Tryz.prog fn (MadeR t N b w) Exit.ret ⟨tmps, []⟩ (set7 wr w.heap.size (.mk op 0 0 0 false [] (us.map (·.x))) (.slice (some ⟨g, 0, none⟩) n n)) := by
 have hG := set7_grown wr w.heap.size (.mk op 0 0 0 false [] (us.map (·.x))) (.slice (some ⟨g, 0, none⟩) n n)
 refine fin7 hr _ hz (some ⟨g, 0, none⟩) n n (by rw [hn]; simp [Ex.l]) ht ⟨_, some ⟨g, 0, none⟩, n, d + 1, hx, hsz, rfl, ?_, ?_, grown_fresh hg (Nat.le_refl _) hG⟩
 ·have h1 : ExL wr (fun k => w.heap.size + 1 ≤ k ∧ k < wr.heap.size) (d + 1) (some ⟨g, 0, none⟩) (us.map (·.x)) := ExL.row hgk hk hc
  exact (h1.keep fun k hk o => grown_cell hG hk.2 (by have := hk.1; simp; omega) o).more fun k hk => ⟨by omega, Nat.lt_of_lt_of_le hk.2 hG.size⟩
 ·exact hD.own hG fun g e => by simp only [Option.some.injEq] at e; omega
theorem size_1' (o : Int) (a : Ex) : (Ex.mk o 0 0 0 false [] [a]).size = 1 + a.size := by rw [Ex.size]; simp [Ex.sizes]
theorem size_2' (o : Int) (a b : Ex) : (Ex.mk o 0 0 0 false [] [a, b]).size = 1 + (a.size + b.size) := by rw [Ex.size]; simp [Ex.sizes]
theorem size_3' (o : Int) (a b c : Ex) : (Ex.mk o 0 0 0 false [] [a, b, c]).size = 1 + (a.size + (b.size + c.size)) := by rw [Ex.size]; simp [Ex.sizes]
theorem made_leaf_fin {fn : Func} {s : Tmp} (hr : fn.results = #[.cell s 47]) {b : Nat} {w wr : World} {t : Int} {N : Nat} (x : Ex) (hx : Rt x t) (hl : x.l = []) (hz : Z7 wr w.heap.size) (hb : b < w.heap.size) (hD : DrA wr b) (hg : w.grownBy wr (some b)) (hN : 1 ≤ N)
  {tmps : Array Value} (ht : tmps.getD s undef = .pointer (some ⟨w.heap.size, 0, none⟩)) : bodyPost Tryz.prog fn (MadeR t N b w) Exit.ret ⟨tmps, []⟩ (set7 wr w.heap.size x (.slice none 0 0)) := by
 have hG := set7_grown wr w.heap.size x (.slice none 0 0)
 refine fin7 hr x hz none 0 0 (by rw [hl]; rfl) ht ⟨x, none, 0, 0, hx, by rw [x.size_eq, hl]; simpa [Ex.sizes] using hN, rfl, by rw [hl]; exact ExL.nil _ _ _ _, ?_, grown_fresh hg (Nat.le_refl _) hG⟩
 exact hD.own hG fun g e => by simp only [Option.some.injEq] at e; omega
end Go.Proofs.YtmiencglfhpmeaaGreatDoor
namespace Go.Proofs.YtmiencglfhpmeaaGreatDoor
open Go.RowKit Hach
def LI (w : World) (A : Option Addr) (n : Nat) : Prop := n < 9223372036854775808 ∧ (0 < n → ∃ g o, A = some ⟨g, o, none⟩ ∧ g < w.heap.size ∧ ∀ j, j < n → ∃ x : Int, w.cell? ⟨g, o + j, none⟩ = some (.int .i64 x))
theorem LI.ext {w w' : World} {A : Option Addr} {n : Nat} (h : LI w A n) (hE : Ext w w') : LI w' A n := by
 refine ⟨h.1, fun hn => ?_⟩
 obtain ⟨g, o, e, h1, h2⟩ := h.2 hn
 refine ⟨g, o, e, Nat.lt_of_lt_of_le h1 hE.sz, fun j hj => ?_⟩
 obtain ⟨x, hx⟩ := h2 j hj
 exact ⟨x, (hE.old (p := ⟨g, o + j, none⟩) h1).trans hx⟩
theorem DrA.new {w : World} {A : Option Addr} {n : Nat} (c : Nat) (h : LI w A n) : DrA (w.alloc (.cells #[.slice A n c, .int .i64 0] 86)) w.heap.size := by
 refine ⟨A, n, c, 0, Go.heap_alloc_new _ _, h.1, Nat.zero_le _, fun hn => ?_⟩
 obtain ⟨g, o, e, h1, h2⟩ := h.2 hn
 refine ⟨g, o, e, h1, fun j hj => ?_⟩
 obtain ⟨x, hx⟩ := h2 j hj
 exact ⟨x, ((Ext.alloc w _).old (p := ⟨g, o + j, none⟩) h1).trans hx⟩
theorem ext_fresh {w w1 w2 : World} {b : Nat} (hE : Ext w w1) (hg : w1.grownBy w2 (some b)) (hb : w.heap.size ≤ b) : Ext w w2 :=
 Below.trans hE (below_row' hg hE.sz (fun g e => by simp only [Option.some.injEq] at e; omega))
end Go.Proofs.YtmiencglfhpmeaaGreatDoor
namespace Go.Proofs.YtmiencglfhpmeaaGreatDoor
open Go.RowKit Hach
def Ev_row (x : En) : Array Value := #[.int .i64 x.kind, .string ⟨x.cls.toArray⟩, .string ⟨x.name.toArray⟩, .int .i64 x.weight, .int .i64 x.level, .bool x.stairs, .int .i64 x.scale, .int .i64 x.hour, .int .i64 x.reader]
def Ev_zero : Array Value := #[.int .i64 0, .string ⟨#[]⟩, .string ⟨#[]⟩, .int .i64 0, .int .i64 0, .bool false, .int .i64 0, .int .i64 0, .int .i64 0]
def EvB (w : World) (b : Nat) (x : En) : Prop := w.heap[b]? = some (.cells (Ev_row x) 28 (0, 0))
def EvZ (w : World) (b : Nat) : Prop := w.heap[b]? = some (.cells Ev_zero 28 (0, 0))
theorem EvB.lt {w : World} {b : Nat} {x : En} (h : EvB w b x) : b < w.heap.size := (Array.getElem?_eq_some_iff.1 h).1
theorem EvB.ext {w w' : World} {b : Nat} {x : En} (h : EvB w b x) (hE : Ext w w') : EvB w' b x := (hE.below.block b h.lt).trans h
theorem EvB.own {w w' : World} {b : Nat} {x : En} {r : Option Nat} (h : EvB w b x) (hg : w.grownBy w' r) (hb : some b ≠ r) : EvB w' b x := (hg.block b h.lt hb).trans h
theorem EvB.new (w : World) (x : En) : EvB (w.alloc (.cells (Ev_row x) 28)) w.heap.size x := Go.heap_alloc_new _ _
theorem EvB.cells {w : World} {b : Nat} {x : En} (h : EvB w b x) : w.cell? ⟨b, 0, none⟩ = some (.int .i64 x.kind) ∧ w.cell? ⟨b, 1, none⟩ = some (.string ⟨x.cls.toArray⟩) ∧ w.cell? ⟨b, 2, none⟩ = some (.string ⟨x.name.toArray⟩) ∧ w.cell? ⟨b, 3, none⟩ = some (.int .i64 x.weight) ∧ w.cell? ⟨b, 4, none⟩ = some (.int .i64 x.level) ∧ w.cell? ⟨b, 5, none⟩ = some (.bool x.stairs) ∧ w.cell? ⟨b, 6, none⟩ = some (.int .i64 x.scale) ∧ w.cell? ⟨b, 7, none⟩ = some (.int .i64 x.hour) ∧ w.cell? ⟨b, 8, none⟩ = some (.int .i64 x.reader) := by
 have h' : w.heap[b]? = _ := h
 refine ⟨?_, ?_, ?_, ?_, ?_, ?_, ?_, ?_, ?_⟩ <;> simp [World.cell?, h', Ev_row]
theorem EvB.free {w : World} {b : Nat} {x : En} (h : EvB w b x) : w.frozen? ⟨b, 0, none⟩ = false ∧ w.frozen? ⟨b, 1, none⟩ = false ∧ w.frozen? ⟨b, 2, none⟩ = false ∧ w.frozen? ⟨b, 3, none⟩ = false ∧ w.frozen? ⟨b, 4, none⟩ = false ∧ w.frozen? ⟨b, 5, none⟩ = false ∧ w.frozen? ⟨b, 6, none⟩ = false ∧ w.frozen? ⟨b, 7, none⟩ = false ∧ w.frozen? ⟨b, 8, none⟩ = false := by
 have h' : w.heap[b]? = _ := h
 refine ⟨?_, ?_, ?_, ?_, ?_, ?_, ?_, ?_, ?_⟩ <;> simp [World.frozen?, h']
theorem EvZ.lt {w : World} {b : Nat} (h : EvZ w b) : b < w.heap.size := (Array.getElem?_eq_some_iff.1 h).1
theorem EvZ.ext {w w' : World} {b : Nat} (h : EvZ w b) (hE : Ext w w') : EvZ w' b := (hE.below.block b h.lt).trans h
theorem EvZ.own {w w' : World} {b : Nat} {r : Option Nat} (h : EvZ w b) (hg : w.grownBy w' r) (hb : some b ≠ r) : EvZ w' b := (hg.block b h.lt hb).trans h
theorem EvZ.new (w : World) : EvZ (w.alloc (.cells Ev_zero 28)) w.heap.size := Go.heap_alloc_new _ _
theorem EvZ.cells {w : World} {b : Nat} (h : EvZ w b) : w.cell? ⟨b, 0, none⟩ = some (.int .i64 0) ∧ w.cell? ⟨b, 1, none⟩ = some (.string ⟨#[]⟩) ∧ w.cell? ⟨b, 2, none⟩ = some (.string ⟨#[]⟩) ∧ w.cell? ⟨b, 3, none⟩ = some (.int .i64 0) ∧ w.cell? ⟨b, 4, none⟩ = some (.int .i64 0) ∧ w.cell? ⟨b, 5, none⟩ = some (.bool false) ∧ w.cell? ⟨b, 6, none⟩ = some (.int .i64 0) ∧ w.cell? ⟨b, 7, none⟩ = some (.int .i64 0) ∧ w.cell? ⟨b, 8, none⟩ = some (.int .i64 0) := by
 have h' : w.heap[b]? = _ := h
 refine ⟨?_, ?_, ?_, ?_, ?_, ?_, ?_, ?_, ?_⟩ <;> simp [World.cell?, h', Ev_zero]
theorem EvZ.free {w : World} {b : Nat} (h : EvZ w b) : w.frozen? ⟨b, 0, none⟩ = false ∧ w.frozen? ⟨b, 1, none⟩ = false ∧ w.frozen? ⟨b, 2, none⟩ = false ∧ w.frozen? ⟨b, 3, none⟩ = false ∧ w.frozen? ⟨b, 4, none⟩ = false ∧ w.frozen? ⟨b, 5, none⟩ = false ∧ w.frozen? ⟨b, 6, none⟩ = false ∧ w.frozen? ⟨b, 7, none⟩ = false ∧ w.frozen? ⟨b, 8, none⟩ = false := by
 have h' : w.heap[b]? = _ := h
 refine ⟨?_, ?_, ?_, ?_, ?_, ?_, ?_, ?_, ?_⟩ <;> simp [World.frozen?, h']
def setEv (w : World) (b : Nat) (x : En) : World := ((((((((w.setCell ⟨b, 0, none⟩ (.int .i64 x.kind)).setCell ⟨b, 1, none⟩ (.string ⟨x.cls.toArray⟩)).setCell ⟨b, 2, none⟩ (.string ⟨x.name.toArray⟩)).setCell ⟨b, 3, none⟩ (.int .i64 x.weight)).setCell ⟨b, 4, none⟩ (.int .i64 x.level)).setCell ⟨b, 5, none⟩ (.bool x.stairs)).setCell ⟨b, 6, none⟩ (.int .i64 x.scale)).setCell ⟨b, 7, none⟩ (.int .i64 x.hour)).setCell ⟨b, 8, none⟩ (.int .i64 x.reader)
theorem setEv_z {w : World} {b : Nat} (h : EvZ w b) (x : En) : EvB (setEv w b x) b x := by
 have h' : w.heap[b]? = some (.cells Ev_zero 28 (0, 0)) := h
 simp [EvB, setEv, World.setCell, Array.getElem?_modify, h', Ev_row, Ev_zero]
theorem setEv_grown (w : World) (b : Nat) (x : En) : w.grownBy (setEv w b x) (some b) := grown_trans (grown_trans (grown_trans (grown_trans (grown_trans (grown_trans (grown_trans (grown_trans (grown_set _ _ _ _) (grown_set _ _ _ _)) (grown_set _ _ _ _)) (grown_set _ _ _ _)) (grown_set _ _ _ _)) (grown_set _ _ _ _)) (grown_set _ _ _ _)) (grown_set _ _ _ _)) (grown_set _ _ _ _)
theorem resEv {fn : Func} {t : Tmp} (hr : fn.results = #[.cell t 28]) {w : World} {b : Nat} {x : En} (h : EvB w b x) (tmps : Array Value) (ht : tmps.getD t undef = .pointer (some ⟨b, 0, none⟩)) :
  (results fn tmps).run Tryz.prog w = .ok (.agg (Ev_row x)) w := by
 obtain ⟨p0, p1, p2, p3, p4, p5, p6, p7, p8⟩ := h.cells
 clear h
 rw [Array.getD_eq_getD_getElem?] at ht
 simp only [results, hr]
 unfold Ev_row
 go_simp
theorem finEvZ {fn : Func} {t : Tmp} (hr : fn.results = #[.cell t 28]) {blk : Nat} {wr : World} {Q : Ending → World → Prop} (x : En) (hz : EvZ wr blk) {tmps : Array Value} (ht : tmps.getD t undef = .pointer (some ⟨blk, 0, none⟩))
  (hQ : Q (.returned (.agg (Ev_row x))) (setEv wr blk x)) : bodyPost Tryz.prog fn Q Exit.ret ⟨tmps, []⟩ (setEv wr blk x) :=
 bodyPost_ret (resEv hr (setEv_z hz x) tmps ht) rfl hQ
def En.cut (x : En) (k : Nat) : En := { x with cls := x.cls.take k, name := x.name.take k }
theorem EvB.set1 {w : World} {b : Nat} {x : En} (h : EvB w b x) (s : List UInt8) : EvB (w.setCell ⟨b, 1, none⟩ (.string ⟨s.toArray⟩)) b { x with cls := s } := by
 have h' : w.heap[b]? = some (.cells (Ev_row x) 28 (0, 0)) := h
 simp [EvB, World.setCell, Array.getElem?_modify, h', Ev_row]
theorem EvB.set2 {w : World} {b : Nat} {x : En} (h : EvB w b x) (s : List UInt8) : EvB (w.setCell ⟨b, 2, none⟩ (.string ⟨s.toArray⟩)) b { x with name := s } := by
 have h' : w.heap[b]? = some (.cells (Ev_row x) 28 (0, 0)) := h
 simp [EvB, World.setCell, Array.getElem?_modify, h', Ev_row]
end Go.Proofs.YtmiencglfhpmeaaGreatDoor
