/- Expressions that numbers make: the contract of the reference's Made. -/
import Derived.Test.YtggkkjnfonbpkaaGreatDoorQXl
import Derived.Test.YtggkkjnfonbpkaaGreatDoorQGh

set_option linter.unusedSimpArgs false
set_option linter.unusedVariables false
namespace Go.Proofs.YtggkkjnfonbpkaaGreatDoor
open Go.RowKit Hach

def MadeR (t : Int) (N : Nat) (b : Nat) (w : World) (e : Ending) (w' : World) : Prop := ∃ (x : Ex) (A : Option Addr) (c d : Nat), Rt x t ∧ x.size ≤ N ∧ e = .returned (.agg (x.cells A c).toArray) ∧ ExL w' (fun k => w.heap.size ≤ k ∧ k < w'.heap.size) d A x.l ∧ DrA w' b ∧ w.grownBy w' (some b)
def szM : Nat → Nat
  | 0 => 1
  | n + 1 => 2 + 2 * szM n
theorem szM_pos : ∀ n, 1 ≤ szM n
  | 0 => Nat.le_refl _
  | n + 1 => by unfold szM; omega
theorem exl_own {w w' : World} {lo d b : Nat} {A : Option Addr} {l : List Ex} (h : ExL w (fun k => lo ≤ k ∧ k < w.heap.size) d A l) (hg : w.grownBy w' (some b)) (hb : b < lo) : ExL w' (fun k => lo ≤ k ∧ k < w'.heap.size) d A l :=
  (h.keep fun k hk o => grown_cell hg hk.2 (by simp; omega) o).more fun k hk => ⟨hk.1, Nat.lt_of_lt_of_le hk.2 hg.size⟩
theorem exl_lo {w : World} {lo lo' d : Nat} {A : Option Addr} {l : List Ex} (h : ExL w (fun k => lo ≤ k ∧ k < w.heap.size) d A l) (hl : lo' ≤ lo) : ExL w (fun k => lo' ≤ k ∧ k < w.heap.size) d A l := h.more fun k hk => ⟨by omega, hk.2⟩
theorem leaf_made {t : Int} {b : Nat} {w wr wf : World} {N : Nat} (hN : 1 ≤ N) (hg : w.grownBy wr (some b)) {e : Ending} (h : LeafR t b wr e wf) : MadeR t N b w e wf := by
  obtain ⟨x, h1, h2, h3, h4, h5⟩ := h
  exact ⟨x, none, 0, 0, h1, by rw [x.size_eq, h2]; simpa [Ex.sizes] using hN, h3, by rw [h2]; exact ExL.nil _ _ _ _, h4, grown_trans hg h5⟩
theorem made_fin {fn : Func} {s : Tmp} (hr : fn.results = #[.cell s 29]) {b : Nat} {w wr : World} {t : Int} {N : Nat} (op : Int) (us : List Nd) (d : Nat) (hx : Rt (.mk op 0 0 0 false [] (us.map (·.x))) t) (hsz : (Ex.mk op 0 0 0 false [] (us.map (·.x))).size ≤ N)
    (hz : Z7 wr w.heap.size) (hb : b < w.heap.size) (hD : DrA wr b) (hg : w.grownBy wr (some b)) (hk : Kids wr (fun k => w.heap.size + 1 ≤ k ∧ k < wr.heap.size) d us) (g : Nat) (hgk : w.heap.size + 1 ≤ g ∧ g < wr.heap.size)
    (hc : ∀ (i : Nat) (v : Value), (us.map Nd.cells).flatten[i]? = some v → wr.cell? ⟨g, i, none⟩ = some v) (n : Nat) (hn : n = us.length) {tmps : Array Value} (ht : tmps.getD s undef = .pointer (some ⟨w.heap.size, 0, none⟩)) :
    bodyPost Tryz.prog fn (MadeR t N b w) Exit.ret ⟨tmps, []⟩ (set7 wr w.heap.size (.mk op 0 0 0 false [] (us.map (·.x))) (.slice (some ⟨g, 0, none⟩) n n)) := by
  have hG := set7_grown wr w.heap.size (.mk op 0 0 0 false [] (us.map (·.x))) (.slice (some ⟨g, 0, none⟩) n n)
  refine fin7 hr _ hz (some ⟨g, 0, none⟩) n n (by rw [hn]; simp [Ex.l]) ht ⟨_, some ⟨g, 0, none⟩, n, d + 1, hx, hsz, rfl, ?_, ?_, grown_fresh hg (Nat.le_refl _) hG⟩
  · have h1 : ExL wr (fun k => w.heap.size + 1 ≤ k ∧ k < wr.heap.size) (d + 1) (some ⟨g, 0, none⟩) (us.map (·.x)) := ExL.row hgk hk hc
    exact (h1.keep fun k hk o => grown_cell hG hk.2 (by have := hk.1; simp; omega) o).more fun k hk => ⟨by omega, Nat.lt_of_lt_of_le hk.2 hG.size⟩
  · exact hD.own hG fun g e => by simp only [Option.some.injEq] at e; omega
theorem size_1' (o : Int) (a : Ex) : (Ex.mk o 0 0 0 false [] [a]).size = 1 + a.size := by rw [Ex.size]; simp [Ex.sizes]
theorem size_2' (o : Int) (a b : Ex) : (Ex.mk o 0 0 0 false [] [a, b]).size = 1 + (a.size + b.size) := by rw [Ex.size]; simp [Ex.sizes]
theorem size_3' (o : Int) (a b c : Ex) : (Ex.mk o 0 0 0 false [] [a, b, c]).size = 1 + (a.size + (b.size + c.size)) := by rw [Ex.size]; simp [Ex.sizes]
theorem made_leaf_fin {fn : Func} {s : Tmp} (hr : fn.results = #[.cell s 29]) {b : Nat} {w wr : World} {t : Int} {N : Nat} (x : Ex) (hx : Rt x t) (hl : x.l = []) (hz : Z7 wr w.heap.size) (hb : b < w.heap.size) (hD : DrA wr b) (hg : w.grownBy wr (some b)) (hN : 1 ≤ N)
    {tmps : Array Value} (ht : tmps.getD s undef = .pointer (some ⟨w.heap.size, 0, none⟩)) : bodyPost Tryz.prog fn (MadeR t N b w) Exit.ret ⟨tmps, []⟩ (set7 wr w.heap.size x (.slice none 0 0)) := by
  have hG := set7_grown wr w.heap.size x (.slice none 0 0)
  refine fin7 hr x hz none 0 0 (by rw [hl]; rfl) ht ⟨x, none, 0, 0, hx, by rw [x.size_eq, hl]; simpa [Ex.sizes] using hN, rfl, by rw [hl]; exact ExL.nil _ _ _ _, ?_, grown_fresh hg (Nat.le_refl _) hG⟩
  exact hD.own hG fun g e => by simp only [Option.some.injEq] at e; omega
def MadeC (m : Nat) : Prop := ∀ (t q : Int) (b : Nat) (w : World), 1 ≤ t ∧ t ≤ 3 → q = (m : Int) → DrA w b → Calls Tryz.prog 24 #[dp b, .int .i64 t, .int .i64 q] w (MadeR t (szM m) b w)
set_option maxRecDepth 100000 in
set_option maxHeartbeats 8000000 in
theorem made_zero (t : Int) (ht : 1 ≤ t ∧ t ≤ 3) : ∀ (b : Nat) (w : World), DrA w b → True → Calls Tryz.prog 24 #[dp b, .int .i64 t, .int .i64 0] w (MadeR t (szM 0) b w) := by
  intro b w hD hm
  have hbl := hD.lt
  have hz0 := Z7.new w
  obtain ⟨w0, hw0⟩ : ∃ w0, w.alloc (.cells zero7 29) = w0 := ⟨_, rfl⟩
  have hE0 : Ext w w0 := by rw [← hw0]; exact Ext.alloc _ _
  have hs0 : w0.heap.size = w.heap.size + 1 := by rw [← hw0]; simp
  rw [hw0] at hz0
  have hD0 := hD.ext hE0
  have HW := Lib.hid hw0
  have hs0' : w.heap.size + 1 ≤ w0.heap.size := by omega
  have hG0 : w.grownBy w0 (some b) := grown_of hE0 _
  have DN := Lib.hid (fun (m : Int) (W : World) (h : DrA W b) (h1 : 0 < m) (h2 : m < 4294967296) => draw_any m b W h h1 h2)
  have LF := Lib.hid (fun (t : Int) (W : World) (ht : 1 ≤ t ∧ t ≤ 3) (h : DrA W b) => leaf_any t ht b W h)
  unfold zero7 at HW
  unfold dp at *
  clear hw0 hs0 hD hm
  go_enter Tryz.func24, Tryz.ntmps24
  go_upto_region 1 with fail
  rw [HW.out]
  go_wp2_with fail
  refine (LF.out t _ (by omega) hD0).mono ?_
  rintro e w1 ⟨x, hR, hl, rfl, hD1, hg1⟩
  obtain ⟨op, var, ty, n, bb, s, l⟩ := x
  obtain rfl : l = [] := hl
  have HR := Lib.hid hR
  have hz1 := hz0.own hg1 (by simp; omega)
  have hG1 := grown_trans hG0 hg1
  obtain ⟨u0, u1, u2, u3, u4, u5, u6⟩ := hz1.cells
  obtain ⟨f0, f1, f2, f3, f4, f5, f6⟩ := hz1.free
  clear hR
  unfold Ex.cells
  go_wp2_with fail
  exact made_leaf_fin rfl (.mk op var ty n bb s []) HR.out rfl hz1 hbl hD1 hG1 (szM_pos _) rfl
set_option maxRecDepth 100000 in
set_option maxHeartbeats 16000000 in
theorem made_int (m : Nat) (ih : MadeC m) : ∀ (b : Nat) (w : World), DrA w b → m ≤ 3 → Calls Tryz.prog 24 #[dp b, .int .i64 1, .int .i64 ((m : Int) + 1)] w (MadeR 1 (szM (m + 1)) b w) := by
  intro b w hD hm
  have hbl := hD.lt
  have hz0 := Z7.new w
  obtain ⟨w0, hw0⟩ : ∃ w0, w.alloc (.cells zero7 29) = w0 := ⟨_, rfl⟩
  have hE0 : Ext w w0 := by rw [← hw0]; exact Ext.alloc _ _
  have hs0 : w0.heap.size = w.heap.size + 1 := by rw [← hw0]; simp
  rw [hw0] at hz0
  have hD0 := hD.ext hE0
  have HW := Lib.hid hw0
  have hs0' : w.heap.size + 1 ≤ w0.heap.size := by omega
  have hG0 : w.grownBy w0 (some b) := grown_of hE0 _
  have DN := Lib.hid (fun (m : Int) (W : World) (h : DrA W b) (h1 : 0 < m) (h2 : m < 4294967296) => draw_any m b W h h1 h2)
  have LF := Lib.hid (fun (t : Int) (W : World) (ht : 1 ≤ t ∧ t ≤ 3) (h : DrA W b) => leaf_any t ht b W h)
  have IH := Lib.hid (fun (t q : Int) (W : World) (ht : 1 ≤ t ∧ t ≤ 3) (hq : q = (m : Int)) (h : DrA W b) => ih t q b W ht hq h)
  obtain ⟨q, hq⟩ : ∃ q, (m : Int) + 1 = q := ⟨_, rfl⟩
  have hq1 : 1 ≤ q ∧ q ≤ 4 := by omega
  have hqm : q - 1 ≤ m ∧ m ≤ q - 1 := by omega
  have e0 : (q == 0) = false := by rw [beq_eq_false_iff_ne]; omega
  rw [hq]
  unfold zero7 at HW
  unfold dp at *
  clear hw0 hs0 hD ih hq
  go_enter Tryz.func24, Tryz.ntmps24
  go_upto_region 1 with fail
  rw [HW.out]
  go_wp2_with fail
  refine (DN.out 5 _ hD0 (by decide) (by decide)).mono ?_
  rintro e w1 ⟨k1, p1, q1, rfl, hD1, hg1⟩
  have hG1 := grown_trans hG0 hg1
  have hz1 := hz0.own hg1 (by simp; omega)
  have hw1 : w0.heap.size ≤ w1.heap.size := hg1.size
  by_cases h1 : k1 = 0
  · subst h1
    go_wp2_with fail
    refine (LF.out 1 _ (by omega) hD1).mono ?_
    rintro e w2 ⟨x, hR, hl, rfl, hD2, hg2⟩
    obtain ⟨op, var, ty, n, bb, s, l⟩ := x
    obtain rfl : l = [] := hl
    have HR := Lib.hid hR
    have hz2 := hz1.own hg2 (by simp; omega)
    have hG2 := grown_trans hG1 hg2
    obtain ⟨u0, u1, u2, u3, u4, u5, u6⟩ := hz2.cells
    obtain ⟨f0, f1, f2, f3, f4, f5, f6⟩ := hz2.free
    clear hR
    unfold Ex.cells
    go_wp2_with fail
    exact made_leaf_fin rfl (.mk op var ty n bb s []) HR.out rfl hz2 hbl hD2 hG2 (szM_pos _) rfl
  · have e1 : (k1 == 0) = false := by rw [beq_eq_false_iff_ne]; exact h1
    clear h1
    go_wp2_with fail
    refine (DN.out 6 _ hD1 (by decide) (by decide)).mono ?_
    rintro e w2 ⟨k2, p2, q2, rfl, hD2, hg2⟩
    have hG2 := grown_trans hG1 hg2
    have hz2 := hz1.own hg2 (by simp; omega)
    have hw2 : w1.heap.size ≤ w2.heap.size := hg2.size
    by_cases h2 : k2 = 0
    · subst h2
      go_wp2_with fail
      refine (IH.out 2 _ _ (by omega) (by omega) hD2).mono ?_
      rintro e w3 ⟨x0, A0, c0, d0, hR0, hs0, rfl, hX0, hD3, hg3⟩
      have hG3 := grown_trans hG2 hg3
      have hz3 := hz2.own hg3 (by simp; omega)
      have hw3 : w2.heap.size ≤ w3.heap.size := hg3.size
      unfold Ex.cells
      go_wp2_with fail
      refine (IH.out 1 _ _ (by omega) (by omega) hD3).mono ?_
      rintro e w4 ⟨x1, A1, c1, d1, hR1, hs1, rfl, hX1, hD4, hg4⟩
      have hG4 := grown_trans hG3 hg4
      have hz4 := hz3.own hg4 (by simp; omega)
      have hw4 : w3.heap.size ≤ w4.heap.size := hg4.size
      replace hX0 := exl_own hX0 hg4 (by omega)
      unfold Ex.cells
      go_wp2_with fail
      refine (LF.out 1 _ (by omega) hD4).mono ?_
      rintro e w5 ⟨x2, hR2, hl2, rfl, hD5, hg5⟩
      have hs2 : x2.size ≤ 1 := by rw [x2.size_eq, hl2]; simp [Ex.sizes]
      have hX2 : ExL w5 (fun k => w4.heap.size ≤ k ∧ k < w5.heap.size) 0 none x2.l := by rw [hl2]; exact ExL.nil _ _ _ _
      clear hl2
      have hG5 := grown_trans hG4 hg5
      have hz5 := hz4.own hg5 (by simp; omega)
      have hw5 : w4.heap.size ≤ w5.heap.size := hg5.size
      replace hX0 := exl_own hX0 hg5 (by omega)
      replace hX1 := exl_own hX1 hg5 (by omega)
      have hEf : Ext w5 (w5.alloc (.cells #[.int .i64 x0.op, .int .i64 x0.var, .int .i64 x0.ty, .int .i64 x0.n, .bool x0.b, .string ⟨x0.s.toArray⟩, .slice A0 x0.l.length c0, .int .i64 x1.op, .int .i64 x1.var, .int .i64 x1.ty, .int .i64 x1.n, .bool x1.b, .string ⟨x1.s.toArray⟩, .slice A1 x1.l.length c1, .int .i64 x2.op, .int .i64 x2.var, .int .i64 x2.ty, .int .i64 x2.n, .bool x2.b, .string ⟨x2.s.toArray⟩, .slice none x2.l.length 0] 29)) := Ext.alloc _ _
      have hzf := hz5.ext hEf
      obtain ⟨u0, u1, u2, u3, u4, u5, u6⟩ := hzf.cells
      obtain ⟨f0, f1, f2, f3, f4, f5, f6⟩ := hzf.free
      have HX0 := Lib.hid (((exl_lo (lo' := w.heap.size + 1) hX0 (by omega)).keep fun k hk o => hEf.old (p := ⟨k, o, none⟩) hk.2).more (S' := fun k => w.heap.size + 1 ≤ k ∧ k < (w5.alloc (.cells #[.int .i64 x0.op, .int .i64 x0.var, .int .i64 x0.ty, .int .i64 x0.n, .bool x0.b, .string ⟨x0.s.toArray⟩, .slice A0 x0.l.length c0, .int .i64 x1.op, .int .i64 x1.var, .int .i64 x1.ty, .int .i64 x1.n, .bool x1.b, .string ⟨x1.s.toArray⟩, .slice A1 x1.l.length c1, .int .i64 x2.op, .int .i64 x2.var, .int .i64 x2.ty, .int .i64 x2.n, .bool x2.b, .string ⟨x2.s.toArray⟩, .slice none x2.l.length 0] 29)).heap.size) fun k hk => ⟨hk.1, Nat.lt_of_lt_of_le hk.2 hEf.sz⟩)
      have HX1 := Lib.hid (((exl_lo (lo' := w.heap.size + 1) hX1 (by omega)).keep fun k hk o => hEf.old (p := ⟨k, o, none⟩) hk.2).more (S' := fun k => w.heap.size + 1 ≤ k ∧ k < (w5.alloc (.cells #[.int .i64 x0.op, .int .i64 x0.var, .int .i64 x0.ty, .int .i64 x0.n, .bool x0.b, .string ⟨x0.s.toArray⟩, .slice A0 x0.l.length c0, .int .i64 x1.op, .int .i64 x1.var, .int .i64 x1.ty, .int .i64 x1.n, .bool x1.b, .string ⟨x1.s.toArray⟩, .slice A1 x1.l.length c1, .int .i64 x2.op, .int .i64 x2.var, .int .i64 x2.ty, .int .i64 x2.n, .bool x2.b, .string ⟨x2.s.toArray⟩, .slice none x2.l.length 0] 29)).heap.size) fun k hk => ⟨hk.1, Nat.lt_of_lt_of_le hk.2 hEf.sz⟩)
      have HX2 := Lib.hid (((exl_lo (lo' := w.heap.size + 1) hX2 (by omega)).keep fun k hk o => hEf.old (p := ⟨k, o, none⟩) hk.2).more (S' := fun k => w.heap.size + 1 ≤ k ∧ k < (w5.alloc (.cells #[.int .i64 x0.op, .int .i64 x0.var, .int .i64 x0.ty, .int .i64 x0.n, .bool x0.b, .string ⟨x0.s.toArray⟩, .slice A0 x0.l.length c0, .int .i64 x1.op, .int .i64 x1.var, .int .i64 x1.ty, .int .i64 x1.n, .bool x1.b, .string ⟨x1.s.toArray⟩, .slice A1 x1.l.length c1, .int .i64 x2.op, .int .i64 x2.var, .int .i64 x2.ty, .int .i64 x2.n, .bool x2.b, .string ⟨x2.s.toArray⟩, .slice none x2.l.length 0] 29)).heap.size) fun k hk => ⟨hk.1, Nat.lt_of_lt_of_le hk.2 hEf.sz⟩)
      clear hX0 hX1 hX2
      unfold Ex.cells
      go_wp2_with fail
      refine made_fin (N := szM (m + 1)) rfl (13) [⟨x0, A0, c0⟩, ⟨x1, A1, c1⟩, ⟨x2, none, 0⟩] (d0 + d1 + 0) (Rt.ite 1 x0 x1 x2 hR0 hR1 hR2) (by show (Ex.mk _ 0 0 0 false [] [x0, x1, x2]).size ≤ 2 + 2 * szM m; rw [size_3']; have := szM_pos m; omega) hzf hbl (hD5.ext hEf) (grown_trans hG5 (grown_of hEf _)) ?_ w5.heap.size ⟨by omega, by simp⟩ ?_ 3 rfl rfl
      · intro u hu
        simp only [List.mem_cons, List.not_mem_nil, or_false] at hu
        rcases hu with rfl | rfl | rfl
        · exact HX0.out.deep (by omega)
        · exact HX1.out.deep (by omega)
        · exact HX2.out.deep (by omega)
      · intro i v hi
        rw [World.cell?_alloc_new]
        simpa [Nd.cells, Ex.cells] using hi
    · have e2 : (k2 == 0) = false := by rw [beq_eq_false_iff_ne]; exact h2
      clear h2
      go_wp2_with fail
      refine (DN.out 5 _ hD2 (by decide) (by decide)).mono ?_
      rintro e w3 ⟨k3, p3, q3, rfl, hD3, hg3⟩
      have hG3 := grown_trans hG2 hg3
      have hz3 := hz2.own hg3 (by simp; omega)
      have hw3 : w2.heap.size ≤ w3.heap.size := hg3.size
      go_wp2_with fail
      refine (IH.out 1 _ _ (by omega) (by omega) hD3).mono ?_
      rintro e w4 ⟨x0, A0, c0, d0, hR0, hs0, rfl, hX0, hD4, hg4⟩
      have hG4 := grown_trans hG3 hg4
      have hz4 := hz3.own hg4 (by simp; omega)
      have hw4 : w3.heap.size ≤ w4.heap.size := hg4.size
      unfold Ex.cells
      go_wp2_with fail
      refine (IH.out 1 _ _ (by omega) (by omega) hD4).mono ?_
      rintro e w5 ⟨x1, A1, c1, d1, hR1, hs1, rfl, hX1, hD5, hg5⟩
      have hG5 := grown_trans hG4 hg5
      have hz5 := hz4.own hg5 (by simp; omega)
      have hw5 : w4.heap.size ≤ w5.heap.size := hg5.size
      replace hX0 := exl_own hX0 hg5 (by omega)
      have hEf : Ext w5 (w5.alloc (.cells #[.int .i64 x0.op, .int .i64 x0.var, .int .i64 x0.ty, .int .i64 x0.n, .bool x0.b, .string ⟨x0.s.toArray⟩, .slice A0 x0.l.length c0, .int .i64 x1.op, .int .i64 x1.var, .int .i64 x1.ty, .int .i64 x1.n, .bool x1.b, .string ⟨x1.s.toArray⟩, .slice A1 x1.l.length c1] 29)) := Ext.alloc _ _
      have hzf := hz5.ext hEf
      obtain ⟨u0, u1, u2, u3, u4, u5, u6⟩ := hzf.cells
      obtain ⟨f0, f1, f2, f3, f4, f5, f6⟩ := hzf.free
      have HX0 := Lib.hid (((exl_lo (lo' := w.heap.size + 1) hX0 (by omega)).keep fun k hk o => hEf.old (p := ⟨k, o, none⟩) hk.2).more (S' := fun k => w.heap.size + 1 ≤ k ∧ k < (w5.alloc (.cells #[.int .i64 x0.op, .int .i64 x0.var, .int .i64 x0.ty, .int .i64 x0.n, .bool x0.b, .string ⟨x0.s.toArray⟩, .slice A0 x0.l.length c0, .int .i64 x1.op, .int .i64 x1.var, .int .i64 x1.ty, .int .i64 x1.n, .bool x1.b, .string ⟨x1.s.toArray⟩, .slice A1 x1.l.length c1] 29)).heap.size) fun k hk => ⟨hk.1, Nat.lt_of_lt_of_le hk.2 hEf.sz⟩)
      have HX1 := Lib.hid (((exl_lo (lo' := w.heap.size + 1) hX1 (by omega)).keep fun k hk o => hEf.old (p := ⟨k, o, none⟩) hk.2).more (S' := fun k => w.heap.size + 1 ≤ k ∧ k < (w5.alloc (.cells #[.int .i64 x0.op, .int .i64 x0.var, .int .i64 x0.ty, .int .i64 x0.n, .bool x0.b, .string ⟨x0.s.toArray⟩, .slice A0 x0.l.length c0, .int .i64 x1.op, .int .i64 x1.var, .int .i64 x1.ty, .int .i64 x1.n, .bool x1.b, .string ⟨x1.s.toArray⟩, .slice A1 x1.l.length c1] 29)).heap.size) fun k hk => ⟨hk.1, Nat.lt_of_lt_of_le hk.2 hEf.sz⟩)
      clear hX0 hX1
      unfold Ex.cells
      go_wp2_with fail
      refine made_fin (N := szM (m + 1)) rfl (8 + k3) [⟨x0, A0, c0⟩, ⟨x1, A1, c1⟩] (d0 + d1) (Rt.sum (8 + k3) (by omega) x0 x1 hR0 hR1) (by show (Ex.mk _ 0 0 0 false [] [x0, x1]).size ≤ 2 + 2 * szM m; rw [size_2']; have := szM_pos m; omega) hzf hbl (hD5.ext hEf) (grown_trans hG5 (grown_of hEf _)) ?_ w5.heap.size ⟨by omega, by simp⟩ ?_ 2 rfl rfl
      · intro u hu
        simp only [List.mem_cons, List.not_mem_nil, or_false] at hu
        rcases hu with rfl | rfl
        · exact HX0.out.deep (by omega)
        · exact HX1.out.deep (by omega)
      · intro i v hi
        rw [World.cell?_alloc_new]
        simpa [Nd.cells, Ex.cells] using hi
set_option maxRecDepth 100000 in
set_option maxHeartbeats 16000000 in
theorem made_bool (m : Nat) (ih : MadeC m) : ∀ (b : Nat) (w : World), DrA w b → m ≤ 3 → Calls Tryz.prog 24 #[dp b, .int .i64 2, .int .i64 ((m : Int) + 1)] w (MadeR 2 (szM (m + 1)) b w) := by
  intro b w hD hm
  have hbl := hD.lt
  have hz0 := Z7.new w
  obtain ⟨w0, hw0⟩ : ∃ w0, w.alloc (.cells zero7 29) = w0 := ⟨_, rfl⟩
  have hE0 : Ext w w0 := by rw [← hw0]; exact Ext.alloc _ _
  have hs0 : w0.heap.size = w.heap.size + 1 := by rw [← hw0]; simp
  rw [hw0] at hz0
  have hD0 := hD.ext hE0
  have HW := Lib.hid hw0
  have hs0' : w.heap.size + 1 ≤ w0.heap.size := by omega
  have hG0 : w.grownBy w0 (some b) := grown_of hE0 _
  have DN := Lib.hid (fun (m : Int) (W : World) (h : DrA W b) (h1 : 0 < m) (h2 : m < 4294967296) => draw_any m b W h h1 h2)
  have LF := Lib.hid (fun (t : Int) (W : World) (ht : 1 ≤ t ∧ t ≤ 3) (h : DrA W b) => leaf_any t ht b W h)
  have IH := Lib.hid (fun (t q : Int) (W : World) (ht : 1 ≤ t ∧ t ≤ 3) (hq : q = (m : Int)) (h : DrA W b) => ih t q b W ht hq h)
  obtain ⟨q, hq⟩ : ∃ q, (m : Int) + 1 = q := ⟨_, rfl⟩
  have hq1 : 1 ≤ q ∧ q ≤ 4 := by omega
  have hqm : q - 1 ≤ m ∧ m ≤ q - 1 := by omega
  have e0 : (q == 0) = false := by rw [beq_eq_false_iff_ne]; omega
  rw [hq]
  unfold zero7 at HW
  unfold dp at *
  clear hw0 hs0 hD ih hq
  go_enter Tryz.func24, Tryz.ntmps24
  go_upto_region 1 with fail
  rw [HW.out]
  go_wp2_with fail
  refine (DN.out 5 _ hD0 (by decide) (by decide)).mono ?_
  rintro e w1 ⟨k1, p1, q1, rfl, hD1, hg1⟩
  have hG1 := grown_trans hG0 hg1
  have hz1 := hz0.own hg1 (by simp; omega)
  have hw1 : w0.heap.size ≤ w1.heap.size := hg1.size
  by_cases h1 : k1 = 0
  · subst h1
    go_wp2_with fail
    refine (LF.out 2 _ (by omega) hD1).mono ?_
    rintro e w2 ⟨x, hR, hl, rfl, hD2, hg2⟩
    obtain ⟨op, var, ty, n, bb, s, l⟩ := x
    obtain rfl : l = [] := hl
    have HR := Lib.hid hR
    have hz2 := hz1.own hg2 (by simp; omega)
    have hG2 := grown_trans hG1 hg2
    obtain ⟨u0, u1, u2, u3, u4, u5, u6⟩ := hz2.cells
    obtain ⟨f0, f1, f2, f3, f4, f5, f6⟩ := hz2.free
    clear hR
    unfold Ex.cells
    go_wp2_with fail
    exact made_leaf_fin rfl (.mk op var ty n bb s []) HR.out rfl hz2 hbl hD2 hG2 (szM_pos _) rfl
  · have e1 : (k1 == 0) = false := by rw [beq_eq_false_iff_ne]; exact h1
    clear h1
    go_wp2_with fail
    refine (DN.out 6 _ hD1 (by decide) (by decide)).mono ?_
    rintro e w2 ⟨k2, p2, q2, rfl, hD2, hg2⟩
    have hG2 := grown_trans hG1 hg2
    have hz2 := hz1.own hg2 (by simp; omega)
    have hw2 : w1.heap.size ≤ w2.heap.size := hg2.size
    by_cases h2 : k2 = 0
    · subst h2
      go_wp2_with fail
      refine (IH.out 2 _ _ (by omega) (by omega) hD2).mono ?_
      rintro e w3 ⟨x0, A0, c0, d0, hR0, hs0, rfl, hX0, hD3, hg3⟩
      have hG3 := grown_trans hG2 hg3
      have hz3 := hz2.own hg3 (by simp; omega)
      have hw3 : w2.heap.size ≤ w3.heap.size := hg3.size
      unfold Ex.cells
      go_wp2_with fail
      refine (IH.out 2 _ _ (by omega) (by omega) hD3).mono ?_
      rintro e w4 ⟨x1, A1, c1, d1, hR1, hs1, rfl, hX1, hD4, hg4⟩
      have hG4 := grown_trans hG3 hg4
      have hz4 := hz3.own hg4 (by simp; omega)
      have hw4 : w3.heap.size ≤ w4.heap.size := hg4.size
      replace hX0 := exl_own hX0 hg4 (by omega)
      unfold Ex.cells
      go_wp2_with fail
      refine (LF.out 2 _ (by omega) hD4).mono ?_
      rintro e w5 ⟨x2, hR2, hl2, rfl, hD5, hg5⟩
      have hs2 : x2.size ≤ 1 := by rw [x2.size_eq, hl2]; simp [Ex.sizes]
      have hX2 : ExL w5 (fun k => w4.heap.size ≤ k ∧ k < w5.heap.size) 0 none x2.l := by rw [hl2]; exact ExL.nil _ _ _ _
      clear hl2
      have hG5 := grown_trans hG4 hg5
      have hz5 := hz4.own hg5 (by simp; omega)
      have hw5 : w4.heap.size ≤ w5.heap.size := hg5.size
      replace hX0 := exl_own hX0 hg5 (by omega)
      replace hX1 := exl_own hX1 hg5 (by omega)
      have hEf : Ext w5 (w5.alloc (.cells #[.int .i64 x0.op, .int .i64 x0.var, .int .i64 x0.ty, .int .i64 x0.n, .bool x0.b, .string ⟨x0.s.toArray⟩, .slice A0 x0.l.length c0, .int .i64 x1.op, .int .i64 x1.var, .int .i64 x1.ty, .int .i64 x1.n, .bool x1.b, .string ⟨x1.s.toArray⟩, .slice A1 x1.l.length c1, .int .i64 x2.op, .int .i64 x2.var, .int .i64 x2.ty, .int .i64 x2.n, .bool x2.b, .string ⟨x2.s.toArray⟩, .slice none x2.l.length 0] 29)) := Ext.alloc _ _
      have hzf := hz5.ext hEf
      obtain ⟨u0, u1, u2, u3, u4, u5, u6⟩ := hzf.cells
      obtain ⟨f0, f1, f2, f3, f4, f5, f6⟩ := hzf.free
      have HX0 := Lib.hid (((exl_lo (lo' := w.heap.size + 1) hX0 (by omega)).keep fun k hk o => hEf.old (p := ⟨k, o, none⟩) hk.2).more (S' := fun k => w.heap.size + 1 ≤ k ∧ k < (w5.alloc (.cells #[.int .i64 x0.op, .int .i64 x0.var, .int .i64 x0.ty, .int .i64 x0.n, .bool x0.b, .string ⟨x0.s.toArray⟩, .slice A0 x0.l.length c0, .int .i64 x1.op, .int .i64 x1.var, .int .i64 x1.ty, .int .i64 x1.n, .bool x1.b, .string ⟨x1.s.toArray⟩, .slice A1 x1.l.length c1, .int .i64 x2.op, .int .i64 x2.var, .int .i64 x2.ty, .int .i64 x2.n, .bool x2.b, .string ⟨x2.s.toArray⟩, .slice none x2.l.length 0] 29)).heap.size) fun k hk => ⟨hk.1, Nat.lt_of_lt_of_le hk.2 hEf.sz⟩)
      have HX1 := Lib.hid (((exl_lo (lo' := w.heap.size + 1) hX1 (by omega)).keep fun k hk o => hEf.old (p := ⟨k, o, none⟩) hk.2).more (S' := fun k => w.heap.size + 1 ≤ k ∧ k < (w5.alloc (.cells #[.int .i64 x0.op, .int .i64 x0.var, .int .i64 x0.ty, .int .i64 x0.n, .bool x0.b, .string ⟨x0.s.toArray⟩, .slice A0 x0.l.length c0, .int .i64 x1.op, .int .i64 x1.var, .int .i64 x1.ty, .int .i64 x1.n, .bool x1.b, .string ⟨x1.s.toArray⟩, .slice A1 x1.l.length c1, .int .i64 x2.op, .int .i64 x2.var, .int .i64 x2.ty, .int .i64 x2.n, .bool x2.b, .string ⟨x2.s.toArray⟩, .slice none x2.l.length 0] 29)).heap.size) fun k hk => ⟨hk.1, Nat.lt_of_lt_of_le hk.2 hEf.sz⟩)
      have HX2 := Lib.hid (((exl_lo (lo' := w.heap.size + 1) hX2 (by omega)).keep fun k hk o => hEf.old (p := ⟨k, o, none⟩) hk.2).more (S' := fun k => w.heap.size + 1 ≤ k ∧ k < (w5.alloc (.cells #[.int .i64 x0.op, .int .i64 x0.var, .int .i64 x0.ty, .int .i64 x0.n, .bool x0.b, .string ⟨x0.s.toArray⟩, .slice A0 x0.l.length c0, .int .i64 x1.op, .int .i64 x1.var, .int .i64 x1.ty, .int .i64 x1.n, .bool x1.b, .string ⟨x1.s.toArray⟩, .slice A1 x1.l.length c1, .int .i64 x2.op, .int .i64 x2.var, .int .i64 x2.ty, .int .i64 x2.n, .bool x2.b, .string ⟨x2.s.toArray⟩, .slice none x2.l.length 0] 29)).heap.size) fun k hk => ⟨hk.1, Nat.lt_of_lt_of_le hk.2 hEf.sz⟩)
      clear hX0 hX1 hX2
      unfold Ex.cells
      go_wp2_with fail
      refine made_fin (N := szM (m + 1)) rfl (13) [⟨x0, A0, c0⟩, ⟨x1, A1, c1⟩, ⟨x2, none, 0⟩] (d0 + d1 + 0) (Rt.ite 2 x0 x1 x2 hR0 hR1 hR2) (by show (Ex.mk _ 0 0 0 false [] [x0, x1, x2]).size ≤ 2 + 2 * szM m; rw [size_3']; have := szM_pos m; omega) hzf hbl (hD5.ext hEf) (grown_trans hG5 (grown_of hEf _)) ?_ w5.heap.size ⟨by omega, by simp⟩ ?_ 3 rfl rfl
      · intro u hu
        simp only [List.mem_cons, List.not_mem_nil, or_false] at hu
        rcases hu with rfl | rfl | rfl
        · exact HX0.out.deep (by omega)
        · exact HX1.out.deep (by omega)
        · exact HX2.out.deep (by omega)
      · intro i v hi
        rw [World.cell?_alloc_new]
        simpa [Nd.cells, Ex.cells] using hi
    · have e2 : (k2 == 0) = false := by rw [beq_eq_false_iff_ne]; exact h2
      clear h2
      go_wp2_with fail
      refine (DN.out 6 _ hD2 (by decide) (by decide)).mono ?_
      rintro e w3 ⟨k3, p3, q3, rfl, hD3, hg3⟩
      have hG3 := grown_trans hG2 hg3
      have hz3 := hz2.own hg3 (by simp; omega)
      have hw3 : w2.heap.size ≤ w3.heap.size := hg3.size
      rcases (by omega : k3 = 0 ∨ k3 = 1 ∨ k3 = 2 ∨ k3 = 3 ∨ k3 = 4 ∨ k3 = 5) with rfl | rfl | rfl | rfl | rfl | rfl
      · go_wp2_with fail
        refine (IH.out 2 _ _ (by omega) (by omega) hD3).mono ?_
        rintro e w4 ⟨x0, A0, c0, d0, hR0, hs0, rfl, hX0, hD4, hg4⟩
        have hG4 := grown_trans hG3 hg4
        have hz4 := hz3.own hg4 (by simp; omega)
        have hw4 : w3.heap.size ≤ w4.heap.size := hg4.size
        have hEf : Ext w4 (w4.alloc (.cells #[.int .i64 x0.op, .int .i64 x0.var, .int .i64 x0.ty, .int .i64 x0.n, .bool x0.b, .string ⟨x0.s.toArray⟩, .slice A0 x0.l.length c0] 29)) := Ext.alloc _ _
        have hzf := hz4.ext hEf
        obtain ⟨u0, u1, u2, u3, u4, u5, u6⟩ := hzf.cells
        obtain ⟨f0, f1, f2, f3, f4, f5, f6⟩ := hzf.free
        have HX0 := Lib.hid (((exl_lo (lo' := w.heap.size + 1) hX0 (by omega)).keep fun k hk o => hEf.old (p := ⟨k, o, none⟩) hk.2).more (S' := fun k => w.heap.size + 1 ≤ k ∧ k < (w4.alloc (.cells #[.int .i64 x0.op, .int .i64 x0.var, .int .i64 x0.ty, .int .i64 x0.n, .bool x0.b, .string ⟨x0.s.toArray⟩, .slice A0 x0.l.length c0] 29)).heap.size) fun k hk => ⟨hk.1, Nat.lt_of_lt_of_le hk.2 hEf.sz⟩)
        clear hX0
        unfold Ex.cells
        go_wp2_with fail
        refine made_fin (N := szM (m + 1)) rfl (3) [⟨x0, A0, c0⟩] (d0) (Rt.not x0 hR0) (by show (Ex.mk _ 0 0 0 false [] [x0]).size ≤ 2 + 2 * szM m; rw [size_1']; have := szM_pos m; omega) hzf hbl (hD4.ext hEf) (grown_trans hG4 (grown_of hEf _)) ?_ w4.heap.size ⟨by omega, by simp⟩ ?_ 1 rfl rfl
        · intro u hu
          simp only [List.mem_cons, List.not_mem_nil, or_false] at hu
          subst hu
          exact HX0.out.deep (by omega)
        · intro i v hi
          rw [World.cell?_alloc_new]
          simpa [Nd.cells, Ex.cells] using hi
      · go_wp2_with fail
        refine (DN.out 3 _ hD3 (by decide) (by decide)).mono ?_
        rintro e w4 ⟨k4, p4, q4, rfl, hD4, hg4⟩
        have hG4 := grown_trans hG3 hg4
        have hz4 := hz3.own hg4 (by simp; omega)
        have hw4 : w3.heap.size ≤ w4.heap.size := hg4.size
        go_wp2_with fail
        refine (IH.out (1 + k4) _ _ (by omega) (by omega) hD4).mono ?_
        rintro e w5 ⟨x0, A0, c0, d0, hR0, hs0, rfl, hX0, hD5, hg5⟩
        have hG5 := grown_trans hG4 hg5
        have hz5 := hz4.own hg5 (by simp; omega)
        have hw5 : w4.heap.size ≤ w5.heap.size := hg5.size
        unfold Ex.cells
        go_wp2_with fail
        refine (IH.out (1 + k4) _ _ (by omega) (by omega) hD5).mono ?_
        rintro e w6 ⟨x1, A1, c1, d1, hR1, hs1, rfl, hX1, hD6, hg6⟩
        have hG6 := grown_trans hG5 hg6
        have hz6 := hz5.own hg6 (by simp; omega)
        have hw6 : w5.heap.size ≤ w6.heap.size := hg6.size
        replace hX0 := exl_own hX0 hg6 (by omega)
        have hEf : Ext w6 (w6.alloc (.cells #[.int .i64 x0.op, .int .i64 x0.var, .int .i64 x0.ty, .int .i64 x0.n, .bool x0.b, .string ⟨x0.s.toArray⟩, .slice A0 x0.l.length c0, .int .i64 x1.op, .int .i64 x1.var, .int .i64 x1.ty, .int .i64 x1.n, .bool x1.b, .string ⟨x1.s.toArray⟩, .slice A1 x1.l.length c1] 29)) := Ext.alloc _ _
        have hzf := hz6.ext hEf
        obtain ⟨u0, u1, u2, u3, u4, u5, u6⟩ := hzf.cells
        obtain ⟨f0, f1, f2, f3, f4, f5, f6⟩ := hzf.free
        have HX0 := Lib.hid (((exl_lo (lo' := w.heap.size + 1) hX0 (by omega)).keep fun k hk o => hEf.old (p := ⟨k, o, none⟩) hk.2).more (S' := fun k => w.heap.size + 1 ≤ k ∧ k < (w6.alloc (.cells #[.int .i64 x0.op, .int .i64 x0.var, .int .i64 x0.ty, .int .i64 x0.n, .bool x0.b, .string ⟨x0.s.toArray⟩, .slice A0 x0.l.length c0, .int .i64 x1.op, .int .i64 x1.var, .int .i64 x1.ty, .int .i64 x1.n, .bool x1.b, .string ⟨x1.s.toArray⟩, .slice A1 x1.l.length c1] 29)).heap.size) fun k hk => ⟨hk.1, Nat.lt_of_lt_of_le hk.2 hEf.sz⟩)
        have HX1 := Lib.hid (((exl_lo (lo' := w.heap.size + 1) hX1 (by omega)).keep fun k hk o => hEf.old (p := ⟨k, o, none⟩) hk.2).more (S' := fun k => w.heap.size + 1 ≤ k ∧ k < (w6.alloc (.cells #[.int .i64 x0.op, .int .i64 x0.var, .int .i64 x0.ty, .int .i64 x0.n, .bool x0.b, .string ⟨x0.s.toArray⟩, .slice A0 x0.l.length c0, .int .i64 x1.op, .int .i64 x1.var, .int .i64 x1.ty, .int .i64 x1.n, .bool x1.b, .string ⟨x1.s.toArray⟩, .slice A1 x1.l.length c1] 29)).heap.size) fun k hk => ⟨hk.1, Nat.lt_of_lt_of_le hk.2 hEf.sz⟩)
        clear hX0 hX1
        unfold Ex.cells
        go_wp2_with fail
        refine made_fin (N := szM (m + 1)) rfl (6) [⟨x0, A0, c0⟩, ⟨x1, A1, c1⟩] (d0 + d1) (Rt.eq (1 + k4) x0 x1 hR0 hR1) (by show (Ex.mk _ 0 0 0 false [] [x0, x1]).size ≤ 2 + 2 * szM m; rw [size_2']; have := szM_pos m; omega) hzf hbl (hD6.ext hEf) (grown_trans hG6 (grown_of hEf _)) ?_ w6.heap.size ⟨by omega, by simp⟩ ?_ 2 rfl rfl
        · intro u hu
          simp only [List.mem_cons, List.not_mem_nil, or_false] at hu
          rcases hu with rfl | rfl
          · exact HX0.out.deep (by omega)
          · exact HX1.out.deep (by omega)
        · intro i v hi
          rw [World.cell?_alloc_new]
          simpa [Nd.cells, Ex.cells] using hi
      · go_wp2_with fail
        refine (IH.out 1 _ _ (by omega) (by omega) hD3).mono ?_
        rintro e w4 ⟨x0, A0, c0, d0, hR0, hs0, rfl, hX0, hD4, hg4⟩
        have hG4 := grown_trans hG3 hg4
        have hz4 := hz3.own hg4 (by simp; omega)
        have hw4 : w3.heap.size ≤ w4.heap.size := hg4.size
        unfold Ex.cells
        go_wp2_with fail
        refine (IH.out 1 _ _ (by omega) (by omega) hD4).mono ?_
        rintro e w5 ⟨x1, A1, c1, d1, hR1, hs1, rfl, hX1, hD5, hg5⟩
        have hG5 := grown_trans hG4 hg5
        have hz5 := hz4.own hg5 (by simp; omega)
        have hw5 : w4.heap.size ≤ w5.heap.size := hg5.size
        replace hX0 := exl_own hX0 hg5 (by omega)
        have hEf : Ext w5 (w5.alloc (.cells #[.int .i64 x0.op, .int .i64 x0.var, .int .i64 x0.ty, .int .i64 x0.n, .bool x0.b, .string ⟨x0.s.toArray⟩, .slice A0 x0.l.length c0, .int .i64 x1.op, .int .i64 x1.var, .int .i64 x1.ty, .int .i64 x1.n, .bool x1.b, .string ⟨x1.s.toArray⟩, .slice A1 x1.l.length c1] 29)) := Ext.alloc _ _
        have hzf := hz5.ext hEf
        obtain ⟨u0, u1, u2, u3, u4, u5, u6⟩ := hzf.cells
        obtain ⟨f0, f1, f2, f3, f4, f5, f6⟩ := hzf.free
        have HX0 := Lib.hid (((exl_lo (lo' := w.heap.size + 1) hX0 (by omega)).keep fun k hk o => hEf.old (p := ⟨k, o, none⟩) hk.2).more (S' := fun k => w.heap.size + 1 ≤ k ∧ k < (w5.alloc (.cells #[.int .i64 x0.op, .int .i64 x0.var, .int .i64 x0.ty, .int .i64 x0.n, .bool x0.b, .string ⟨x0.s.toArray⟩, .slice A0 x0.l.length c0, .int .i64 x1.op, .int .i64 x1.var, .int .i64 x1.ty, .int .i64 x1.n, .bool x1.b, .string ⟨x1.s.toArray⟩, .slice A1 x1.l.length c1] 29)).heap.size) fun k hk => ⟨hk.1, Nat.lt_of_lt_of_le hk.2 hEf.sz⟩)
        have HX1 := Lib.hid (((exl_lo (lo' := w.heap.size + 1) hX1 (by omega)).keep fun k hk o => hEf.old (p := ⟨k, o, none⟩) hk.2).more (S' := fun k => w.heap.size + 1 ≤ k ∧ k < (w5.alloc (.cells #[.int .i64 x0.op, .int .i64 x0.var, .int .i64 x0.ty, .int .i64 x0.n, .bool x0.b, .string ⟨x0.s.toArray⟩, .slice A0 x0.l.length c0, .int .i64 x1.op, .int .i64 x1.var, .int .i64 x1.ty, .int .i64 x1.n, .bool x1.b, .string ⟨x1.s.toArray⟩, .slice A1 x1.l.length c1] 29)).heap.size) fun k hk => ⟨hk.1, Nat.lt_of_lt_of_le hk.2 hEf.sz⟩)
        clear hX0 hX1
        unfold Ex.cells
        go_wp2_with fail
        refine made_fin (N := szM (m + 1)) rfl (7) [⟨x0, A0, c0⟩, ⟨x1, A1, c1⟩] (d0 + d1) (Rt.less x0 x1 hR0 hR1) (by show (Ex.mk _ 0 0 0 false [] [x0, x1]).size ≤ 2 + 2 * szM m; rw [size_2']; have := szM_pos m; omega) hzf hbl (hD5.ext hEf) (grown_trans hG5 (grown_of hEf _)) ?_ w5.heap.size ⟨by omega, by simp⟩ ?_ 2 rfl rfl
        · intro u hu
          simp only [List.mem_cons, List.not_mem_nil, or_false] at hu
          rcases hu with rfl | rfl
          · exact HX0.out.deep (by omega)
          · exact HX1.out.deep (by omega)
        · intro i v hi
          rw [World.cell?_alloc_new]
          simpa [Nd.cells, Ex.cells] using hi
      · go_wp2_with fail
        refine (IH.out 2 _ _ (by omega) (by omega) hD3).mono ?_
        rintro e w4 ⟨x0, A0, c0, d0, hR0, hs0, rfl, hX0, hD4, hg4⟩
        have hG4 := grown_trans hG3 hg4
        have hz4 := hz3.own hg4 (by simp; omega)
        have hw4 : w3.heap.size ≤ w4.heap.size := hg4.size
        unfold Ex.cells
        go_wp2_with fail
        refine (IH.out 2 _ _ (by omega) (by omega) hD4).mono ?_
        rintro e w5 ⟨x1, A1, c1, d1, hR1, hs1, rfl, hX1, hD5, hg5⟩
        have hG5 := grown_trans hG4 hg5
        have hz5 := hz4.own hg5 (by simp; omega)
        have hw5 : w4.heap.size ≤ w5.heap.size := hg5.size
        replace hX0 := exl_own hX0 hg5 (by omega)
        have hEf : Ext w5 (w5.alloc (.cells #[.int .i64 x0.op, .int .i64 x0.var, .int .i64 x0.ty, .int .i64 x0.n, .bool x0.b, .string ⟨x0.s.toArray⟩, .slice A0 x0.l.length c0, .int .i64 x1.op, .int .i64 x1.var, .int .i64 x1.ty, .int .i64 x1.n, .bool x1.b, .string ⟨x1.s.toArray⟩, .slice A1 x1.l.length c1] 29)) := Ext.alloc _ _
        have hzf := hz5.ext hEf
        obtain ⟨u0, u1, u2, u3, u4, u5, u6⟩ := hzf.cells
        obtain ⟨f0, f1, f2, f3, f4, f5, f6⟩ := hzf.free
        have HX0 := Lib.hid (((exl_lo (lo' := w.heap.size + 1) hX0 (by omega)).keep fun k hk o => hEf.old (p := ⟨k, o, none⟩) hk.2).more (S' := fun k => w.heap.size + 1 ≤ k ∧ k < (w5.alloc (.cells #[.int .i64 x0.op, .int .i64 x0.var, .int .i64 x0.ty, .int .i64 x0.n, .bool x0.b, .string ⟨x0.s.toArray⟩, .slice A0 x0.l.length c0, .int .i64 x1.op, .int .i64 x1.var, .int .i64 x1.ty, .int .i64 x1.n, .bool x1.b, .string ⟨x1.s.toArray⟩, .slice A1 x1.l.length c1] 29)).heap.size) fun k hk => ⟨hk.1, Nat.lt_of_lt_of_le hk.2 hEf.sz⟩)
        have HX1 := Lib.hid (((exl_lo (lo' := w.heap.size + 1) hX1 (by omega)).keep fun k hk o => hEf.old (p := ⟨k, o, none⟩) hk.2).more (S' := fun k => w.heap.size + 1 ≤ k ∧ k < (w5.alloc (.cells #[.int .i64 x0.op, .int .i64 x0.var, .int .i64 x0.ty, .int .i64 x0.n, .bool x0.b, .string ⟨x0.s.toArray⟩, .slice A0 x0.l.length c0, .int .i64 x1.op, .int .i64 x1.var, .int .i64 x1.ty, .int .i64 x1.n, .bool x1.b, .string ⟨x1.s.toArray⟩, .slice A1 x1.l.length c1] 29)).heap.size) fun k hk => ⟨hk.1, Nat.lt_of_lt_of_le hk.2 hEf.sz⟩)
        clear hX0 hX1
        unfold Ex.cells
        go_wp2_with fail
        refine made_fin (N := szM (m + 1)) rfl (5) [⟨x0, A0, c0⟩, ⟨x1, A1, c1⟩] (d0 + d1) (Rt.log 5 (.inr rfl) x0 x1 hR0 hR1) (by show (Ex.mk _ 0 0 0 false [] [x0, x1]).size ≤ 2 + 2 * szM m; rw [size_2']; have := szM_pos m; omega) hzf hbl (hD5.ext hEf) (grown_trans hG5 (grown_of hEf _)) ?_ w5.heap.size ⟨by omega, by simp⟩ ?_ 2 rfl rfl
        · intro u hu
          simp only [List.mem_cons, List.not_mem_nil, or_false] at hu
          rcases hu with rfl | rfl
          · exact HX0.out.deep (by omega)
          · exact HX1.out.deep (by omega)
        · intro i v hi
          rw [World.cell?_alloc_new]
          simpa [Nd.cells, Ex.cells] using hi
      · go_wp2_with fail
        refine (IH.out 2 _ _ (by omega) (by omega) hD3).mono ?_
        rintro e w4 ⟨x0, A0, c0, d0, hR0, hs0, rfl, hX0, hD4, hg4⟩
        have hG4 := grown_trans hG3 hg4
        have hz4 := hz3.own hg4 (by simp; omega)
        have hw4 : w3.heap.size ≤ w4.heap.size := hg4.size
        unfold Ex.cells
        go_wp2_with fail
        refine (IH.out 2 _ _ (by omega) (by omega) hD4).mono ?_
        rintro e w5 ⟨x1, A1, c1, d1, hR1, hs1, rfl, hX1, hD5, hg5⟩
        have hG5 := grown_trans hG4 hg5
        have hz5 := hz4.own hg5 (by simp; omega)
        have hw5 : w4.heap.size ≤ w5.heap.size := hg5.size
        replace hX0 := exl_own hX0 hg5 (by omega)
        have hEf : Ext w5 (w5.alloc (.cells #[.int .i64 x0.op, .int .i64 x0.var, .int .i64 x0.ty, .int .i64 x0.n, .bool x0.b, .string ⟨x0.s.toArray⟩, .slice A0 x0.l.length c0, .int .i64 x1.op, .int .i64 x1.var, .int .i64 x1.ty, .int .i64 x1.n, .bool x1.b, .string ⟨x1.s.toArray⟩, .slice A1 x1.l.length c1] 29)) := Ext.alloc _ _
        have hzf := hz5.ext hEf
        obtain ⟨u0, u1, u2, u3, u4, u5, u6⟩ := hzf.cells
        obtain ⟨f0, f1, f2, f3, f4, f5, f6⟩ := hzf.free
        have HX0 := Lib.hid (((exl_lo (lo' := w.heap.size + 1) hX0 (by omega)).keep fun k hk o => hEf.old (p := ⟨k, o, none⟩) hk.2).more (S' := fun k => w.heap.size + 1 ≤ k ∧ k < (w5.alloc (.cells #[.int .i64 x0.op, .int .i64 x0.var, .int .i64 x0.ty, .int .i64 x0.n, .bool x0.b, .string ⟨x0.s.toArray⟩, .slice A0 x0.l.length c0, .int .i64 x1.op, .int .i64 x1.var, .int .i64 x1.ty, .int .i64 x1.n, .bool x1.b, .string ⟨x1.s.toArray⟩, .slice A1 x1.l.length c1] 29)).heap.size) fun k hk => ⟨hk.1, Nat.lt_of_lt_of_le hk.2 hEf.sz⟩)
        have HX1 := Lib.hid (((exl_lo (lo' := w.heap.size + 1) hX1 (by omega)).keep fun k hk o => hEf.old (p := ⟨k, o, none⟩) hk.2).more (S' := fun k => w.heap.size + 1 ≤ k ∧ k < (w5.alloc (.cells #[.int .i64 x0.op, .int .i64 x0.var, .int .i64 x0.ty, .int .i64 x0.n, .bool x0.b, .string ⟨x0.s.toArray⟩, .slice A0 x0.l.length c0, .int .i64 x1.op, .int .i64 x1.var, .int .i64 x1.ty, .int .i64 x1.n, .bool x1.b, .string ⟨x1.s.toArray⟩, .slice A1 x1.l.length c1] 29)).heap.size) fun k hk => ⟨hk.1, Nat.lt_of_lt_of_le hk.2 hEf.sz⟩)
        clear hX0 hX1
        unfold Ex.cells
        go_wp2_with fail
        refine made_fin (N := szM (m + 1)) rfl (4) [⟨x0, A0, c0⟩, ⟨x1, A1, c1⟩] (d0 + d1) (Rt.log 4 (.inl rfl) x0 x1 hR0 hR1) (by show (Ex.mk _ 0 0 0 false [] [x0, x1]).size ≤ 2 + 2 * szM m; rw [size_2']; have := szM_pos m; omega) hzf hbl (hD5.ext hEf) (grown_trans hG5 (grown_of hEf _)) ?_ w5.heap.size ⟨by omega, by simp⟩ ?_ 2 rfl rfl
        · intro u hu
          simp only [List.mem_cons, List.not_mem_nil, or_false] at hu
          rcases hu with rfl | rfl
          · exact HX0.out.deep (by omega)
          · exact HX1.out.deep (by omega)
        · intro i v hi
          rw [World.cell?_alloc_new]
          simpa [Nd.cells, Ex.cells] using hi
      · go_wp2_with fail
        refine (IH.out 2 _ _ (by omega) (by omega) hD3).mono ?_
        rintro e w4 ⟨x0, A0, c0, d0, hR0, hs0, rfl, hX0, hD4, hg4⟩
        have hG4 := grown_trans hG3 hg4
        have hz4 := hz3.own hg4 (by simp; omega)
        have hw4 : w3.heap.size ≤ w4.heap.size := hg4.size
        unfold Ex.cells
        go_wp2_with fail
        refine (IH.out 2 _ _ (by omega) (by omega) hD4).mono ?_
        rintro e w5 ⟨x1, A1, c1, d1, hR1, hs1, rfl, hX1, hD5, hg5⟩
        have hG5 := grown_trans hG4 hg5
        have hz5 := hz4.own hg5 (by simp; omega)
        have hw5 : w4.heap.size ≤ w5.heap.size := hg5.size
        replace hX0 := exl_own hX0 hg5 (by omega)
        have hEf : Ext w5 (w5.alloc (.cells #[.int .i64 x0.op, .int .i64 x0.var, .int .i64 x0.ty, .int .i64 x0.n, .bool x0.b, .string ⟨x0.s.toArray⟩, .slice A0 x0.l.length c0, .int .i64 x1.op, .int .i64 x1.var, .int .i64 x1.ty, .int .i64 x1.n, .bool x1.b, .string ⟨x1.s.toArray⟩, .slice A1 x1.l.length c1] 29)) := Ext.alloc _ _
        have hzf := hz5.ext hEf
        obtain ⟨u0, u1, u2, u3, u4, u5, u6⟩ := hzf.cells
        obtain ⟨f0, f1, f2, f3, f4, f5, f6⟩ := hzf.free
        have HX0 := Lib.hid (((exl_lo (lo' := w.heap.size + 1) hX0 (by omega)).keep fun k hk o => hEf.old (p := ⟨k, o, none⟩) hk.2).more (S' := fun k => w.heap.size + 1 ≤ k ∧ k < (w5.alloc (.cells #[.int .i64 x0.op, .int .i64 x0.var, .int .i64 x0.ty, .int .i64 x0.n, .bool x0.b, .string ⟨x0.s.toArray⟩, .slice A0 x0.l.length c0, .int .i64 x1.op, .int .i64 x1.var, .int .i64 x1.ty, .int .i64 x1.n, .bool x1.b, .string ⟨x1.s.toArray⟩, .slice A1 x1.l.length c1] 29)).heap.size) fun k hk => ⟨hk.1, Nat.lt_of_lt_of_le hk.2 hEf.sz⟩)
        have HX1 := Lib.hid (((exl_lo (lo' := w.heap.size + 1) hX1 (by omega)).keep fun k hk o => hEf.old (p := ⟨k, o, none⟩) hk.2).more (S' := fun k => w.heap.size + 1 ≤ k ∧ k < (w5.alloc (.cells #[.int .i64 x0.op, .int .i64 x0.var, .int .i64 x0.ty, .int .i64 x0.n, .bool x0.b, .string ⟨x0.s.toArray⟩, .slice A0 x0.l.length c0, .int .i64 x1.op, .int .i64 x1.var, .int .i64 x1.ty, .int .i64 x1.n, .bool x1.b, .string ⟨x1.s.toArray⟩, .slice A1 x1.l.length c1] 29)).heap.size) fun k hk => ⟨hk.1, Nat.lt_of_lt_of_le hk.2 hEf.sz⟩)
        clear hX0 hX1
        unfold Ex.cells
        go_wp2_with fail
        refine made_fin (N := szM (m + 1)) rfl (4) [⟨x0, A0, c0⟩, ⟨x1, A1, c1⟩] (d0 + d1) (Rt.log 4 (.inl rfl) x0 x1 hR0 hR1) (by show (Ex.mk _ 0 0 0 false [] [x0, x1]).size ≤ 2 + 2 * szM m; rw [size_2']; have := szM_pos m; omega) hzf hbl (hD5.ext hEf) (grown_trans hG5 (grown_of hEf _)) ?_ w5.heap.size ⟨by omega, by simp⟩ ?_ 2 rfl rfl
        · intro u hu
          simp only [List.mem_cons, List.not_mem_nil, or_false] at hu
          rcases hu with rfl | rfl
          · exact HX0.out.deep (by omega)
          · exact HX1.out.deep (by omega)
        · intro i v hi
          rw [World.cell?_alloc_new]
          simpa [Nd.cells, Ex.cells] using hi
set_option maxRecDepth 100000 in
set_option maxHeartbeats 16000000 in
theorem made_text (m : Nat) (ih : MadeC m) : ∀ (b : Nat) (w : World), DrA w b → m ≤ 3 → Calls Tryz.prog 24 #[dp b, .int .i64 3, .int .i64 ((m : Int) + 1)] w (MadeR 3 (szM (m + 1)) b w) := by
  intro b w hD hm
  have hbl := hD.lt
  have hz0 := Z7.new w
  obtain ⟨w0, hw0⟩ : ∃ w0, w.alloc (.cells zero7 29) = w0 := ⟨_, rfl⟩
  have hE0 : Ext w w0 := by rw [← hw0]; exact Ext.alloc _ _
  have hs0 : w0.heap.size = w.heap.size + 1 := by rw [← hw0]; simp
  rw [hw0] at hz0
  have hD0 := hD.ext hE0
  have HW := Lib.hid hw0
  have hs0' : w.heap.size + 1 ≤ w0.heap.size := by omega
  have hG0 : w.grownBy w0 (some b) := grown_of hE0 _
  have DN := Lib.hid (fun (m : Int) (W : World) (h : DrA W b) (h1 : 0 < m) (h2 : m < 4294967296) => draw_any m b W h h1 h2)
  have LF := Lib.hid (fun (t : Int) (W : World) (ht : 1 ≤ t ∧ t ≤ 3) (h : DrA W b) => leaf_any t ht b W h)
  have IH := Lib.hid (fun (t q : Int) (W : World) (ht : 1 ≤ t ∧ t ≤ 3) (hq : q = (m : Int)) (h : DrA W b) => ih t q b W ht hq h)
  obtain ⟨q, hq⟩ : ∃ q, (m : Int) + 1 = q := ⟨_, rfl⟩
  have hq1 : 1 ≤ q ∧ q ≤ 4 := by omega
  have hqm : q - 1 ≤ m ∧ m ≤ q - 1 := by omega
  have e0 : (q == 0) = false := by rw [beq_eq_false_iff_ne]; omega
  rw [hq]
  unfold zero7 at HW
  unfold dp at *
  clear hw0 hs0 hD ih hq
  go_enter Tryz.func24, Tryz.ntmps24
  go_upto_region 1 with fail
  rw [HW.out]
  go_wp2_with fail
  refine (DN.out 5 _ hD0 (by decide) (by decide)).mono ?_
  rintro e w1 ⟨k1, p1, q1, rfl, hD1, hg1⟩
  have hG1 := grown_trans hG0 hg1
  have hz1 := hz0.own hg1 (by simp; omega)
  have hw1 : w0.heap.size ≤ w1.heap.size := hg1.size
  by_cases h1 : k1 = 0
  · subst h1
    go_wp2_with fail
    refine (LF.out 3 _ (by omega) hD1).mono ?_
    rintro e w2 ⟨x, hR, hl, rfl, hD2, hg2⟩
    obtain ⟨op, var, ty, n, bb, s, l⟩ := x
    obtain rfl : l = [] := hl
    have HR := Lib.hid hR
    have hz2 := hz1.own hg2 (by simp; omega)
    have hG2 := grown_trans hG1 hg2
    obtain ⟨u0, u1, u2, u3, u4, u5, u6⟩ := hz2.cells
    obtain ⟨f0, f1, f2, f3, f4, f5, f6⟩ := hz2.free
    clear hR
    unfold Ex.cells
    go_wp2_with fail
    exact made_leaf_fin rfl (.mk op var ty n bb s []) HR.out rfl hz2 hbl hD2 hG2 (szM_pos _) rfl
  · have e1 : (k1 == 0) = false := by rw [beq_eq_false_iff_ne]; exact h1
    clear h1
    go_wp2_with fail
    refine (DN.out 6 _ hD1 (by decide) (by decide)).mono ?_
    rintro e w2 ⟨k2, p2, q2, rfl, hD2, hg2⟩
    have hG2 := grown_trans hG1 hg2
    have hz2 := hz1.own hg2 (by simp; omega)
    have hw2 : w1.heap.size ≤ w2.heap.size := hg2.size
    by_cases h2 : k2 = 0
    · subst h2
      go_wp2_with fail
      refine (IH.out 2 _ _ (by omega) (by omega) hD2).mono ?_
      rintro e w3 ⟨x0, A0, c0, d0, hR0, hs0, rfl, hX0, hD3, hg3⟩
      have hG3 := grown_trans hG2 hg3
      have hz3 := hz2.own hg3 (by simp; omega)
      have hw3 : w2.heap.size ≤ w3.heap.size := hg3.size
      unfold Ex.cells
      go_wp2_with fail
      refine (IH.out 3 _ _ (by omega) (by omega) hD3).mono ?_
      rintro e w4 ⟨x1, A1, c1, d1, hR1, hs1, rfl, hX1, hD4, hg4⟩
      have hG4 := grown_trans hG3 hg4
      have hz4 := hz3.own hg4 (by simp; omega)
      have hw4 : w3.heap.size ≤ w4.heap.size := hg4.size
      replace hX0 := exl_own hX0 hg4 (by omega)
      unfold Ex.cells
      go_wp2_with fail
      refine (LF.out 3 _ (by omega) hD4).mono ?_
      rintro e w5 ⟨x2, hR2, hl2, rfl, hD5, hg5⟩
      have hs2 : x2.size ≤ 1 := by rw [x2.size_eq, hl2]; simp [Ex.sizes]
      have hX2 : ExL w5 (fun k => w4.heap.size ≤ k ∧ k < w5.heap.size) 0 none x2.l := by rw [hl2]; exact ExL.nil _ _ _ _
      clear hl2
      have hG5 := grown_trans hG4 hg5
      have hz5 := hz4.own hg5 (by simp; omega)
      have hw5 : w4.heap.size ≤ w5.heap.size := hg5.size
      replace hX0 := exl_own hX0 hg5 (by omega)
      replace hX1 := exl_own hX1 hg5 (by omega)
      have hEf : Ext w5 (w5.alloc (.cells #[.int .i64 x0.op, .int .i64 x0.var, .int .i64 x0.ty, .int .i64 x0.n, .bool x0.b, .string ⟨x0.s.toArray⟩, .slice A0 x0.l.length c0, .int .i64 x1.op, .int .i64 x1.var, .int .i64 x1.ty, .int .i64 x1.n, .bool x1.b, .string ⟨x1.s.toArray⟩, .slice A1 x1.l.length c1, .int .i64 x2.op, .int .i64 x2.var, .int .i64 x2.ty, .int .i64 x2.n, .bool x2.b, .string ⟨x2.s.toArray⟩, .slice none x2.l.length 0] 29)) := Ext.alloc _ _
      have hzf := hz5.ext hEf
      obtain ⟨u0, u1, u2, u3, u4, u5, u6⟩ := hzf.cells
      obtain ⟨f0, f1, f2, f3, f4, f5, f6⟩ := hzf.free
      have HX0 := Lib.hid (((exl_lo (lo' := w.heap.size + 1) hX0 (by omega)).keep fun k hk o => hEf.old (p := ⟨k, o, none⟩) hk.2).more (S' := fun k => w.heap.size + 1 ≤ k ∧ k < (w5.alloc (.cells #[.int .i64 x0.op, .int .i64 x0.var, .int .i64 x0.ty, .int .i64 x0.n, .bool x0.b, .string ⟨x0.s.toArray⟩, .slice A0 x0.l.length c0, .int .i64 x1.op, .int .i64 x1.var, .int .i64 x1.ty, .int .i64 x1.n, .bool x1.b, .string ⟨x1.s.toArray⟩, .slice A1 x1.l.length c1, .int .i64 x2.op, .int .i64 x2.var, .int .i64 x2.ty, .int .i64 x2.n, .bool x2.b, .string ⟨x2.s.toArray⟩, .slice none x2.l.length 0] 29)).heap.size) fun k hk => ⟨hk.1, Nat.lt_of_lt_of_le hk.2 hEf.sz⟩)
      have HX1 := Lib.hid (((exl_lo (lo' := w.heap.size + 1) hX1 (by omega)).keep fun k hk o => hEf.old (p := ⟨k, o, none⟩) hk.2).more (S' := fun k => w.heap.size + 1 ≤ k ∧ k < (w5.alloc (.cells #[.int .i64 x0.op, .int .i64 x0.var, .int .i64 x0.ty, .int .i64 x0.n, .bool x0.b, .string ⟨x0.s.toArray⟩, .slice A0 x0.l.length c0, .int .i64 x1.op, .int .i64 x1.var, .int .i64 x1.ty, .int .i64 x1.n, .bool x1.b, .string ⟨x1.s.toArray⟩, .slice A1 x1.l.length c1, .int .i64 x2.op, .int .i64 x2.var, .int .i64 x2.ty, .int .i64 x2.n, .bool x2.b, .string ⟨x2.s.toArray⟩, .slice none x2.l.length 0] 29)).heap.size) fun k hk => ⟨hk.1, Nat.lt_of_lt_of_le hk.2 hEf.sz⟩)
      have HX2 := Lib.hid (((exl_lo (lo' := w.heap.size + 1) hX2 (by omega)).keep fun k hk o => hEf.old (p := ⟨k, o, none⟩) hk.2).more (S' := fun k => w.heap.size + 1 ≤ k ∧ k < (w5.alloc (.cells #[.int .i64 x0.op, .int .i64 x0.var, .int .i64 x0.ty, .int .i64 x0.n, .bool x0.b, .string ⟨x0.s.toArray⟩, .slice A0 x0.l.length c0, .int .i64 x1.op, .int .i64 x1.var, .int .i64 x1.ty, .int .i64 x1.n, .bool x1.b, .string ⟨x1.s.toArray⟩, .slice A1 x1.l.length c1, .int .i64 x2.op, .int .i64 x2.var, .int .i64 x2.ty, .int .i64 x2.n, .bool x2.b, .string ⟨x2.s.toArray⟩, .slice none x2.l.length 0] 29)).heap.size) fun k hk => ⟨hk.1, Nat.lt_of_lt_of_le hk.2 hEf.sz⟩)
      clear hX0 hX1 hX2
      unfold Ex.cells
      go_wp2_with fail
      refine made_fin (N := szM (m + 1)) rfl (13) [⟨x0, A0, c0⟩, ⟨x1, A1, c1⟩, ⟨x2, none, 0⟩] (d0 + d1 + 0) (Rt.ite 3 x0 x1 x2 hR0 hR1 hR2) (by show (Ex.mk _ 0 0 0 false [] [x0, x1, x2]).size ≤ 2 + 2 * szM m; rw [size_3']; have := szM_pos m; omega) hzf hbl (hD5.ext hEf) (grown_trans hG5 (grown_of hEf _)) ?_ w5.heap.size ⟨by omega, by simp⟩ ?_ 3 rfl rfl
      · intro u hu
        simp only [List.mem_cons, List.not_mem_nil, or_false] at hu
        rcases hu with rfl | rfl | rfl
        · exact HX0.out.deep (by omega)
        · exact HX1.out.deep (by omega)
        · exact HX2.out.deep (by omega)
      · intro i v hi
        rw [World.cell?_alloc_new]
        simpa [Nd.cells, Ex.cells] using hi
    · have e2 : (k2 == 0) = false := by rw [beq_eq_false_iff_ne]; exact h2
      clear h2
      go_wp2_with fail
      refine (DN.out 3 _ hD2 (by decide) (by decide)).mono ?_
      rintro e w3 ⟨k3, p3, q3, rfl, hD3, hg3⟩
      have hG3 := grown_trans hG2 hg3
      have hz3 := hz2.own hg3 (by simp; omega)
      have hw3 : w2.heap.size ≤ w3.heap.size := hg3.size
      by_cases h3 : k3 = 0
      · subst h3
        go_wp2_with fail
        refine (IH.out 2 _ _ (by omega) (by omega) hD3).mono ?_
        rintro e w4 ⟨x0, A0, c0, d0, hR0, hs0, rfl, hX0, hD4, hg4⟩
        have hG4 := grown_trans hG3 hg4
        have hz4 := hz3.own hg4 (by simp; omega)
        have hw4 : w3.heap.size ≤ w4.heap.size := hg4.size
        unfold Ex.cells
        go_wp2_with fail
        refine (IH.out 3 _ _ (by omega) (by omega) hD4).mono ?_
        rintro e w5 ⟨x1, A1, c1, d1, hR1, hs1, rfl, hX1, hD5, hg5⟩
        have hG5 := grown_trans hG4 hg5
        have hz5 := hz4.own hg5 (by simp; omega)
        have hw5 : w4.heap.size ≤ w5.heap.size := hg5.size
        replace hX0 := exl_own hX0 hg5 (by omega)
        unfold Ex.cells
        go_wp2_with fail
        refine (LF.out 3 _ (by omega) hD5).mono ?_
        rintro e w6 ⟨x2, hR2, hl2, rfl, hD6, hg6⟩
        have hs2 : x2.size ≤ 1 := by rw [x2.size_eq, hl2]; simp [Ex.sizes]
        have hX2 : ExL w6 (fun k => w5.heap.size ≤ k ∧ k < w6.heap.size) 0 none x2.l := by rw [hl2]; exact ExL.nil _ _ _ _
        clear hl2
        have hG6 := grown_trans hG5 hg6
        have hz6 := hz5.own hg6 (by simp; omega)
        have hw6 : w5.heap.size ≤ w6.heap.size := hg6.size
        replace hX0 := exl_own hX0 hg6 (by omega)
        replace hX1 := exl_own hX1 hg6 (by omega)
        have hEf : Ext w6 (w6.alloc (.cells #[.int .i64 x0.op, .int .i64 x0.var, .int .i64 x0.ty, .int .i64 x0.n, .bool x0.b, .string ⟨x0.s.toArray⟩, .slice A0 x0.l.length c0, .int .i64 x1.op, .int .i64 x1.var, .int .i64 x1.ty, .int .i64 x1.n, .bool x1.b, .string ⟨x1.s.toArray⟩, .slice A1 x1.l.length c1, .int .i64 x2.op, .int .i64 x2.var, .int .i64 x2.ty, .int .i64 x2.n, .bool x2.b, .string ⟨x2.s.toArray⟩, .slice none x2.l.length 0] 29)) := Ext.alloc _ _
        have hzf := hz6.ext hEf
        obtain ⟨u0, u1, u2, u3, u4, u5, u6⟩ := hzf.cells
        obtain ⟨f0, f1, f2, f3, f4, f5, f6⟩ := hzf.free
        have HX0 := Lib.hid (((exl_lo (lo' := w.heap.size + 1) hX0 (by omega)).keep fun k hk o => hEf.old (p := ⟨k, o, none⟩) hk.2).more (S' := fun k => w.heap.size + 1 ≤ k ∧ k < (w6.alloc (.cells #[.int .i64 x0.op, .int .i64 x0.var, .int .i64 x0.ty, .int .i64 x0.n, .bool x0.b, .string ⟨x0.s.toArray⟩, .slice A0 x0.l.length c0, .int .i64 x1.op, .int .i64 x1.var, .int .i64 x1.ty, .int .i64 x1.n, .bool x1.b, .string ⟨x1.s.toArray⟩, .slice A1 x1.l.length c1, .int .i64 x2.op, .int .i64 x2.var, .int .i64 x2.ty, .int .i64 x2.n, .bool x2.b, .string ⟨x2.s.toArray⟩, .slice none x2.l.length 0] 29)).heap.size) fun k hk => ⟨hk.1, Nat.lt_of_lt_of_le hk.2 hEf.sz⟩)
        have HX1 := Lib.hid (((exl_lo (lo' := w.heap.size + 1) hX1 (by omega)).keep fun k hk o => hEf.old (p := ⟨k, o, none⟩) hk.2).more (S' := fun k => w.heap.size + 1 ≤ k ∧ k < (w6.alloc (.cells #[.int .i64 x0.op, .int .i64 x0.var, .int .i64 x0.ty, .int .i64 x0.n, .bool x0.b, .string ⟨x0.s.toArray⟩, .slice A0 x0.l.length c0, .int .i64 x1.op, .int .i64 x1.var, .int .i64 x1.ty, .int .i64 x1.n, .bool x1.b, .string ⟨x1.s.toArray⟩, .slice A1 x1.l.length c1, .int .i64 x2.op, .int .i64 x2.var, .int .i64 x2.ty, .int .i64 x2.n, .bool x2.b, .string ⟨x2.s.toArray⟩, .slice none x2.l.length 0] 29)).heap.size) fun k hk => ⟨hk.1, Nat.lt_of_lt_of_le hk.2 hEf.sz⟩)
        have HX2 := Lib.hid (((exl_lo (lo' := w.heap.size + 1) hX2 (by omega)).keep fun k hk o => hEf.old (p := ⟨k, o, none⟩) hk.2).more (S' := fun k => w.heap.size + 1 ≤ k ∧ k < (w6.alloc (.cells #[.int .i64 x0.op, .int .i64 x0.var, .int .i64 x0.ty, .int .i64 x0.n, .bool x0.b, .string ⟨x0.s.toArray⟩, .slice A0 x0.l.length c0, .int .i64 x1.op, .int .i64 x1.var, .int .i64 x1.ty, .int .i64 x1.n, .bool x1.b, .string ⟨x1.s.toArray⟩, .slice A1 x1.l.length c1, .int .i64 x2.op, .int .i64 x2.var, .int .i64 x2.ty, .int .i64 x2.n, .bool x2.b, .string ⟨x2.s.toArray⟩, .slice none x2.l.length 0] 29)).heap.size) fun k hk => ⟨hk.1, Nat.lt_of_lt_of_le hk.2 hEf.sz⟩)
        clear hX0 hX1 hX2
        unfold Ex.cells
        go_wp2_with fail
        refine made_fin (N := szM (m + 1)) rfl (13) [⟨x0, A0, c0⟩, ⟨x1, A1, c1⟩, ⟨x2, none, 0⟩] (d0 + d1 + 0) (Rt.ite 3 x0 x1 x2 hR0 hR1 hR2) (by show (Ex.mk _ 0 0 0 false [] [x0, x1, x2]).size ≤ 2 + 2 * szM m; rw [size_3']; have := szM_pos m; omega) hzf hbl (hD6.ext hEf) (grown_trans hG6 (grown_of hEf _)) ?_ w6.heap.size ⟨by omega, by simp⟩ ?_ 3 rfl rfl
        · intro u hu
          simp only [List.mem_cons, List.not_mem_nil, or_false] at hu
          rcases hu with rfl | rfl | rfl
          · exact HX0.out.deep (by omega)
          · exact HX1.out.deep (by omega)
          · exact HX2.out.deep (by omega)
        · intro i v hi
          rw [World.cell?_alloc_new]
          simpa [Nd.cells, Ex.cells] using hi
      · have e3 : (k3 == 0) = false := by rw [beq_eq_false_iff_ne]; exact h3
        clear h3
        go_wp2_with fail
        refine (LF.out 3 _ (by omega) hD3).mono ?_
        rintro e w4 ⟨x, hR, hl, rfl, hD4, hg4⟩
        obtain ⟨op, var, ty, n, bb, s, l⟩ := x
        obtain rfl : l = [] := hl
        have HR := Lib.hid hR
        have hz4 := hz3.own hg4 (by simp; omega)
        have hG4 := grown_trans hG3 hg4
        obtain ⟨u0, u1, u2, u3, u4, u5, u6⟩ := hz4.cells
        obtain ⟨f0, f1, f2, f3, f4, f5, f6⟩ := hz4.free
        clear hR
        unfold Ex.cells
        go_wp2_with fail
        exact made_leaf_fin rfl (.mk op var ty n bb s []) HR.out rfl hz4 hbl hD4 hG4 (szM_pos _) rfl
theorem made_all : ∀ m : Nat, m ≤ 4 → MadeC m
  | 0, _ => fun t q b w ht hq hD => by
    obtain rfl : q = 0 := by omega
    exact made_zero t ht b w hD trivial
  | m + 1, hm => fun t q b w ht hq hD => by
    obtain rfl : q = (m : Int) + 1 := by omega
    rcases (by omega : t = 1 ∨ t = 2 ∨ t = 3) with rfl | rfl | rfl
    · exact made_int m (made_all m (by omega)) b w hD (by omega)
    · exact made_bool m (made_all m (by omega)) b w hD (by omega)
    · exact made_text m (made_all m (by omega)) b w hD (by omega)
end Go.Proofs.YtggkkjnfonbpkaaGreatDoor
