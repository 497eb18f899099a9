/- ExprTyped: the contracts of its closures. -/
import Derived.Test.YtggkkjnfonbpkaaGreatDoorQXk
import Derived.Test.YtggkkjnfonbpkaaGreatDoorQId
import Derived.Test.YtggkkjnfonbpkaaGreatDoorQGh

set_option linter.unusedSimpArgs false
set_option linter.unusedVariables false
namespace Go.Proofs.YtggkkjnfonbpkaaGreatDoor
open Go.RowKit Hach

/- an operator over a list of operands -/
theorem op_any (o : Int) (l : List Ex) (A : Option Addr) (n c : Nat) (hn : n = l.length) (w : World) : Calls Tryz.prog 27 #[.int .i64 o, .slice A n c] w fun e w' => e = .returned (.agg #[.int .i64 o, .int .i64 0, .int .i64 0, .int .i64 0, .bool false, .string ⟨#[]⟩, .slice A n c]) ∧ Ext w w' := by
  have hz := Z7.new w
  obtain ⟨w0, hw0⟩ : ∃ w0, w.alloc (.cells zero7 29) = w0 := ⟨_, rfl⟩
  have hE0 : Ext w w0 := by rw [← hw0]; exact Ext.alloc _ _
  rw [hw0] at hz
  have HW := Lib.hid hw0
  have HN := Lib.hid hn
  unfold zero7 at HW
  clear hw0 hn
  obtain ⟨u0, u1, u2, u3, u4, u5, u6⟩ := hz.cells
  obtain ⟨f0, f1, f2, f3, f4, f5, f6⟩ := hz.free
  have hG := set7_grown w0 w.heap.size (exOp o l) (.slice A n c)
  have hE1 : Ext w (set7 w0 w.heap.size (exOp o l) (.slice A n c)) := Below.trans hE0 (below_row' hG hE0.sz (fun g e => by simp only [Option.some.injEq] at e; omega))
  have HE1 := Lib.hid hE1
  clear hG hE1
  go_enter Tryz.func27, Tryz.ntmps27
  go_upto_region 1 with fail
  rw [HW.out]
  go_wp2_with fail
  have hn := HN.out
  subst hn
  exact fin7 rfl (exOp o l) hz A _ c rfl rfl ⟨rfl, HE1.out⟩
/- not -/
def opR (o : Int) (l : List Ex) (n d : Nat) (w : World) (e : Ending) (w' : World) : Prop := ∃ g c, e = .returned (.agg #[.int .i64 o, .int .i64 0, .int .i64 0, .int .i64 0, .bool false, .string ⟨#[]⟩, .slice (some ⟨g, 0, none⟩) n c]) ∧ ExB w' w'.heap.size d (some ⟨g, 0, none⟩) l ∧ Ext w w'
theorem row1 (S : Nat → Prop) (w : World) (x : Ex) (A : Option Addr) (c d : Nat) (hX : ExL w S d A x.l) (hS : ∀ b, S b → b < w.heap.size) : ExL (w.alloc (.cells #[.int .i64 x.op, .int .i64 x.var, .int .i64 x.ty, .int .i64 x.n, .bool x.b, .string ⟨x.s.toArray⟩, .slice A x.l.length c] 29)) (fun b => S b ∨ b = w.heap.size) (d + 1) (some ⟨w.heap.size, 0, none⟩) [x] := by
  have hE := Ext.alloc w (.cells #[.int .i64 x.op, .int .i64 x.var, .int .i64 x.ty, .int .i64 x.n, .bool x.b, .string ⟨x.s.toArray⟩, .slice A x.l.length c] 29)
  refine ExL.row (us := [⟨x, A, c⟩]) (.inr rfl) (fun u hu => ?_) (fun i v hi => ?_)
  · simp only [List.mem_cons, List.not_mem_nil, or_false] at hu
    subst hu
    exact (hX.keep fun b hb o => hE.old (p := ⟨b, o, none⟩) (hS b hb)).more fun b hb => .inl hb
  · rw [World.cell?_alloc_new]
    simpa [Nd.cells, Ex.cells] using hi
set_option maxRecDepth 100000 in
theorem not_any (x : Ex) (A : Option Addr) (c d p : Nat) (w : World) (hX : ExB w w.heap.size d A x.l) (hp : p < w.heap.size) (hc : w.cell? ⟨p, 0, none⟩ = some (.func (.func 27) #[] #[])) :
    Calls Tryz.prog 28 #[.agg #[.int .i64 x.op, .int .i64 x.var, .int .i64 x.ty, .int .i64 x.n, .bool x.b, .string ⟨x.s.toArray⟩, .slice A x.l.length c], .pointer (some ⟨p, 0, none⟩)] w (opR 3 [x] 1 (d + 1) w) := by
  obtain ⟨w0, hw0⟩ : ∃ w0, w.alloc (.cells #[.int .i64 x.op, .int .i64 x.var, .int .i64 x.ty, .int .i64 x.n, .bool x.b, .string ⟨x.s.toArray⟩, .slice A x.l.length c] 29) = w0 := ⟨_, rfl⟩
  have hE0 : Ext w w0 := by rw [← hw0]; exact Ext.alloc _ _
  have hin := InBlk.new2 w x A c
  unfold Ex.cells at hin
  rw [hw0] at hin
  have hs0 : w0.heap.size = w.heap.size + 1 := by rw [← hw0]; simp
  obtain ⟨w1, hw1⟩ : ∃ w1, w0.alloc (.cells zero7 29) = w1 := ⟨_, rfl⟩
  have hz := Z7.new w0
  rw [hw1, hs0] at hz
  have hE1 : Ext w0 w1 := by rw [← hw1]; exact Ext.alloc _ _
  have hs1 : w1.heap.size = w.heap.size + 2 := by rw [← hw1]; simp; omega
  obtain ⟨c0, c1, c2, c3, c4, c5, c6⟩ := (hin.ext hE1).cells
  have hpc := ((hE0.trans hE1).old (p := ⟨p, 0, none⟩) hp).trans hc
  have hX1 : ExL w1 (fun b => b < w.heap.size) d A x.l := hX.keep fun b hb o => (hE0.trans hE1).old (p := ⟨b, o, none⟩) hb
  have HW0 := Lib.hid hw0
  have HW1 := Lib.hid hw1
  unfold zero7 at HW1
  have HR := Lib.hid (row1 _ w1 x A c d hX1 (fun b hb => by omega))
  have hE2 : Ext w1 (w1.alloc (.cells #[.int .i64 x.op, .int .i64 x.var, .int .i64 x.ty, .int .i64 x.n, .bool x.b, .string ⟨x.s.toArray⟩, .slice A x.l.length c] 29)) := Ext.alloc _ _
  have HZ := Lib.hid (hz.ext hE2)
  have HE := Lib.hid ((hE0.trans hE1).trans hE2)
  have OP := Lib.hid (fun (W : World) => op_any 3 [x] (some ⟨w1.heap.size, 0, none⟩) 1 1 rfl W)
  have HS1 := Lib.hid hs1
  clear hw0 hw1 hs0 hs1 hc hE0 hE1 hE2 hz hin hX1 hX
  go_enter Tryz.func28, Tryz.ntmps28
  go_upto_region 1 with fail
  rw [HW0.out, HW1.out]
  go_wp2_with fail
  refine (OP.out _).mono ?_
  rintro r w3 ⟨rfl, hE3⟩
  have hz3 := HZ.out.ext hE3
  obtain ⟨u0, u1, u2, u3, u4, u5, u6⟩ := hz3.cells
  obtain ⟨f0, f1, f2, f3, f4, f5, f6⟩ := hz3.free
  have hE := HE.out.trans hE3
  have hG := set7_grown w3 (w.heap.size + 1) (exOp 3 [x]) (.slice (some ⟨w1.heap.size, 0, none⟩) 1 1)
  have hE4 : Ext w (set7 w3 (w.heap.size + 1) (exOp 3 [x]) (.slice (some ⟨w1.heap.size, 0, none⟩) 1 1)) := Below.trans hE (below_row' hG hE.sz (fun g e => by simp only [Option.some.injEq] at e; omega))
  have HE4 := Lib.hid hE4
  have hX4 : ExB (set7 w3 (w.heap.size + 1) (exOp 3 [x]) (.slice (some ⟨w1.heap.size, 0, none⟩) 1 1)) (set7 w3 (w.heap.size + 1) (exOp 3 [x]) (.slice (some ⟨w1.heap.size, 0, none⟩) 1 1)).heap.size (d + 1) (some ⟨w1.heap.size, 0, none⟩) [x] := by
    have hs := HS1.out
    have hsz3 := hE3.sz
    simp only [World.size_alloc] at hsz3
    have h1 := HR.out.keep fun b hb o => hE3.old (p := ⟨b, o, none⟩) (show b < _ by simp only [World.size_alloc]; omega)
    have h2 := h1.keep fun b hb o => grown_cell hG (show b < w3.heap.size by omega) (by simp; omega) o
    exact h2.more fun b hb => by have := hG.size; omega
  have HX4 := Lib.hid hX4
  clear hG hE4 hX4 hE
  go_wp2_with fail
  exact fin7 rfl (exOp 3 [x]) hz3 _ _ 1 rfl rfl ⟨w1.heap.size, 1, rfl, HX4.out, HE4.out⟩
/- val -/
theorem has_ty {B : Nat} {v : Va} {t : Int} (h : Has B v t) : v.vl.ty = t := by cases h <;> rfl
theorem vt_bd {x : En} {e : Ex} (h : Rt e 1) : -1073741824 ≤ (vt x e).n ∧ (vt x e).n ≤ 1073741824 := by
  obtain ⟨n, hn, h1, h2⟩ := (val_hasB x h).i
  unfold vt
  rw [hn]
  exact ⟨h1, h2⟩
theorem val_any (x : En) (e : Ex) (t : Int) (A : Option Addr) (c d p : Nat) (w : World) (hR : Rt e t) (hsz : e.size ≤ 60) (hX : ExB w w.heap.size d A e.l) (hp : EnBox w p x) :
    Calls Tryz.prog 25 #[.agg #[.int .i64 e.op, .int .i64 e.var, .int .i64 e.ty, .int .i64 e.n, .bool e.b, .string ⟨e.s.toArray⟩, .slice A e.l.length c], .pointer (some ⟨p, 0, none⟩)] w fun r w' => r = .returned (vt x e).v ∧ Ext w w' := by
  obtain ⟨w0, hw0⟩ : ∃ w0, w.alloc (.cells #[.int .i64 e.op, .int .i64 e.var, .int .i64 e.ty, .int .i64 e.n, .bool e.b, .string ⟨e.s.toArray⟩, .slice A e.l.length c] 29) = w0 := ⟨_, rfl⟩
  have hE0 : Ext w w0 := by rw [← hw0]; exact Ext.alloc _ _
  have hin := InBlk.new2 w e A c
  unfold Ex.cells at hin
  rw [hw0] at hin
  have hs0 : w0.heap.size = w.heap.size + 1 := by rw [← hw0]; simp
  obtain ⟨w1, hw1⟩ : ∃ w1, w0.alloc (.cells #[.int .i64 0, .int .i64 0, .bool false, .string ⟨#[]⟩] 26) = w1 := ⟨_, rfl⟩
  have hz := V4.new w0
  rw [hw1, hs0] at hz
  have hE1 : Ext w0 w1 := by rw [← hw1]; exact Ext.alloc _ _
  have hE01 := hE0.trans hE1
  have hI1 := hin.ext hE1
  have hX1 : ExB w1 w1.heap.size d A e.l := ExL.ext (ExL.ext hX hE0) hE1
  have hck := chk_of hR hsz
  have hev := evV_of hR hsz x
  have hok := rt_ok hR
  have CK := Lib.hid (Check_any e d A c w1 hX1 (by omega) hok)
  have EV := Lib.hid (fun (W : World) (h : Ext w1 W) => Eval_any e x d A c W (hX1.ext h) (by omega) hok)
  rw [hck.1, hck.2] at CK
  rw [hck.2, hev] at EV
  have hty : (vt x e).ty = t := has_ty (val_hasB x hR)
  have hbd : t = 1 → -1073741824 ≤ (vt x e).n ∧ (vt x e).n ≤ 1073741824 := fun h => by subst h; exact vt_bd hR
  unfold Ex.cells at CK EV
  unfold En.v at EV
  generalize vt x e = y at *
  have t1 : (y.ty != t) = false := by rw [hty]; simp
  have HZ := Lib.hid hz
  have HI := Lib.hid hI1
  have HP := Lib.hid (hp.ext hE01)
  have HW0 := Lib.hid hw0
  have HW1 := Lib.hid hw1
  have HE := Lib.hid hE01
  obtain ⟨c0, c1, c2, c3, c4, c5, c6⟩ := hI1.cells
  have hlz := hz.lt
  have hnn : t = 1 ∧ -1073741824 ≤ y.n ∧ y.n ≤ 1073741824 ∨ t ≠ 1 := by by_cases h : t = 1; exact .inl ⟨h, hbd h⟩; exact .inr h
  have HNN := Lib.hid hnn
  have HTY := Lib.hid hty
  clear hnn hty hbd hck hev hok hX1 hI1 hE01 hz hin hw0 hw1 hs0 hE0 hE1 hX hR hsz hp
  go_enter Tryz.func25, Tryz.ntmps25
  go_upto_region 1 with fail
  rw [HW0.out, HW1.out]
  go_wp2_with fail
  refine CK.out.mono ?_
  rintro r w2 ⟨rfl, hE2⟩
  obtain ⟨z0, z1, z2, z3, z4, z5, z6⟩ := (HI.out.ext hE2).cells
  obtain ⟨_, m0, m1, m2, m3, m4, m5, m6, m7, m8⟩ := HP.out.ext hE2
  clear c0 c1 c2 c3 c4 c5 c6
  go_wp2_with fail
  refine (EV.out _ hE2).mono ?_
  rintro r w3 ⟨rfl, hE3⟩
  unfold Vl.v
  have hE4 : Ext w3 (w3.alloc (.cells #[.int .i64 y.ty, .int .i64 y.n, .bool y.b, .string ⟨y.s.toArray⟩] 26)) := Ext.alloc _ _
  have hE24 := (hE2.trans hE3).trans hE4
  obtain ⟨u0, u1, u2, u3⟩ := (HZ.out.ext hE24).cells
  obtain ⟨f0, f1, f2, f3⟩ := (HZ.out.ext hE24).free
  simp only [vzero] at u0 u1 u2 u3
  have hEE := HE.out.trans hE24
  clear z0 z1 z2 z3 z4 z5 z6 m0 m1 m2 m3 m4 m5 m6 m7 m8
  rcases HNN.out with ⟨h1, hn1, hn2⟩ | h1
  · have t2 : (y.ty == 1) = true := by rw [HTY.out, h1]; rfl
    have t3 : decide (y.n < -1073741824) = false := by simp; omega
    have t4 : decide (1073741824 < y.n) = false := by simp; omega
    clear h1
    go_wp2_with fail
    refine bodyPost_ret (v := .agg #[.int .i64 y.ty, .int .i64 y.n, .bool y.b, .string ⟨y.s.toArray⟩]) (by simp only [results, Tryz.results25]; go_simp) rfl ⟨rfl, vset_ext hEE (by omega)⟩
  · have t2 : (y.ty == 1) = false := by rw [HTY.out]; simpa using h1
    clear h1
    go_wp2_with fail
    refine bodyPost_ret (v := .agg #[.int .i64 y.ty, .int .i64 y.n, .bool y.b, .string ⟨y.s.toArray⟩]) (by simp only [results, Tryz.results25]; go_simp) rfl ⟨rfl, vset_ext hEE (by omega)⟩
/- made -/
def NewT (t : Int) (N : Nat) (w : World) (e : Ending) (w' : World) : Prop := ∃ (x : Ex) (A : Option Addr) (c d : Nat), Rt x t ∧ x.size ≤ N ∧ e = .returned (.agg #[.int .i64 x.op, .int .i64 x.var, .int .i64 x.ty, .int .i64 x.n, .bool x.b, .string ⟨x.s.toArray⟩, .slice A x.l.length c]) ∧ ExL w' (fun k => w.heap.size ≤ k ∧ k < w'.heap.size) d A x.l ∧ Ext w w'
theorem made1_any (k : Nat) (t : Int) (A : Option Addr) (n c p : Nat) (w : World) (hk : k < 4) (ht : 1 ≤ t ∧ t ≤ 3) (hL : LI w A n) (hp : p < w.heap.size) (hc : w.cell? ⟨p, k, none⟩ = some (.slice A n c)) :
    Calls Tryz.prog 23 #[.int .i64 (k : Nat), .int .i64 t, .pointer (some ⟨p, 0, none⟩)] w (NewT t 10 w) := by
  have hz := Z7.new w
  obtain ⟨w0, hw0⟩ : ∃ w0, w.alloc (.cells zero7 29) = w0 := ⟨_, rfl⟩
  have hE0 : Ext w w0 := by rw [← hw0]; exact Ext.alloc _ _
  have hs0 : w0.heap.size = w.heap.size + 1 := by rw [← hw0]; simp
  rw [hw0] at hz
  have HW := Lib.hid hw0
  have hs0' : w.heap.size + 1 ≤ w0.heap.size := by omega
  have hD1 := DrA.new c (hL.ext hE0)
  have hE1 : Ext w0 (w0.alloc (.cells #[.slice A n c, .int .i64 0] 63)) := Ext.alloc _ _
  have hz1 := hz.ext hE1
  have MD := Lib.hid (made_all 2 (by decide) t 2 _ _ ht rfl hD1)
  have hpc := (hE0.old (p := ⟨p, k, none⟩) hp).trans hc
  have hk4 : (k : Int) < 4 := by omega
  unfold zero7 at HW
  unfold dp at MD
  clear hw0 hs0 hL hc
  go_enter Tryz.func23, Tryz.ntmps23
  go_upto_region 1 with fail
  rw [HW.out]
  go_wp2_with fail
  refine MD.out.mono ?_
  rintro e w4 ⟨x, A', c', d, hR, hS, rfl, hX, hD4, hg4⟩
  have hz4 := hz1.own hg4 (by simp; omega)
  have hE4 := ext_fresh (hE0.trans hE1) hg4 (by omega)
  have hsz1 : w0.heap.size < w4.heap.size := by have h1 := hg4.size; simp at h1; omega
  obtain ⟨u0, u1, u2, u3, u4, u5, u6⟩ := hz4.cells
  obtain ⟨f0, f1, f2, f3, f4, f5, f6⟩ := hz4.free
  have hG := set7_grown w4 w.heap.size x (.slice A' x.l.length c')
  have hX5 : ExL (set7 w4 w.heap.size x (.slice A' x.l.length c')) (fun k => w.heap.size ≤ k ∧ k < (set7 w4 w.heap.size x (.slice A' x.l.length c')).heap.size) d A' x.l := (hX.keep fun k hk o => grown_cell hG hk.2 (by have := hk.1; simp only [World.size_alloc] at this; simp; omega) o).more fun k hk => ⟨by have := hk.1; simp only [World.size_alloc] at this; omega, Nat.lt_of_lt_of_le hk.2 hG.size⟩
  have HX5 := Lib.hid hX5
  have HG := Lib.hid hG
  clear hX hX5 hG
  unfold Ex.cells
  go_wp2_with fail
  exact fin7 rfl x hz4 A' _ c' rfl rfl ⟨x, A', c', d, hR, hS, rfl, HX5.out, ext_fresh hE4 HG.out (Nat.le_refl _)⟩
end Go.Proofs.YtggkkjnfonbpkaaGreatDoor
