/- Laws of values of right expressions: plain. -/
import Derived.Test.YtggkkjnfonbpkaaGreatDoorQXj

set_option linter.unusedSimpArgs false
set_option linter.unusedVariables false
namespace Go.Proofs.YtggkkjnfonbpkaaGreatDoor
open Go.RowKit Hach

def vt (x : En) (e : Ex) : Vl := (e.val x).vl
theorem vt_not (x : En) (a : Ex) : vt x (exOp 3 [a]) = (Va.bool (!(a.val x).isB)).vl := by unfold vt exOp; rw [Ex.val]; rfl
theorem val_not (x : En) (a : Ex) : (exOp 3 [a]).val x = .bool (!(a.val x).isB) := by unfold exOp; rw [Ex.val]; rfl
theorem val_and (x : En) (a b : Ex) : (exOp 4 [a, b]).val x = .bool ((a.val x).isB && (b.val x).isB) := by unfold exOp; rw [Ex.val]; rfl
theorem val_or (x : En) (a b : Ex) : (exOp 5 [a, b]).val x = .bool ((a.val x).isB || (b.val x).isB) := by unfold exOp; rw [Ex.val]; rfl
theorem val_eq (x : En) (a b : Ex) : (exOp 6 [a, b]).val x = .bool (Vl.eq (a.val x).vl (b.val x).vl) := by unfold exOp; rw [Ex.val]; rfl
theorem val_less (x : En) (a b : Ex) : (exOp 7 [a, b]).val x = .bool (decide ((a.val x).isN < (b.val x).isN)) := by unfold exOp; rw [Ex.val]; rfl
theorem val_add (x : En) (a b : Ex) : (exOp 8 [a, b]).val x = .int (lim ((a.val x).isN + (b.val x).isN)) := by unfold exOp; rw [Ex.val]; rfl
theorem val_sub (x : En) (a b : Ex) : (exOp 9 [a, b]).val x = .int (lim ((a.val x).isN - (b.val x).isN)) := by unfold exOp; rw [Ex.val]; rfl
theorem val_mul (x : En) (a b : Ex) : (exOp 10 [a, b]).val x = .int (lim ((a.val x).isN * (b.val x).isN)) := by unfold exOp; rw [Ex.val]; rfl
theorem val_min (x : En) (a b : Ex) : (exOp 11 [a, b]).val x = .int (min (a.val x).isN (b.val x).isN) := by unfold exOp; rw [Ex.val]; rfl
theorem val_max (x : En) (a b : Ex) : (exOp 12 [a, b]).val x = .int (max (a.val x).isN (b.val x).isN) := by unfold exOp; rw [Ex.val]; rfl
theorem val_if (x : En) (a b c : Ex) : (exOp 13 [a, b, c]).val x = if (a.val x).isB then b.val x else c.val x := by unfold exOp; rw [Ex.val]; rfl
theorem rt_not {a : Ex} (ha : Rt a 2) : Rt (exOp 3 [a]) 2 := Rt.not a ha
theorem rt_and {a b : Ex} (ha : Rt a 2) (hb : Rt b 2) : Rt (exOp 4 [a, b]) 2 := Rt.log 4 (.inl rfl) a b ha hb
theorem rt_or {a b : Ex} (ha : Rt a 2) (hb : Rt b 2) : Rt (exOp 5 [a, b]) 2 := Rt.log 5 (.inr rfl) a b ha hb
theorem rt_eq {t : Int} {a b : Ex} (ha : Rt a t) (hb : Rt b t) : Rt (exOp 6 [a, b]) 2 := Rt.eq t a b ha hb
theorem rt_less {a b : Ex} (ha : Rt a 1) (hb : Rt b 1) : Rt (exOp 7 [a, b]) 2 := Rt.less a b ha hb
theorem rt_sum {op : Int} (h : 8 ≤ op ∧ op ≤ 12) {a b : Ex} (ha : Rt a 1) (hb : Rt b 1) : Rt (exOp op [a, b]) 1 := Rt.sum op h a b ha hb
theorem rt_if {t : Int} {a b c : Ex} (ha : Rt a 2) (hb : Rt b t) (hc : Rt c t) : Rt (exOp 13 [a, b, c]) t := Rt.ite t a b c ha hb hc
theorem size_1 (o : Int) (a : Ex) : (exOp o [a]).size = 1 + a.size := by unfold exOp; rw [Ex.size]; simp [Ex.sizes]
theorem size_2 (o : Int) (a b : Ex) : (exOp o [a, b]).size = 1 + (a.size + b.size) := by unfold exOp; rw [Ex.size]; simp [Ex.sizes]
theorem size_3 (o : Int) (a b c : Ex) : (exOp o [a, b, c]).size = 1 + (a.size + (b.size + c.size)) := by unfold exOp; rw [Ex.size]; simp [Ex.sizes]
section
variable {x : En} {B : Nat} (hx : x.fits B) {a b c d : Ex} (ha : Rt a 2) (hb : Rt b 2) (hc : Rt c 1) (hd : Rt d 1)
theorem morgan1 (x : En) (a b : Ex) : vt x (exOp 3 [exOp 4 [a, b]]) = vt x (exOp 5 [exOp 3 [a], exOp 3 [b]]) := by
  unfold vt
  rw [val_not, val_and, val_or, val_not, val_not]
  simp [Va.isB, Va.vl]
theorem morgan2 (x : En) (a b : Ex) : vt x (exOp 3 [exOp 5 [a, b]]) = vt x (exOp 4 [exOp 3 [a], exOp 3 [b]]) := by
  unfold vt
  rw [val_not, val_and, val_or, val_not, val_not]
  simp [Va.isB, Va.vl]
include hx ha in
theorem twice : vt x (exOp 3 [exOp 3 [a]]) = vt x a := by
  obtain ⟨p, hp⟩ := (val_has x hx ha).b
  unfold vt
  rw [val_not, val_not, hp]
  simp [Va.isB, Va.vl]
theorem add_comm' (x : En) (c d : Ex) : vt x (exOp 8 [c, d]) = vt x (exOp 8 [d, c]) := by
  unfold vt; rw [val_add, val_add, Int.add_comm]
theorem mul_comm' (x : En) (c d : Ex) : vt x (exOp 10 [c, d]) = vt x (exOp 10 [d, c]) := by
  unfold vt; rw [val_mul, val_mul, Int.mul_comm]
include hx hc hd in
theorem min_if : vt x (exOp 11 [c, d]) = vt x (exOp 13 [exOp 7 [c, d], c, d]) := by
  obtain ⟨n, hn, _⟩ := (val_has x hx hc).i
  obtain ⟨m, hm, _⟩ := (val_has x hx hd).i
  unfold vt
  rw [val_min, val_if, val_less, hn, hm]
  show (Va.int (min n m)).vl = Va.vl (if decide (n < m) = true then Va.int n else Va.int m)
  by_cases h : n < m
  · rw [decide_eq_true h, if_pos rfl, Int.min_eq_left (by omega)]
  · rw [decide_eq_false h, if_neg (by simp), Int.min_eq_right (by omega)]
include hx hc hd in
theorem max_if : vt x (exOp 12 [c, d]) = vt x (exOp 13 [exOp 7 [c, d], d, c]) := by
  obtain ⟨n, hn, _⟩ := (val_has x hx hc).i
  obtain ⟨m, hm, _⟩ := (val_has x hx hd).i
  unfold vt
  rw [val_max, val_if, val_less, hn, hm]
  show (Va.int (max n m)).vl = Va.vl (if decide (n < m) = true then Va.int m else Va.int n)
  by_cases h : n < m
  · rw [decide_eq_true h, if_pos rfl, Int.max_eq_right (by omega)]
  · rw [decide_eq_false h, if_neg (by simp), Int.max_eq_left (by omega)]
include hx hc hd in
theorem eq_less : vt x (exOp 6 [c, d]) = vt x (exOp 4 [exOp 3 [exOp 7 [c, d]], exOp 3 [exOp 7 [d, c]]]) := by
  obtain ⟨n, hn, _⟩ := (val_has x hx hc).i
  obtain ⟨m, hm, _⟩ := (val_has x hx hd).i
  unfold vt
  rw [val_eq, val_and, val_not, val_not, val_less, val_less, hn, hm]
  show (Va.bool (Vl.eq ⟨1, n, false, []⟩ ⟨1, m, false, []⟩)).vl = (Va.bool ((!decide (n < m)) && (!decide (m < n)))).vl
  congr 2
  unfold Vl.eq valB
  rw [Bool.eq_iff_iff]
  simp
  omega
theorem sub_self' (x : En) (c : Ex) : (vt x (exOp 9 [c, c])).n = 0 := by
  unfold vt
  rw [val_sub, Int.sub_self]
  rfl
theorem if_val (x : En) (a c d : Ex) : vt x (exOp 13 [a, c, d]) = if (vt x a).b = true then vt x c else vt x d := by
  unfold vt
  rw [val_if]
  have hb : ∀ v : Va, v.vl.b = v.isB := fun v => by cases v <;> rfl
  rw [hb]
  by_cases h : (a.val x).isB = true
  · rw [if_pos h, if_pos h]
  · rw [if_neg h, if_neg h]
include hx ha in
theorem vt_bool : (vt x a).ty = 2 := by
  obtain ⟨p, hp⟩ := (val_has x hx ha).b
  unfold vt; rw [hp]; rfl
include hx hc in
theorem vt_int : (vt x c).ty = 1 ∧ -1073741824 ≤ (vt x c).n ∧ (vt x c).n ≤ 1073741824 := by
  obtain ⟨p, hp, h1, h2⟩ := (val_has x hx hc).i
  unfold vt; rw [hp]; exact ⟨rfl, h1, h2⟩
end
theorem chk_of {e : Ex} {t : Int} (h : Rt e t) (hz : e.size ≤ 60) : chkT e = t ∧ chkE e = 0 := by
  have h1 := h.typed
  have h2 := h.pos
  unfold chkT chkE
  rw [if_neg (by omega), if_neg (by omega), if_neg (by omega)]
  exact ⟨h1, rfl⟩
theorem evV_of {e : Ex} {t : Int} (h : Rt e t) (hz : e.size ≤ 60) (x : En) : evV e x = vt x e := by
  unfold evV vt
  rw [if_pos (chk_of h hz).2]
theorem rt_ok {e : Ex} {t : Int} (h : Rt e t) : e.ok := by
  induction h with
  | con x h =>
    have h1 := right_ty h
    have h2 : (-1073741824 ≤ x.n ∧ x.n ≤ 1073741824) ∧ x.s.length ≤ 24 := by
      obtain ⟨ty, n, b, s⟩ := x
      unfold vlRight at h
      by_cases h1 : ty = 1
      · subst h1; simp at h; exact ⟨h.1.1, by rw [h.2]; simp⟩
      · by_cases h2 : ty = 2
        · subst h2; simp at h; exact ⟨by simp only; omega, by rw [h.2]; simp⟩
        · by_cases h3 : ty = 3
          · subst h3; simp at h; exact ⟨by simp only; omega, h.2⟩
          · simp [h1, h2, h3] at h
    exact ⟨by omega, by omega, by omega, by omega, by omega, trivial⟩
  | var v h => exact ⟨by omega, by omega, by omega, by omega, by simp, trivial⟩
  | not a ha iha => exact ⟨by omega, by omega, by omega, by omega, by simp, iha, trivial⟩
  | log op h a b ha hb iha ihb => exact ⟨by omega, by omega, by omega, by omega, by simp, iha, ihb, trivial⟩
  | eq t a b ha hb iha ihb => exact ⟨by omega, by omega, by omega, by omega, by simp, iha, ihb, trivial⟩
  | less a b ha hb iha ihb => exact ⟨by omega, by omega, by omega, by omega, by simp, iha, ihb, trivial⟩
  | sum op h a b ha hb iha ihb => exact ⟨by omega, by omega, by omega, by omega, by simp, iha, ihb, trivial⟩
  | ite t a b c ha hb hc iha ihb ihc => exact ⟨by omega, by omega, by omega, by omega, by simp, iha, ihb, ihc, trivial⟩
end Go.Proofs.YtggkkjnfonbpkaaGreatDoor

/- The examples that each law of expressions asks first: the contracts of reads, refuses, sanity. -/
namespace Go.Proofs.YtggkkjnfonbpkaaGreatDoor
open Go.RowKit Hach

def x0 : En := ⟨0, [116, 114, 101, 101], [], 9, 0, true, 40, 0, 0⟩
theorem vbox (w : World) (v : Vl) (W : World) (h : Ext (w.alloc (.cells #[.int .i64 v.ty, .int .i64 v.n, .bool v.b, .string ⟨v.s.toArray⟩] 26)) W) :
    W.cell? ⟨w.heap.size, 0, none⟩ = some (.int .i64 v.ty) ∧ W.cell? ⟨w.heap.size, 1, none⟩ = some (.int .i64 v.n) ∧ W.cell? ⟨w.heap.size, 2, none⟩ = some (.bool v.b) ∧ W.cell? ⟨w.heap.size, 3, none⟩ = some (.string ⟨v.s.toArray⟩) ∧ w.heap.size < W.heap.size := by
  have hs : w.heap.size < (w.alloc (.cells #[.int .i64 v.ty, .int .i64 v.n, .bool v.b, .string ⟨v.s.toArray⟩] 26)).heap.size := by simp
  refine ⟨(h.old (p := ⟨w.heap.size, 0, none⟩) hs).trans ?_, (h.old (p := ⟨w.heap.size, 1, none⟩) hs).trans ?_, (h.old (p := ⟨w.heap.size, 2, none⟩) hs).trans ?_, (h.old (p := ⟨w.heap.size, 3, none⟩) hs).trans ?_, Nat.lt_of_lt_of_le hs h.sz⟩ <;> rw [World.cell?_alloc_new] <;> rfl
set_option maxRecDepth 100000 in
set_option maxHeartbeats 2000000 in
theorem reads_ok (s : List UInt8) (t : Int) (v : Vl) (x : Ex) (hp : parseE s = (x, 0)) (hc : chkT x = t ∧ chkE x = 0) (hv : evV x x0 = v) (hs : s.length < 4096) (w : World) (htab : Tabs w) :
    Calls Tryz.prog 30 #[.string ⟨s.toArray⟩, .int .i64 t, v.v] w fun e w' => e = .returned (.bool true) ∧ Ext w w' := by
  have PA := Lib.hid (fun (W : World) (h : Ext w W) => parse_any s (by omega) W (htab.ext h))
  have HP := Lib.hid hp
  have HC := Lib.hid hc
  have HV := Lib.hid hv
  have hok := Lib.hid (show x.ok ∧ x.size < 1099511627776 by
    obtain ⟨h1, h2⟩ := chk_rt hc.2
    exact ⟨rt_ok h1, by omega⟩)
  obtain ⟨D, hD⟩ : ∃ D : ByteArray, (⟨s.toArray⟩ : ByteArray) = D := ⟨_, rfl⟩
  rw [hD] at PA ⊢
  clear hp hc hv hs hD htab
  have HVB := Lib.hid (fun (W : World) (h : Ext (w.alloc (.cells #[.int .i64 v.ty, .int .i64 v.n, .bool v.b, .string ⟨v.s.toArray⟩] 26)) W) => vbox w v W h)
  unfold Vl.v
  go_enter Tryz.func30, Tryz.ntmps30
  go_wp2_with fail
  refine (PA.out _ (by first | exact Ext.refl _ | exact Ext.alloc _ _ | exact (Ext.alloc _ _).trans (Ext.alloc _ _))).mono ?_
  rintro e w1 ⟨A, c, d, rfl, hX, hE1⟩
  rw [HP.out] at hX ⊢
  simp only at hX
  unfold Ex.cells
  go_wp2_with fail
  have hE2 : Ext w1 (w1.alloc (.cells #[.int .i64 x.op, .int .i64 x.var, .int .i64 x.ty, .int .i64 x.n, .bool x.b, .string ⟨x.s.toArray⟩, .slice A x.l.length c] 29)) := Ext.alloc _ _
  have hX2 := ExL.ext (hX.more fun k hk => hk.2) hE2
  have hin := InBlk.new2 w1 x A c
  have CK := Lib.hid (Check_any x d A c _ hX2 hok.out.2 hok.out.1)
  rw [HC.out.1, HC.out.2] at CK
  have EV := Lib.hid (fun (W : World) (hE : Ext _ W) => Eval_any x x0 d A c W (hX2.ext hE) hok.out.2 hok.out.1)
  rw [HC.out.2, HV.out] at EV
  have hEa : Ext w w1 := (Ext.alloc _ _).trans hE1
  have VE : ∀ W, (binOp .eql 26 (.agg #[.int .i64 v.ty, .int .i64 v.n, .bool v.b, .string ⟨v.s.toArray⟩]) (.agg #[.int .i64 v.ty, .int .i64 v.n, .bool v.b, .string ⟨v.s.toArray⟩])).run Tryz.prog W = .ok (.bool true) W := fun W => by
    rw [val_eql, show valB v.ty v.n v.b v.s v.ty v.n v.b v.s = true by unfold valB; simp]
  obtain ⟨w2, hw2⟩ : ∃ w2, w1.alloc (.cells (x.cells A c).toArray 29) = w2 := ⟨_, rfl⟩
  rw [hw2] at hin
  unfold Ex.cells at hw2 CK EV
  rw [hw2] at hE2 hX2 CK EV
  have HW2 := Lib.hid hw2
  obtain ⟨c0, c1, c2, c3, c4, c5, c6⟩ := hin.cells
  clear hw2 hX
  rw [HW2.out]
  refine CK.out.mono ?_
  rintro e w3 ⟨rfl, hE3⟩
  obtain ⟨z0, z1, z2, z3, z4, z5, z6⟩ := (hin.ext hE3).cells
  clear c0 c1 c2 c3 c4 c5 c6
  unfold Vl.v En.v x0 at EV
  go_wp2_with fail
  refine (EV.out _ hE3).mono ?_
  rintro e w4 ⟨rfl, hE4⟩
  obtain ⟨y0, y1, y2, y3, hsz4⟩ := HVB.out w4 (((hE1.trans hE2).trans hE3).trans hE4)
  go_wp2_with fail
  go_ret
  exact ⟨rfl, (((hEa.trans hE2).trans hE3).trans hE4).trans (by first | exact Ext.refl _ | exact Ext.alloc _ _)⟩
end Go.Proofs.YtggkkjnfonbpkaaGreatDoor

/- The contracts of refuses and sanity (printed by gen_lb.py). -/
namespace Go.Proofs.YtggkkjnfonbpkaaGreatDoor
open Go.RowKit Hach

def rdB (s : List UInt8) (t : Int) (v : Vl) : Bool := decide ((parseE s).2 = 0) && decide (chkT (parseE s).1 = t) && decide (chkE (parseE s).1 = 0) && Vl.eq (evV (parseE s).1 x0) v && decide (s.length < 4096)
theorem reads_closed (s : List UInt8) (t : Int) (v : Vl) (h : rdB s t v = true) (w : World) (htab : Tabs w) :
    Calls Tryz.prog 30 #[.string ⟨s.toArray⟩, .int .i64 t, v.v] w fun e w' => e = .returned (.bool true) ∧ Ext w w' := by
  unfold rdB at h
  simp only [Bool.and_eq_true, decide_eq_true_eq] at h
  obtain ⟨⟨⟨⟨h1, h2⟩, h3⟩, h4⟩, h5⟩ := h
  have hv : evV (parseE s).1 x0 = v := by
    unfold Vl.eq valB at h4
    simp only [decide_eq_true_eq] at h4
    obtain ⟨a, b, c, d⟩ := h4
    calc evV (parseE s).1 x0 = ⟨(evV (parseE s).1 x0).ty, (evV (parseE s).1 x0).n, (evV (parseE s).1 x0).b, (evV (parseE s).1 x0).s⟩ := rfl
      _ = v := by rw [a, b, c, d]
  exact reads_ok s t v (parseE s).1 (by rw [← h1]) ⟨h2, h3⟩ hv h5 w htab
theorem parse_zero {s : List UInt8} {k : Int} (h : (parseE s).2 = k) (hk : k ≠ 0) : parseE s = (zeroE, k) := by
  unfold parseE at h ⊢
  by_cases h1 : 4096 < s.length
  · rw [if_pos h1] at h ⊢; rw [← h]
  · rw [if_neg h1] at h ⊢
    cases hr : readT s with
    | none => rw [hr] at h; simp only at h ⊢; rw [← h]
    | some e =>
      rw [hr] at h
      simp only at h ⊢
      by_cases hc : chkE e = 0
      · rw [if_pos hc] at h; exact absurd h.symm hk
      · rw [if_neg hc] at h ⊢; simp only at h; rw [h]
set_option maxRecDepth 100000 in
set_option maxHeartbeats 2000000 in
theorem refuses_ok (s : List UInt8) (k : Int) (h : (parseE s).2 = k) (hk : k ≠ 0) (hs : s.length < 4294967296) (w : World) (htab : Tabs w) :
    Calls Tryz.prog 33 #[.string ⟨s.toArray⟩, .int .i64 k] w fun e w' => e = .returned (.bool true) ∧ Ext w w' := by
  have PA := Lib.hid (parse_any s hs w htab)
  have HP := Lib.hid (parse_zero h hk)
  obtain ⟨D, hD⟩ : ∃ D : ByteArray, (⟨s.toArray⟩ : ByteArray) = D := ⟨_, rfl⟩
  rw [hD] at PA ⊢
  clear h hk hs hD htab
  go_enter Tryz.func33, Tryz.ntmps33
  go_wp2_with fail
  refine PA.out.mono ?_
  rintro e w1 ⟨A, c, d, rfl, hX, hE1⟩
  rw [HP.out] at hX ⊢
  simp only at hX
  have e7 : zeroE.cells A c = [.int .i64 0, .int .i64 0, .int .i64 0, .int .i64 0, .bool false, .string ⟨#[]⟩, .slice A 0 c] := rfl
  rw [e7]
  have SM : ∀ W, Calls Tryz.prog 15 #[.agg #[.int .i64 0, .int .i64 0, .int .i64 0, .int .i64 0, .bool false, .string ⟨#[]⟩, .slice A 0 c], .agg #[.int .i64 0, .int .i64 0, .int .i64 0, .int .i64 0, .bool false, .string ⟨#[]⟩, .slice none 0 0]] W fun r w' => r = .returned (.bool true) ∧ Ext W w' := fun W =>
    Same_any 0 zeroE zeroE A none c 0 W (ExL.nil _ _ _ _) (ExL.nil _ _ _ _) (by decide) (by decide)
  have HSM := Lib.hid SM
  clear SM hX e7
  go_wp2_with fail
  refine (HSM.out _).mono ?_
  rintro e w2 ⟨rfl, hE2⟩
  go_wp2_with fail
  go_ret
  exact ⟨rfl, (hE1.trans (Ext.alloc _ _)).trans hE2⟩
theorem rd0 : rdB [40, 119, 101, 105, 103, 104, 116, 32, 43, 32, 51, 41, 32, 42, 32, 50] 1 ⟨1, 24, false, []⟩ = true := by kernel_rfl
theorem rd1 : rdB [110, 111, 116, 32, 40, 115, 116, 97, 105, 114, 115, 32, 97, 110, 100, 32, 40, 99, 108, 97, 115, 115, 32, 61, 32, 34, 116, 114, 101, 101, 34, 41, 41] 2 ⟨2, 0, false, []⟩ = true := by kernel_rfl
theorem rd2 : rdB [105, 102, 32, 40, 115, 99, 97, 108, 101, 32, 60, 32, 51, 50, 41, 32, 116, 104, 101, 110, 32, 49, 32, 101, 108, 115, 101, 32, 40, 119, 101, 105, 103, 104, 116, 32, 109, 97, 120, 32, 49, 48, 41] 1 ⟨1, 10, false, []⟩ = true := by kernel_rfl
theorem rd3 : rdB [49, 48, 55, 51, 55, 52, 49, 56, 50, 52, 32, 43, 32, 49] 1 ⟨1, 1073741824, false, []⟩ = true := by kernel_rfl
theorem rf0 : (parseE [49, 48, 55, 51, 55, 52, 49, 56, 50, 53]).2 = 30 := by kernel_rfl
theorem rf1 : (parseE [49, 32, 43, 32, 116, 114, 117, 101]).2 = 30 := by kernel_rfl
theorem rf2 : (parseE [119, 101, 105, 103, 104, 116, 32, 43, 32, 51, 32, 43, 32, 52]).2 = 4 := by kernel_rfl
theorem rf3 : (parseE [119, 101, 105, 103, 104, 116, 32, 45, 51]).2 = 4 := by kernel_rfl
theorem rf4 : (parseE [48, 55]).2 = 4 := by kernel_rfl
theorem rf5 : (parseE [119, 97, 105, 116]).2 = 4 := by kernel_rfl
theorem rf6 : (parseE []).2 = 4 := by kernel_rfl
abbrev Box3 (W : World) (b : Nat) (A : Option Addr) (c : Nat) : Prop := W.cell? ⟨b, 0, none⟩ = some (.int .i64 8) ∧ W.cell? ⟨b, 1, none⟩ = some (.int .i64 0) ∧ W.cell? ⟨b, 2, none⟩ = some (.int .i64 0) ∧ W.cell? ⟨b, 3, none⟩ = some (.int .i64 0) ∧ W.cell? ⟨b, 4, none⟩ = some (.bool false) ∧ W.cell? ⟨b, 5, none⟩ = some (.string ⟨#[]⟩) ∧ W.cell? ⟨b, 6, none⟩ = some (.slice A 2 c)
def eW3 : Ex := .mk 8 0 0 0 false [] [.mk 2 4 0 0 false [] [], .mk 1 0 1 3 false [] []]
theorem pw1 : parseE [40, 40, 119, 101, 105, 103, 104, 116, 41, 41, 32, 32, 43, 32, 51] = (eW3, 0) := by kernel_rfl
theorem pw2 : parseE [119, 101, 105, 103, 104, 116, 32, 43, 32, 51] = (eW3, 0) := by kernel_rfl
theorem pw3 : txT eW3 = [119, 101, 105, 103, 104, 116, 32, 43, 32, 51] ∧ chkE eW3 = 0 := ⟨by kernel_rfl, by kernel_rfl⟩
theorem chk_ok : eW3.ok := rt_ok (chk_rt pw3.2).1
set_option maxRecDepth 100000 in
set_option maxHeartbeats 4000000 in
theorem sanity_any (w : World) (htab : Tabs w) : Calls Tryz.prog 8 #[] w fun e w' => e = .returned (.bool true) ∧ Ext w w' := by
  have R0 := Lib.hid (fun (W : World) (h : Ext w W) => reads_closed [40, 119, 101, 105, 103, 104, 116, 32, 43, 32, 51, 41, 32, 42, 32, 50] 1 ⟨1, 24, false, []⟩ rd0 W (htab.ext h))
  have R1 := Lib.hid (fun (W : World) (h : Ext w W) => reads_closed [110, 111, 116, 32, 40, 115, 116, 97, 105, 114, 115, 32, 97, 110, 100, 32, 40, 99, 108, 97, 115, 115, 32, 61, 32, 34, 116, 114, 101, 101, 34, 41, 41] 2 ⟨2, 0, false, []⟩ rd1 W (htab.ext h))
  have R2 := Lib.hid (fun (W : World) (h : Ext w W) => reads_closed [105, 102, 32, 40, 115, 99, 97, 108, 101, 32, 60, 32, 51, 50, 41, 32, 116, 104, 101, 110, 32, 49, 32, 101, 108, 115, 101, 32, 40, 119, 101, 105, 103, 104, 116, 32, 109, 97, 120, 32, 49, 48, 41] 1 ⟨1, 10, false, []⟩ rd2 W (htab.ext h))
  have R3 := Lib.hid (fun (W : World) (h : Ext w W) => reads_closed [49, 48, 55, 51, 55, 52, 49, 56, 50, 52, 32, 43, 32, 49] 1 ⟨1, 1073741824, false, []⟩ rd3 W (htab.ext h))
  have F0 := Lib.hid (fun (W : World) (h : Ext w W) => refuses_ok [49, 48, 55, 51, 55, 52, 49, 56, 50, 53] 30 rf0 (by decide) (by decide) W (htab.ext h))
  have F1 := Lib.hid (fun (W : World) (h : Ext w W) => refuses_ok [49, 32, 43, 32, 116, 114, 117, 101] 30 rf1 (by decide) (by decide) W (htab.ext h))
  have F2 := Lib.hid (fun (W : World) (h : Ext w W) => refuses_ok [119, 101, 105, 103, 104, 116, 32, 43, 32, 51, 32, 43, 32, 52] 4 rf2 (by decide) (by decide) W (htab.ext h))
  have F3 := Lib.hid (fun (W : World) (h : Ext w W) => refuses_ok [119, 101, 105, 103, 104, 116, 32, 45, 51] 4 rf3 (by decide) (by decide) W (htab.ext h))
  have F4 := Lib.hid (fun (W : World) (h : Ext w W) => refuses_ok [48, 55] 4 rf4 (by decide) (by decide) W (htab.ext h))
  have F5 := Lib.hid (fun (W : World) (h : Ext w W) => refuses_ok [119, 97, 105, 116] 4 rf5 (by decide) (by decide) W (htab.ext h))
  have F6 := Lib.hid (fun (W : World) (h : Ext w W) => refuses_ok [] 4 rf6 (by decide) (by decide) W (htab.ext h))
  have P0 := Lib.hid (fun (W : World) (h : Ext w W) => parse_any [40, 40, 119, 101, 105, 103, 104, 116, 41, 41, 32, 32, 43, 32, 51] (by decide) W (htab.ext h))
  have P1 := Lib.hid (fun (W : World) (h : Ext w W) => parse_any [119, 101, 105, 103, 104, 116, 32, 43, 32, 51] (by decide) W (htab.ext h))
  have HT := Lib.hid htab
  clear htab
  unfold Vl.v at R0 R1 R2 R3
  simp only at R0 R1 R2 R3
  have hE := Ext.refl w
  go_enter Tryz.func8, Tryz.ntmps8
  go_wp2_with fail
  refine (rInt_any _ _).mono ?_
  rintro e w1 ⟨rfl, hE1⟩
  replace hE := hE.trans hE1
  go_wp2_with fail
  refine (R0.out _ hE).mono ?_
  rintro e w2 ⟨rfl, hE2⟩
  replace hE := hE.trans hE2
  clear hE1 hE2
  go_wp2_with fail
  refine (rBool_any false _).mono ?_
  rintro e w1 ⟨rfl, hE1⟩
  replace hE := hE.trans hE1
  go_wp2_with fail
  refine (R1.out _ hE).mono ?_
  rintro e w2 ⟨rfl, hE2⟩
  replace hE := hE.trans hE2
  clear hE1 hE2
  go_wp2_with fail
  refine (rInt_any _ _).mono ?_
  rintro e w1 ⟨rfl, hE1⟩
  replace hE := hE.trans hE1
  go_wp2_with fail
  refine (R2.out _ hE).mono ?_
  rintro e w2 ⟨rfl, hE2⟩
  replace hE := hE.trans hE2
  clear hE1 hE2
  go_wp2_with fail
  refine (rInt_any _ _).mono ?_
  rintro e w1 ⟨rfl, hE1⟩
  replace hE := hE.trans hE1
  go_wp2_with fail
  refine (R3.out _ hE).mono ?_
  rintro e w2 ⟨rfl, hE2⟩
  replace hE := hE.trans hE2
  clear hE1 hE2
  go_wp2_with fail
  refine (F0.out _ hE).mono ?_
  rintro e w2 ⟨rfl, hE2⟩
  replace hE := hE.trans hE2
  clear hE2
  go_wp2_with fail
  refine (F1.out _ hE).mono ?_
  rintro e w2 ⟨rfl, hE2⟩
  replace hE := hE.trans hE2
  clear hE2
  go_wp2_with fail
  refine (F2.out _ hE).mono ?_
  rintro e w2 ⟨rfl, hE2⟩
  replace hE := hE.trans hE2
  clear hE2
  go_wp2_with fail
  refine (F3.out _ hE).mono ?_
  rintro e w2 ⟨rfl, hE2⟩
  replace hE := hE.trans hE2
  clear hE2
  go_wp2_with fail
  refine (F4.out _ hE).mono ?_
  rintro e w2 ⟨rfl, hE2⟩
  replace hE := hE.trans hE2
  clear hE2
  go_wp2_with fail
  refine (F5.out _ hE).mono ?_
  rintro e w2 ⟨rfl, hE2⟩
  replace hE := hE.trans hE2
  clear hE2
  go_wp2_with fail
  refine (F6.out _ hE).mono ?_
  rintro e w2 ⟨rfl, hE2⟩
  replace hE := hE.trans hE2
  clear hE2
  go_wp2_with fail
  refine (P0.out _ hE).mono ?_
  rintro e w1 ⟨A, c, d, rfl, hX, hE1⟩
  rw [pw1] at hX ⊢
  simp only at hX
  have hXa := hX.more fun k hk => hk.2
  have e7 : eW3.cells A c = [.int .i64 8, .int .i64 0, .int .i64 0, .int .i64 0, .bool false, .string ⟨#[]⟩, .slice A 2 c] := rfl
  rw [e7]
  replace hE := hE.trans hE1
  have hEa : Ext w1 (w1.alloc (.cells #[.int .i64 8, .int .i64 0, .int .i64 0, .int .i64 0, .bool false, .string ⟨#[]⟩, .slice A 2 c] 29)) := Ext.alloc _ _
  have hia := InBlk.new2 w1 eW3 A c
  rw [e7] at hia
  have hXa2 := ExL.ext hXa hEa
  clear hX hXa hE1 e7
  go_wp2_with fail
  refine (P1.out _ (hE.trans hEa)).mono ?_
  rintro e w2 ⟨B, c', d', rfl, hX, hE2⟩
  rw [pw2] at hX ⊢
  simp only at hX
  have hXb := hX.more fun k hk => hk.2
  have e7 : eW3.cells B c' = [.int .i64 8, .int .i64 0, .int .i64 0, .int .i64 0, .bool false, .string ⟨#[]⟩, .slice B 2 c'] := rfl
  rw [e7]
  have hEb : Ext w2 (w2.alloc (.cells #[.int .i64 8, .int .i64 0, .int .i64 0, .int .i64 0, .bool false, .string ⟨#[]⟩, .slice B 2 c'] 29)) := Ext.alloc _ _
  have hib := InBlk.new2 w2 eW3 B c'
  rw [e7] at hib
  have hXb2 := ExL.ext hXb hEb
  have hia2 := (hia.ext hE2).ext hEb
  have hXa3 := (hXa2.ext hE2).ext hEb
  obtain ⟨y0, y1, y2, y3, y4, y5, y6⟩ := (show Box3 _ w1.heap.size A c from hia2.cells)
  replace hE := ((hE.trans hEa).trans hE2).trans hEb
  have hsz2 : w1.heap.size < w2.heap.size := Nat.lt_of_lt_of_le (by simp) hE2.sz
  have TX := Lib.hid (fun (W : World) (h : Ext _ W) => TextC_any eW3 d A c W (hXa3.ext h) (by decide) (chk_ok) (HT.out.ext (hE.trans h)))
  have SM := Lib.hid (fun (W : World) (h : Ext _ W) => Same_any (max d d') eW3 eW3 A B c c' W ((hXa3.ext h).deep (Nat.le_max_left _ _)) ((hXb2.ext h).deep (Nat.le_max_right _ _)) (by decide) (by decide))
  have SZ := Lib.hid (fun (W : World) (h : Ext _ W) => Size_any d eW3 A c W (hXa3.ext h) (by decide))
  rw [pw3.1, pw3.2] at TX
  rw [show eW3.same eW3 = true from (Ex.same_iff _ _).2 rfl] at SM
  rw [show eW3.size = 3 by decide] at SZ
  have a7 : (eW3.cells A c).toArray = #[.int .i64 8, .int .i64 0, .int .i64 0, .int .i64 0, .bool false, .string ⟨#[]⟩, .slice A 2 c] := rfl
  have b7 : (eW3.cells B c').toArray = #[.int .i64 8, .int .i64 0, .int .i64 0, .int .i64 0, .bool false, .string ⟨#[]⟩, .slice B 2 c'] := rfl
  rw [a7] at TX SZ SM
  rw [b7] at SM
  unfold sv at TX
  have HIA := Lib.hid hia2
  have HIB := Lib.hid hib
  have hsz3 : w2.heap.size < (w2.alloc (.cells #[.int .i64 8, .int .i64 0, .int .i64 0, .int .i64 0, .bool false, .string ⟨#[]⟩, .slice B 2 c'] 29)).heap.size := by simp
  have HE := Lib.hid hE
  clear a7 b7 e7 hia hib hia2 hXa2 hXa3 hXb hXb2 hX hE hEa hEb hE2 hsz3
  go_wp2_with fail
  refine (TX.out _ (Ext.refl _)).mono ?_
  rintro e w4 ⟨rfl, hE4⟩
  obtain ⟨a0, a1, a2, a3, a4, a5, a6⟩ := (show Box3 _ w1.heap.size A c from (HIA.out.ext hE4).cells)
  obtain ⟨z0, z1, z2, z3, z4, z5, z6⟩ := (show Box3 _ w2.heap.size B c' from (HIB.out.ext hE4).cells)
  clear y0 y1 y2 y3 y4 y5 y6
  go_wp2_with fail
  refine (SM.out _ hE4).mono ?_
  rintro e w5 ⟨rfl, hE5⟩
  obtain ⟨y0, y1, y2, y3, y4, y5, y6⟩ := (show Box3 _ w1.heap.size A c from ((HIA.out.ext hE4).ext hE5).cells)
  clear a0 a1 a2 a3 a4 a5 a6 z0 z1 z2 z3 z4 z5 z6
  go_wp2_with fail
  refine (SZ.out _ (hE4.trans hE5)).mono ?_
  rintro e w6 ⟨rfl, hE6⟩
  go_wp2_with fail
  go_ret
  exact ⟨rfl, ((HE.out.trans hE4).trans hE5).trans hE6⟩
end Go.Proofs.YtggkkjnfonbpkaaGreatDoor
