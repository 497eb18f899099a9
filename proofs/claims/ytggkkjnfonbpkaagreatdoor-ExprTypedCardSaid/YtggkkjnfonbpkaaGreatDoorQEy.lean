/- The contracts of Check and Eval, of both sides (printed by gen_ey.py). -/
import Derived.Test.YtggkkjnfonbpkaaGreatDoorQEt
import Derived.Test.YtggkkjnfonbpkaaGreatDoorQEn
import Derived.Test.YtggkkjnfonbpkaaGreatDoorQXe
import Derived.Test.YtggkkjnfonbpkaaGreatDoorQEw

set_option linter.unusedSimpArgs false
set_option linter.unusedVariables false
namespace Go.Proofs.YtggkkjnfonbpkaaGreatDoor
open Go.RowKit Hach

def chkT (e : Ex) : Int := if 60 < e.size then 0 else e.typed
def chkE (e : Ex) : Int := if 60 < e.size then 2 else if e.typed = 0 then 30 else 0
def evV (e : Ex) (x : En) : Vl := if chkE e = 0 then (e.val x).vl else vzero
theorem chk_rt {e : Ex} (h : chkE e = 0) : Rt e (chkT e) ∧ e.size ≤ 60 := by
  unfold chkE at h
  unfold chkT
  by_cases h1 : 60 < e.size
  · rw [if_pos h1] at h; cases h
  · rw [if_neg h1] at h ⊢
    by_cases h2 : e.typed = 0
    · rw [if_pos h2] at h; cases h
    · exact ⟨rt_of h2, by omega⟩
set_option maxRecDepth 100000 in
set_option maxHeartbeats 2000000 in
theorem Check_any (e : Ex) (d : Nat) (A : Option Addr) (c : Nat) (w : World)
    (hX : ExB w w.heap.size d A e.l) (hsz : e.size < 1099511627776) (hok : e.ok) :
    Calls Tryz.prog 17 #[.agg (e.cells A c).toArray] w fun r w' => r = .returned (.tuple #[.int .i64 (chkT e), .int .i64 (chkE e)]) ∧ Ext w w' := by
  obtain ⟨w0, hw0⟩ : ∃ w0, w.alloc (.cells (e.cells A c).toArray 29) = w0 := ⟨_, rfl⟩
  have hE0 : Ext w w0 := by rw [← hw0]; exact Ext.alloc _ _
  have hBx : Box w0 w.heap.size e A c := by rw [← hw0]; exact Box.new w e A c 29
  have HSZ := Lib.hid (fun (W : World) (h : Ext w W) => Size_any d e A c W (hX.ext h) hsz)
  have HTY := Lib.hid (fun (W : World) (h : Ext w W) => typed_any d e A c W (hX.ext h) hsz hok)
  have HS := Lib.hid hsz
  unfold Ex.cells at hw0 HSZ HTY ⊢
  have HW := Lib.hid hw0
  have HBx := Lib.hid hBx
  obtain ⟨_, y0, y1, y2, y3, y4, y5, y6⟩ := hBx
  clear hw0 hX hok hsz
  go_enter Tryz.func17, Tryz.ntmps17
  go_upto_region 1 with fail
  rw [HW.out]
  go_wp2_with fail
  refine (HSZ.out _ hE0).mono ?_
  rintro r w1 ⟨rfl, hE1⟩
  have hs64 : e.size < 9223372036854775808 := by have := HS.out; omega
  obtain ⟨_, y0, y1, y2, y3, y4, y5, y6⟩ := HBx.out.ext hE1
  by_cases hs : 60 < e.size
  · have t1 : decide ((60 : Int) < (e.size : Int)) = true := by simp; omega
    have HT := Lib.hid (show chkT e = 0 ∧ chkE e = 2 by unfold chkT chkE; rw [if_pos hs, if_pos hs]; exact ⟨rfl, rfl⟩)
    clear hs
    go_wp2_with fail
    go_ret2
    exact ⟨by rw [HT.out.1, HT.out.2]; rfl, hE0.trans hE1⟩
  · have t1 : decide ((60 : Int) < (e.size : Int)) = false := by simp; omega
    have HT := Lib.hid (show chkT e = e.typed ∧ chkE e = if e.typed = 0 then 30 else 0 by unfold chkT chkE; rw [if_neg hs, if_neg hs]; exact ⟨rfl, rfl⟩)
    clear hs
    go_wp2_with fail
    refine (HTY.out _ (hE0.trans hE1)).mono ?_
    rintro r w2 ⟨rfl, hE2⟩
    generalize e.typed = T at *
    by_cases ht : T = 0
    · have t2 : (T == 0) = true := by simp [ht]
      have HT2 := Lib.hid (show chkT e = 0 ∧ chkE e = 30 by rw [HT.out.1, HT.out.2, if_pos ht]; exact ⟨ht, rfl⟩)
      clear ht
      go_wp2_with fail
      go_ret2
      exact ⟨by rw [HT2.out.1, HT2.out.2]; rfl, (hE0.trans hE1).trans hE2⟩
    · have t2 : (T == 0) = false := by simpa using ht
      have HT2 := Lib.hid (show chkT e = T ∧ chkE e = 0 by rw [HT.out.1, HT.out.2, if_neg ht]; exact ⟨rfl, rfl⟩)
      clear ht
      go_wp2_with fail
      go_ret2
      exact ⟨by rw [HT2.out.1, HT2.out.2]; rfl, (hE0.trans hE1).trans hE2⟩
set_option maxRecDepth 100000 in
set_option maxHeartbeats 2000000 in
theorem rCheck_any (e : Ex) (d : Nat) (A : Option Addr) (c : Nat) (w : World)
    (hX : ExB w w.heap.size d A e.l) (hsz : e.size < 1099511627776) (hok : e.ok) :
    Calls Tryz.prog 39 #[.agg (e.cells A c).toArray] w fun r w' => r = .returned (.tuple #[.int .i64 (chkT e), .int .i64 (chkE e)]) ∧ Ext w w' := by
  obtain ⟨w0, hw0⟩ : ∃ w0, w.alloc (.cells (e.cells A c).toArray 29) = w0 := ⟨_, rfl⟩
  have hE0 : Ext w w0 := by rw [← hw0]; exact Ext.alloc _ _
  have hBx : Box w0 w.heap.size e A c := by rw [← hw0]; exact Box.new w e A c 29
  have HSZ := Lib.hid (fun (W : World) (h : Ext w W) => rSize_any d e A c W (hX.ext h) hsz)
  have HTY := Lib.hid (fun (W : World) (h : Ext w W) => typeOf_any d e A c W (hX.ext h) hsz hok)
  have HS := Lib.hid hsz
  unfold Ex.cells at hw0 HSZ HTY ⊢
  have HW := Lib.hid hw0
  have HBx := Lib.hid hBx
  obtain ⟨_, y0, y1, y2, y3, y4, y5, y6⟩ := hBx
  clear hw0 hX hok hsz
  go_enter Tryz.func39, Tryz.ntmps39
  go_upto_region 1 with fail
  rw [HW.out]
  go_wp2_with fail
  refine (HSZ.out _ hE0).mono ?_
  rintro r w1 ⟨rfl, hE1⟩
  have hs64 : e.size < 9223372036854775808 := by have := HS.out; omega
  obtain ⟨_, y0, y1, y2, y3, y4, y5, y6⟩ := HBx.out.ext hE1
  by_cases hs : 60 < e.size
  · have t1 : decide ((60 : Int) < (e.size : Int)) = true := by simp; omega
    have HT := Lib.hid (show chkT e = 0 ∧ chkE e = 2 by unfold chkT chkE; rw [if_pos hs, if_pos hs]; exact ⟨rfl, rfl⟩)
    clear hs
    go_wp2_with fail
    go_ret2
    exact ⟨by rw [HT.out.1, HT.out.2]; rfl, hE0.trans hE1⟩
  · have t1 : decide ((60 : Int) < (e.size : Int)) = false := by simp; omega
    have HT := Lib.hid (show chkT e = e.typed ∧ chkE e = if e.typed = 0 then 30 else 0 by unfold chkT chkE; rw [if_neg hs, if_neg hs]; exact ⟨rfl, rfl⟩)
    clear hs
    go_wp2_with fail
    refine (HTY.out _ (hE0.trans hE1)).mono ?_
    rintro r w2 ⟨rfl, hE2⟩
    generalize e.typed = T at *
    by_cases ht : T = 0
    · have t2 : (T == 0) = true := by simp [ht]
      have HT2 := Lib.hid (show chkT e = 0 ∧ chkE e = 30 by rw [HT.out.1, HT.out.2, if_pos ht]; exact ⟨ht, rfl⟩)
      clear ht
      go_wp2_with fail
      go_ret2
      exact ⟨by rw [HT2.out.1, HT2.out.2]; rfl, (hE0.trans hE1).trans hE2⟩
    · have t2 : (T == 0) = false := by simpa using ht
      have HT2 := Lib.hid (show chkT e = T ∧ chkE e = 0 by rw [HT.out.1, HT.out.2, if_neg ht]; exact ⟨rfl, rfl⟩)
      clear ht
      go_wp2_with fail
      go_ret2
      exact ⟨by rw [HT2.out.1, HT2.out.2]; rfl, (hE0.trans hE1).trans hE2⟩
set_option maxRecDepth 100000 in
set_option maxHeartbeats 2000000 in
theorem Eval_any (e : Ex) (x : En) (d : Nat) (A : Option Addr) (c : Nat) (w : World)
    (hX : ExB w w.heap.size d A e.l) (hsz : e.size < 1099511627776) (hok : e.ok) :
    Calls Tryz.prog 26 #[.agg (e.cells A c).toArray, x.v] w fun r w' => r = .returned (.tuple #[(evV e x).v, .int .i64 (chkE e)]) ∧ Ext w w' := by
  obtain ⟨w3, hw3⟩ : ∃ w3, ((w.alloc (.cells (e.cells A c).toArray 29)).alloc (.cells x.cells 31)).alloc (.cells #[.int .i64 0, .int .i64 0, .bool false, .string ⟨#[]⟩] 26) = w3 := ⟨_, rfl⟩
  have hE3 : Ext w w3 := by rw [← hw3]; exact ((Ext.alloc _ _).trans (Ext.alloc _ _)).trans (Ext.alloc _ _)
  have hBx : Box w3 w.heap.size e A c := by rw [← hw3]; exact ((Box.new w e A c 29).ext (Ext.alloc _ _)).ext (Ext.alloc _ _)
  have hBy : EnBox w3 (w.heap.size + 1) x := by
    have h1 := EnBox.new (w.alloc (.cells (e.cells A c).toArray 29)) x 31
    rw [World.size_alloc] at h1
    rw [← hw3]; exact h1.ext (Ext.alloc _ _)
  have hBz : V4 w3 (w.heap.size + 2) vzero := by
    have h1 := V4.new ((w.alloc (.cells (e.cells A c).toArray 29)).alloc (.cells x.cells 31))
    rw [World.size_alloc, World.size_alloc] at h1
    rw [← hw3]; exact h1
  have HCK := Lib.hid (fun (W : World) (h : Ext w W) => Check_any e d A c W (hX.ext h) hsz hok)
  have HEV := Lib.hid (show evV e x = if chkE e = 0 then (e.val x).vl else vzero from rfl)
  unfold Ex.cells En.cells at hw3
  unfold Ex.cells at HCK
  have HW := Lib.hid hw3
  have HBx := Lib.hid hBx
  have HBy := Lib.hid hBy
  have HBz := Lib.hid hBz
  obtain ⟨_, y0, y1, y2, y3, y4, y5, y6⟩ := hBx
  have hl2 := hBz.lt
  clear hw3 hsz hBy hBz
  by_cases hc : chkE e = 0
  · have t1 : (chkE e != 0) = false := by simp [hc]
    have HVL := Lib.hid (fun (W : World) (h : Ext w W) => eval_any x d e (chkT e) A c W (chk_rt hc).1 (hX.ext h) hok)
    have HEV2 := Lib.hid (show evV e x = (e.val x).vl by rw [HEV.out, if_pos hc])
    have HC0 := Lib.hid hc
    unfold Ex.cells En.v at *
    clear hc hX hok HEV
    generalize hT : chkT e = T at *
    generalize hE' : chkE e = E at *
    clear hT hE'
    go_enter Tryz.func26, Tryz.ntmps26
    go_upto_region 1 with fail
    rw [HW.out]
    go_wp2_with fail
    refine (HCK.out _ hE3).mono ?_
    rintro r w1 ⟨rfl, hE1⟩
    obtain ⟨_, y0, y1, y2, y3, y4, y5, y6⟩ := HBx.out.ext hE1
    obtain ⟨_, m1, m2, m3, m4, m5, m6, m7, m8, m9⟩ := HBy.out.ext hE1
    go_wp2_with fail
    refine (HVL.out _ (hE3.trans hE1)).mono ?_
    rintro r w2 ⟨rfl, hE2⟩
    generalize e.val x = u at *
    go_wp2_with fail
    refine (wrap_any u _).mono ?_
    rintro r w4 ⟨rfl, hE4⟩
    generalize u.vl = y at *
    unfold Vl.v
    have hE24 := hE2.trans hE4
    obtain ⟨z0, z1, z2, z3⟩ := (HBz.out.ext (hE1.trans hE24)).cells
    obtain ⟨f0, f1, f2, f3⟩ := (HBz.out.ext (hE1.trans hE24)).free
    simp only [vzero] at z0 z1 z2 z3
    go_wp2_with fail
    refine bodyPost_ret (v := .tuple #[.agg #[.int .i64 y.ty, .int .i64 y.n, .bool y.b, .string ⟨y.s.toArray⟩], .int .i64 0]) (by simp only [results, Tryz.results26]; go_simp) rfl ⟨by rw [HEV2.out, HC0.out]; rfl, vset_ext ((hE3.trans hE1).trans hE24) (by omega)⟩
  · have t1 : (chkE e != 0) = true := by simpa using hc
    have HEV2 := Lib.hid (show evV e x = vzero by rw [HEV.out, if_neg hc])
    unfold En.v
    clear hc hX hok HEV
    generalize hT : chkT e = T at *
    generalize hE' : chkE e = E at *
    clear hT hE'
    unfold Ex.cells
    go_enter Tryz.func26, Tryz.ntmps26
    go_upto_region 1 with fail
    rw [HW.out]
    go_wp2_with fail
    refine (HCK.out _ hE3).mono ?_
    rintro r w1 ⟨rfl, hE1⟩
    obtain ⟨z0, z1, z2, z3⟩ := (HBz.out.ext hE1).cells
    obtain ⟨f0, f1, f2, f3⟩ := (HBz.out.ext hE1).free
    simp only [vzero] at z0 z1 z2 z3
    go_wp2_with fail
    refine bodyPost_ret (v := .tuple #[.agg #[.int .i64 0, .int .i64 0, .bool false, .string ⟨#[]⟩], .int .i64 E]) (by simp only [results, Tryz.results26]; go_simp) rfl ⟨by rw [HEV2.out]; rfl, vset_ext (hE3.trans hE1) (by omega)⟩
set_option maxRecDepth 100000 in
set_option maxHeartbeats 2000000 in
theorem rEval_any (e : Ex) (x : En) (d : Nat) (A : Option Addr) (c : Nat) (w : World)
    (hX : ExB w w.heap.size d A e.l) (hsz : e.size < 1099511627776) (hok : e.ok) :
    Calls Tryz.prog 40 #[.agg (e.cells A c).toArray, x.v] w fun r w' => r = .returned (.tuple #[(evV e x).v, .int .i64 (chkE e)]) ∧ Ext w w' := by
  obtain ⟨w3, hw3⟩ : ∃ w3, ((w.alloc (.cells (e.cells A c).toArray 29)).alloc (.cells x.cells 31)).alloc (.cells #[.int .i64 0, .int .i64 0, .bool false, .string ⟨#[]⟩] 26) = w3 := ⟨_, rfl⟩
  have hE3 : Ext w w3 := by rw [← hw3]; exact ((Ext.alloc _ _).trans (Ext.alloc _ _)).trans (Ext.alloc _ _)
  have hBx : Box w3 w.heap.size e A c := by rw [← hw3]; exact ((Box.new w e A c 29).ext (Ext.alloc _ _)).ext (Ext.alloc _ _)
  have hBy : EnBox w3 (w.heap.size + 1) x := by
    have h1 := EnBox.new (w.alloc (.cells (e.cells A c).toArray 29)) x 31
    rw [World.size_alloc] at h1
    rw [← hw3]; exact h1.ext (Ext.alloc _ _)
  have hBz : V4 w3 (w.heap.size + 2) vzero := by
    have h1 := V4.new ((w.alloc (.cells (e.cells A c).toArray 29)).alloc (.cells x.cells 31))
    rw [World.size_alloc, World.size_alloc] at h1
    rw [← hw3]; exact h1
  have HCK := Lib.hid (fun (W : World) (h : Ext w W) => rCheck_any e d A c W (hX.ext h) hsz hok)
  have HEV := Lib.hid (show evV e x = if chkE e = 0 then (e.val x).vl else vzero from rfl)
  unfold Ex.cells En.cells at hw3
  unfold Ex.cells at HCK
  have HW := Lib.hid hw3
  have HBx := Lib.hid hBx
  have HBy := Lib.hid hBy
  have HBz := Lib.hid hBz
  obtain ⟨_, y0, y1, y2, y3, y4, y5, y6⟩ := hBx
  have hl2 := hBz.lt
  clear hw3 hsz hBy hBz
  by_cases hc : chkE e = 0
  · have t1 : (chkE e != 0) = false := by simp [hc]
    have HVL := Lib.hid (fun (W : World) (h : Ext w W) => value_any x d e (chkT e) A c W (chk_rt hc).1 (hX.ext h))
    have HEV2 := Lib.hid (show evV e x = (e.val x).vl by rw [HEV.out, if_pos hc])
    have HC0 := Lib.hid hc
    unfold Ex.cells En.v at *
    clear hc hX hok HEV
    generalize hT : chkT e = T at *
    generalize hE' : chkE e = E at *
    clear hT hE'
    go_enter Tryz.func40, Tryz.ntmps40
    go_upto_region 1 with fail
    rw [HW.out]
    go_wp2_with fail
    refine (HCK.out _ hE3).mono ?_
    rintro r w1 ⟨rfl, hE1⟩
    obtain ⟨_, y0, y1, y2, y3, y4, y5, y6⟩ := HBx.out.ext hE1
    obtain ⟨_, m1, m2, m3, m4, m5, m6, m7, m8, m9⟩ := HBy.out.ext hE1
    go_wp2_with fail
    refine (HVL.out _ (hE3.trans hE1)).mono ?_
    rintro r w2 ⟨rfl, hE2⟩
    generalize (e.val x).vl = y at *
    unfold Vl.v
    have hE24 := hE2
    obtain ⟨z0, z1, z2, z3⟩ := (HBz.out.ext (hE1.trans hE24)).cells
    obtain ⟨f0, f1, f2, f3⟩ := (HBz.out.ext (hE1.trans hE24)).free
    simp only [vzero] at z0 z1 z2 z3
    go_wp2_with fail
    refine bodyPost_ret (v := .tuple #[.agg #[.int .i64 y.ty, .int .i64 y.n, .bool y.b, .string ⟨y.s.toArray⟩], .int .i64 0]) (by simp only [results, Tryz.results40]; go_simp) rfl ⟨by rw [HEV2.out, HC0.out]; rfl, vset_ext ((hE3.trans hE1).trans hE24) (by omega)⟩
  · have t1 : (chkE e != 0) = true := by simpa using hc
    have HEV2 := Lib.hid (show evV e x = vzero by rw [HEV.out, if_neg hc])
    unfold En.v
    clear hc hX hok HEV
    generalize hT : chkT e = T at *
    generalize hE' : chkE e = E at *
    clear hT hE'
    unfold Ex.cells
    go_enter Tryz.func40, Tryz.ntmps40
    go_upto_region 1 with fail
    rw [HW.out]
    go_wp2_with fail
    refine (HCK.out _ hE3).mono ?_
    rintro r w1 ⟨rfl, hE1⟩
    obtain ⟨z0, z1, z2, z3⟩ := (HBz.out.ext hE1).cells
    obtain ⟨f0, f1, f2, f3⟩ := (HBz.out.ext hE1).free
    simp only [vzero] at z0 z1 z2 z3
    go_wp2_with fail
    refine bodyPost_ret (v := .tuple #[.agg #[.int .i64 0, .int .i64 0, .bool false, .string ⟨#[]⟩], .int .i64 E]) (by simp only [results, Tryz.results40]; go_simp) rfl ⟨by rw [HEV2.out]; rfl, vset_ext (hE3.trans hE1) (by omega)⟩
end Go.Proofs.YtggkkjnfonbpkaaGreatDoor
