/- Contracts of the law's helpers: lists compared, lists cut, what a call decodes. -/
import Derived.Test.YthdbdpfgccipdaaDoorVe
import Derived.Deep.QuietTactic
import Derived.BigQuiet
namespace Go.Proofs.YthdbdpfgccipdaaDoor
open Go.RowKit Hach Num

theorem txt_eq {x y : List UInt8} (h : (⟨x.toArray⟩ : ByteArray) = ⟨y.toArray⟩) : x = y := by
  injection h with h
  simpa using congrArg Array.toList h

set_option maxHeartbeats 400000 in
theorem same_I (A1 A2 : Option Addr) (n m c1 c2 : Nat) (xs ys : List Int) (w : World) (hX : RowI w w.heap.size A1 n xs) (hY : RowI w w.heap.size A2 m ys) (hn : n < 9223372036854775808) (hm : m < 9223372036854775808) :
    Calls Tryd.prog 26 #[.slice A1 n c1, .slice A2 m c2] w fun e w' => e = .returned (.bool (decide (xs = ys))) ∧ Ext w w' := by
  have hxl := hX.1
  have hyl := hY.1
  by_cases hnm : n = m
  · subst hnm
    have tn : ((n : Int) != n) = false := by simp
    go_enter Tryd.func26, Tryd.ntmps26
    go_wp2_with fail
    go_loopw [5] (fun i wr => ∃ k : Nat, k ≤ n ∧ i = .int .i64 k ∧ Hid (xs.take k = ys.take k) ∧ Ext w wr) (fun i _ => n - (intOf i).toNat)
    case atStart => exact ⟨0, Nat.zero_le _, rfl, rfl, Ext.refl _⟩
    case round =>
      obtain ⟨k, hk, rfl, HAB, hE⟩ := hrel
      by_cases hlt : k < n
      · obtain ⟨b1, o1, rfl, hb1, hc1⟩ := hX.2 (by omega)
        obtain ⟨b2, o2, rfl, hb2, hc2⟩ := hY.2 (by omega)
        have hx1 : wr.cell? ⟨b1, o1 + k, none⟩ = some (itv (xs.getD k 0)) := (hE.old (p := ⟨b1, o1 + k, none⟩) hb1).trans (hc1 k hlt)
        have hx2 : wr.cell? ⟨b2, o2 + k, none⟩ = some (itv (ys.getD k 0)) := (hE.old (p := ⟨b2, o2 + k, none⟩) hb2).trans (hc2 k hlt)
        have H1 := Lib.hid (show xs.take (k + 1) = xs.take k ++ [xs.getD k 0] from by
          rw [List.take_succ_eq_append_getElem (show k < xs.length by omega)]; simp [List.getD, List.getElem?_eq_getElem (show k < xs.length by omega)])
        have H2 := Lib.hid (show ys.take (k + 1) = ys.take k ++ [ys.getD k 0] from by
          rw [List.take_succ_eq_append_getElem (show k < ys.length by omega)]; simp [List.getD, List.getElem?_eq_getElem (show k < ys.length by omega)])
        clear hc1 hc2
        generalize xs.getD k 0 = x at hx1 H1
        generalize ys.getD k 0 = y at hx2 H2
        unfold itv at hx1 hx2
        by_cases hxy : x = y
        · have t1 : (x == y) = true := by rw [hxy]; simp
          have t2 : (x != y) = false := by rw [hxy]; simp
          have HXY := Lib.hid hxy
          clear hxy
          go_wp2_with fail
          go_quiet (fail)
          go_wp2_with fail
          go_roundw
          case rel => exact ⟨k + 1, by omega, by go_num, Lib.hid (by rw [H1.out, H2.out, HAB.out, HXY.out]), hE.trans (ext_drewN _ _)⟩
          case measure => simp [intOf]; omega
        · have t1 : (x == y) = false := by rw [beq_eq_false_iff_ne]; exact hxy
          have t2 : (x != y) = true := by rw [bne, t1]; rfl
          have HXY := Lib.hid hxy
          clear hxy
          go_wp2_with fail
          go_quiet (fail)
          go_wp2_with fail
          go_ret
          refine ⟨?_, hE.trans (ext_drewN _ _)⟩
          show Ending.returned (.bool false) = _
          rw [decide_eq_false_iff_not.2]
          intro e
          have h1 := H1.out
          rw [HAB.out, e, H2.out] at h1
          have := List.append_cancel_left h1
          simp at this
          exact HXY.out this.symm
      · obtain rfl : k = n := by omega
        have HF : decide (xs = ys) = true := by
          rw [decide_eq_true_iff]
          have h := HAB.out
          rwa [List.take_of_length_le (by omega), List.take_of_length_le (by omega)] at h
        have HF := Lib.hid HF
        go_wp2_with fail
        go_ret
        rw [HF.out]
        exact ⟨rfl, hE⟩
  · have tn : ((n : Int) != m) = true := by rw [bne_iff_ne]; omega
    have HF : decide (xs = ys) = false := by
      rw [decide_eq_false_iff_not]
      intro e
      rw [e] at hxl
      omega
    rw [HF]
    clear hnm
    go_enter Tryd.func26, Tryd.ntmps26
    go_wp2_with fail
    go_ret
    exact ⟨rfl, Ext.refl _⟩

set_option maxHeartbeats 400000 in
theorem same_T (A1 A2 : Option Addr) (n m c1 c2 : Nat) (xs ys : List (List UInt8)) (w : World) (hX : RowT w w.heap.size A1 n xs) (hY : RowT w w.heap.size A2 m ys) (hn : n < 9223372036854775808) (hm : m < 9223372036854775808) :
    Calls Tryd.prog 29 #[.slice A1 n c1, .slice A2 m c2] w fun e w' => e = .returned (.bool (decide (xs = ys))) ∧ Ext w w' := by
  have hxl := hX.1
  have hyl := hY.1
  by_cases hnm : n = m
  · subst hnm
    have tn : ((n : Int) != n) = false := by simp
    go_enter Tryd.func29, Tryd.ntmps29
    go_wp2_with fail
    go_loopw [5] (fun i wr => ∃ k : Nat, k ≤ n ∧ i = .int .i64 k ∧ Hid (xs.take k = ys.take k) ∧ Ext w wr) (fun i _ => n - (intOf i).toNat)
    case atStart => exact ⟨0, Nat.zero_le _, rfl, rfl, Ext.refl _⟩
    case round =>
      obtain ⟨k, hk, rfl, HAB, hE⟩ := hrel
      by_cases hlt : k < n
      · obtain ⟨b1, o1, rfl, hb1, hc1⟩ := hX.2 (by omega)
        obtain ⟨b2, o2, rfl, hb2, hc2⟩ := hY.2 (by omega)
        have hx1 : wr.cell? ⟨b1, o1 + k, none⟩ = some (txv (xs.getD k [])) := (hE.old (p := ⟨b1, o1 + k, none⟩) hb1).trans (hc1 k hlt)
        have hx2 : wr.cell? ⟨b2, o2 + k, none⟩ = some (txv (ys.getD k [])) := (hE.old (p := ⟨b2, o2 + k, none⟩) hb2).trans (hc2 k hlt)
        have H1 := Lib.hid (show xs.take (k + 1) = xs.take k ++ [xs.getD k []] from by
          rw [List.take_succ_eq_append_getElem (show k < xs.length by omega)]; simp [List.getD, List.getElem?_eq_getElem (show k < xs.length by omega)])
        have H2 := Lib.hid (show ys.take (k + 1) = ys.take k ++ [ys.getD k []] from by
          rw [List.take_succ_eq_append_getElem (show k < ys.length by omega)]; simp [List.getD, List.getElem?_eq_getElem (show k < ys.length by omega)])
        clear hc1 hc2
        generalize xs.getD k [] = x at hx1 H1
        generalize ys.getD k [] = y at hx2 H2
        unfold txv at hx1 hx2
        obtain ⟨xv, hxv⟩ : ∃ xv : ByteArray, (⟨x.toArray⟩ : ByteArray) = xv := ⟨_, rfl⟩
        obtain ⟨yv, hyv⟩ : ∃ yv : ByteArray, (⟨y.toArray⟩ : ByteArray) = yv := ⟨_, rfl⟩
        rw [hxv] at hx1
        rw [hyv] at hx2
        by_cases hxy : x = y
        · have t1 : (xv.toList == yv.toList) = true := by rw [← hxv, ← hyv, hxy]; simp
          have t2 : (xv.toList != yv.toList) = false := by rw [← hxv, ← hyv, hxy]; simp
          have HXY := Lib.hid hxy
          clear hxy
          go_wp2_with fail
          go_quiet (fail)
          go_wp2_with fail
          go_roundw
          case rel => exact ⟨k + 1, by omega, by go_num, Lib.hid (by rw [H1.out, H2.out, HAB.out, HXY.out]), hE.trans (ext_drewN _ _)⟩
          case measure => simp [intOf]; omega
        · have t1 : (xv.toList == yv.toList) = false := by rw [beq_eq_false_iff_ne]; intro e; have e2 := eq_of_toList e; rw [← hxv, ← hyv] at e2; exact hxy (txt_eq e2)
          have t2 : (xv.toList != yv.toList) = true := by rw [bne, t1]; rfl
          have HXY := Lib.hid hxy
          clear hxy
          go_wp2_with fail
          go_quiet (fail)
          go_wp2_with fail
          go_ret
          refine ⟨?_, hE.trans (ext_drewN _ _)⟩
          show Ending.returned (.bool false) = _
          rw [decide_eq_false_iff_not.2]
          intro e
          have h1 := H1.out
          rw [HAB.out, e, H2.out] at h1
          have := List.append_cancel_left h1
          simp at this
          exact HXY.out this.symm
      · obtain rfl : k = n := by omega
        have HF : decide (xs = ys) = true := by
          rw [decide_eq_true_iff]
          have h := HAB.out
          rwa [List.take_of_length_le (by omega), List.take_of_length_le (by omega)] at h
        have HF := Lib.hid HF
        go_wp2_with fail
        go_ret
        rw [HF.out]
        exact ⟨rfl, hE⟩
  · have tn : ((n : Int) != m) = true := by rw [bne_iff_ne]; omega
    have HF : decide (xs = ys) = false := by
      rw [decide_eq_false_iff_not]
      intro e
      rw [e] at hxl
      omega
    rw [HF]
    clear hnm
    go_enter Tryd.func29, Tryd.ntmps29
    go_wp2_with fail
    go_ret
    exact ⟨rfl, Ext.refl _⟩
end Go.Proofs.YthdbdpfgccipdaaDoor
