/- Contracts of the reference: lists compared, neighbours, the way up with a proof. -/
import Derived.Test.YtncdnopnjdbleaaDf
import Derived.BigQuiet
import Derived.Deep.QuietTactic
namespace Go.Proofs.Ytncdnopnjdbleaa
open Go.RowKit Hach

set_option maxHeartbeats 400000 in
theorem same_any (A B : Option Addr) (n m c c2 : Nat) (a b : List ByteArray) (w : World) (hA : Strs w w.heap.size A n a) (hB : Strs w w.heap.size B m b) (hn : n < 4294967296) (hm : m < 4294967296) :
    Calls Try.prog 25 #[.slice A n c, .slice B m c2] w fun e w' => e = .returned (.bool (sameL a b)) ∧ Below w.heap.size w w' := by
  by_cases hnm : n = m
  · subst hnm
    go_enter Try.func25, Try.ntmps25
    go_wp2_with fail
    go_loopw [5] (fun i wr => ∃ k : Nat, k ≤ n ∧ i = .int .i64 k ∧ a.take k = b.take k ∧ Below w.heap.size w wr) (fun i _ => n - (intOf i).toNat)
    case atStart => exact ⟨0, Nat.zero_le _, rfl, rfl, Below.refl _ _⟩
    case round =>
      obtain ⟨k, hk, rfl, hab, hb⟩ := hrel
      have HAB := Lib.hid hab
      clear hab
      by_cases hlt : k < n
      · obtain ⟨b1, o1, rfl, hbl1, hc1⟩ := hA.at_ hlt
        obtain ⟨b2, o2, rfl, hbl2, hc2⟩ := hB.at_ hlt
        have hx1 : wr.cell? ⟨b1, o1 + k, none⟩ = some (.string (a.getD k ByteArray.empty)) := (hb.cell (p := ⟨b1, o1 + k, none⟩) hbl1).trans (hc1 k hlt)
        have hx2 : wr.cell? ⟨b2, o2 + k, none⟩ = some (.string (b.getD k ByteArray.empty)) := (hb.cell (p := ⟨b2, o2 + k, none⟩) hbl2).trans (hc2 k hlt)
        have hla : k < a.length := by rw [hA.len]; exact hlt
        have hlb : k < b.length := by rw [hB.len]; exact hlt
        have ha : a.take (k + 1) = a.take k ++ [a.getD k ByteArray.empty] := by
          rw [List.take_succ_eq_append_getElem hla]; simp [List.getD, List.getElem?_eq_getElem hla]
        have hbb : b.take (k + 1) = b.take k ++ [b.getD k ByteArray.empty] := by
          rw [List.take_succ_eq_append_getElem hlb]; simp [List.getD, List.getElem?_eq_getElem hlb]
        have H1 := Lib.hid ha
        have H2 := Lib.hid hbb
        clear ha hbb hc1 hc2
        generalize a.getD k ByteArray.empty = x at hx1 H1
        generalize b.getD k ByteArray.empty = y at hx2 H2
        by_cases hxy : x.toList = y.toList
        · have t1 : (x.toList == y.toList) = true := by simp [hxy]
          have t2 : (!(x.toList == y.toList)) = false := by simp [hxy]
          have HXY := Lib.hid hxy
          clear hxy
          go_wp2_with fail
          go_quiet (fail)
          go_wp2_with fail
          go_roundw
          case rel => exact ⟨k + 1, by omega, by go_num, by rw [H1.out, H2.out, HAB.out, eq_of_toList HXY.out], below_drewN hb _⟩
          case measure => simp [intOf]; omega
        · have t1 : (x.toList == y.toList) = false := by simp [hxy]
          have t2 : (!(x.toList == y.toList)) = true := by simp [hxy]
          have HXY := Lib.hid hxy
          clear hxy
          go_wp2_with fail
          go_quiet (fail)
          go_wp2_with fail
          go_ret
          refine ⟨?_, below_drewN hb _⟩
          show Ending.returned (.bool false) = _
          rw [sameL_false]
          intro e
          have h1 := H1.out
          rw [HAB.out, e, H2.out] at h1
          have := List.append_cancel_left h1
          simp at this
          exact HXY.out (by rw [this])
      · obtain rfl : k = n := by omega
        go_wp2_with fail
        go_ret
        refine ⟨?_, hb⟩
        have h := HAB.out
        rw [List.take_of_length_le (by rw [hA.len]; exact Nat.le_refl _), List.take_of_length_le (by rw [hB.len]; exact Nat.le_refl _)] at h
        show Ending.returned (.bool true) = _
        rw [sameL_iff.2 h]
  · have t1 : ((n : Int) == (m : Int)) = false := by simp; omega
    have t2 : (!((n : Int) == (m : Int))) = true := by simp; omega
    go_enter Try.func25, Try.ntmps25
    go_wp2_with fail
    go_ret
    refine ⟨?_, Below.refl _ _⟩
    show Ending.returned (.bool false) = _
    rw [sameL_false]
    intro e
    exact hnm (by rw [← hA.len, ← hB.len, e])

set_option maxHeartbeats 400000 in
theorem neighbour_any (k : Nat) (w : World) (h : k < 4294967296) :
    Calls Try.prog 38 #[.int .i64 k] w fun e w' => e = .returned (.int .i64 (nbr k)) ∧ w = w' := by
  by_cases hk : k % 2 = 0
  · have e : nbr k = k + 1 := if_pos hk
    have t1 : ((k : Int) % 2 == 0) = true := by simp; omega
    rw [e]
    go_enter Try.func38, Try.ntmps38
    go_wp2_with fail
    go_ret
    exact ⟨rfl, rfl⟩
  · have e : ((nbr k : Nat) : Int) = (k : Int) - 1 := by
      have : nbr k = k - 1 := if_neg hk
      rw [this]; omega
    have t1 : ((k : Int) % 2 == 0) = false := by simp; omega
    rw [e]
    clear e
    go_enter Try.func38, Try.ntmps38
    go_wp2_with fail
    go_ret
    exact ⟨rfl, rfl⟩

theorem pow_bound (n : Nat) (h : n ≤ 40) : (1 : Int) ≤ 2 ^ n ∧ (2 : Int) ^ n ≤ 1099511627776 := by
  have h1 : (2 : Nat) ^ n ≤ 2 ^ 40 := Nat.pow_le_pow_right (by omega) h
  have h2 : 1 ≤ (2 : Nat) ^ n := Nat.one_le_two_pow
  have e : (2 : Int) ^ n = ((2 ^ n : Nat) : Int) := by simp
  rw [e]
  omega

/- Up, where its head sends one away -/
set_option maxHeartbeats 400000 in
theorem Up_no (d : ByteArray) (i : Int) (A : Option Addr) (n c : Nat) (w : World) (hn : n < 4294967296) (hi : -9223372036854775808 ≤ i ∧ i ≤ 9223372036854775807) (h : upOk i n = false) :
    Calls Try.prog 29 #[.string d, .int .i64 i, .slice A n c] w fun e w' => e = .returned (upV none) ∧ w = w' := by
  unfold upOk at h
  by_cases h1 : i < 0
  · clear h
    go_enter Try.func29, Try.ntmps29
    go_wp2_with fail
    go_ret2
    exact ⟨rfl, rfl⟩
  · by_cases h2 : 40 < n
    · clear h
      go_enter Try.func29, Try.ntmps29
      go_wp2_with fail
      go_ret2
      exact ⟨rfl, rfl⟩
    · have hp := pow_bound n (by omega)
      have h3 : (2 : Int) ^ n ≤ i := by
        simp at h
        have := h (by omega) (by omega)
        omega
      clear h
      have hw : wrap64 ((2 : Int) ^ n) = 2 ^ n := IntWalk.wrap64_in _ ⟨by omega, by omega⟩
      have t1 : decide ((2 : Int) ^ n ≤ i) = true := by simpa using h3
      have t2 : decide ((40 : Int) < (n : Int)) = false := by simp; omega
      go_enter Try.func29, Try.ntmps29
      go_wp2_with fail
      go_ret2
      exact ⟨rfl, rfl⟩
set_option maxHeartbeats 400000 in
theorem Up_yes (d : ByteArray) (i : Nat) (A : Option Addr) (n c : Nat) (ps : List ByteArray) (w : World) (hS : Strs w w.heap.size A n ps) (hsm : Sm ps) (hd : d.size < 429496729) (h : upOk i n = true) :
    Calls Try.prog 29 #[.string d, .int .i64 i, .slice A n c] w fun e w' => e = .returned (upV (up ps d i)) ∧ Below w.heap.size w w' := by
  unfold upOk at h
  simp at h
  obtain ⟨h2, h3⟩ := h
  have hp := pow_bound n h2
  have hw : wrap64 ((2 : Int) ^ n) = 2 ^ n := IntWalk.wrap64_in _ ⟨by omega, by omega⟩
  have t1 : decide ((2 : Int) ^ n ≤ (i : Int)) = false := by simp; omega
  have t2 : decide ((40 : Int) < (n : Int)) = false := by simp; omega
  have h4 : i < 1099511627776 := by omega
  clear hp h3
  go_enter Try.func29, Try.ntmps29
  go_wp2_with fail
  go_loopw [0, 1, 8] (fun vd vi vk wr => ∃ (k j : Nat) (x : ByteArray), k ≤ n ∧ vk = .int .i64 k ∧ vi = .int .i64 j ∧ j < 1099511627776 ∧ vd = .string x ∧ x.size < 429496729 ∧ up (ps.drop k) x j = up ps d i ∧ Below w.heap.size w wr) (fun _ _ vk _ => n - (intOf vk).toNat)
  case atStart => exact ⟨0, i, d, Nat.zero_le _, rfl, rfl, h4, rfl, hd, rfl, Below.refl _ _⟩
  case round =>
    obtain ⟨k, j, x, hk, rfl, rfl, hj, rfl, hx, hup, hb⟩ := hrel
    have HUP := Lib.hid hup
    clear hup
    by_cases hlt : k < n
    · obtain ⟨b1, o1, rfl, hbl1, hc1⟩ := hS.at_ hlt
      have hx1 : wr.cell? ⟨b1, o1 + k, none⟩ = some (.string (ps.getD k ByteArray.empty)) := (hb.cell (p := ⟨b1, o1 + k, none⟩) hbl1).trans (hc1 k hlt)
      have hl : k < ps.length := by rw [hS.len]; exact hlt
      have hdr : ps.drop k = ps.getD k ByteArray.empty :: ps.drop (k + 1) := by
        rw [List.drop_eq_getElem_cons hl]; simp [List.getD, List.getElem?_eq_getElem hl]
      have HD := Lib.hid hdr
      have hps := hsm k
      clear hc1 hdr
      generalize ps.getD k ByteArray.empty = p at hx1 HD hps
      by_cases h8 : p.size = 8
      · have s1 : ((p.size : Int) == 8) = true := by simp; omega
        have s2 : (!((p.size : Int) == 8)) = false := by simp; omega
        have H8 := Lib.hid h8
        have h8' : p.size < 9 := by omega
        clear h8
        by_cases h0 : j % 2 = 0
        · have t3 : ((j : Int) % 2 == 0) = true := by simp; omega
          have H0 := Lib.hid h0
          clear h0
          go_wp2_with fail
          refine (rOf_any _ _ (by simp only [ByteArray.size_append]; have : (⟨#[4]⟩ : ByteArray).size = 1 := rfl; omega)).mono ?_
          rintro e w1 ⟨rfl, hb1⟩
          go_wp2_with fail
          go_roundw
          case rel =>
            refine ⟨k + 1, j / 2, _, by omega, by go_num, by go_num, by omega, rfl, by rw [dg_size]; omega, ?_, hb.trans (hb1.mono hb.size)⟩
            rw [← HUP.out, HD.out]
            simp only [up, H8.out, H0.out, if_true, node]
          case measure => simp [intOf]; omega
        · have t3 : ((j : Int) % 2 == 0) = false := by simp; omega
          have H0 := Lib.hid h0
          clear h0
          go_wp2_with fail
          refine (rOf_any _ _ (by simp only [ByteArray.size_append]; have : (⟨#[4]⟩ : ByteArray).size = 1 := rfl; omega)).mono ?_
          rintro e w1 ⟨rfl, hb1⟩
          go_wp2_with fail
          go_roundw
          case rel =>
            refine ⟨k + 1, j / 2, _, by omega, by go_num, by go_num, by omega, rfl, by rw [dg_size]; omega, ?_, hb.trans (hb1.mono hb.size)⟩
            rw [← HUP.out, HD.out]
            simp only [up, H8.out, if_neg H0.out, if_true, node]
          case measure => simp [intOf]; omega
      · have s1 : ((p.size : Int) == 8) = false := by simp; omega
        have s2 : (!((p.size : Int) == 8)) = true := by simp; omega
        have H8 := Lib.hid h8
        clear h8
        go_wp2_with fail
        go_ret2
        refine ⟨?_, hb⟩
        rw [← HUP.out, HD.out]
        simp only [up, if_neg H8.out]
        rfl
    · obtain rfl : k = n := by omega
      go_wp2_with fail
      go_ret2
      refine ⟨?_, hb⟩
      rw [← HUP.out, List.drop_of_length_le (by rw [hS.len]; exact Nat.le_refl _)]
      rfl
end Go.Proofs.Ytncdnopnjdbleaa
