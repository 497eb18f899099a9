/- Contracts of the reference's decimal numbers and digits. -/
import Derived.Test.YthppcmejffdicaaGreatDoorQA
import Derived.Test.YthppcmejffdicaaGreatDoorQJf

set_option linter.unusedSimpArgs false
set_option linter.unusedVariables false
namespace Go.Proofs.YthppcmejffdicaaGreatDoor
open Go.RowKit Hach Num Jn

theorem one_byte {w : World} {g : Nat} {y : UInt8} (h : w.cell? ⟨g, 0, none⟩ = some (.int .u8 (y.toNat : Nat))) (c : Nat) : (convert 57 9 (.slice (some ⟨g, 0, none⟩) 1 c)).run Tryz.prog w = .ok (.string ⟨#[y]⟩) w := by
  have hc := run_convert_bytes_arg (P := Tryz.prog) w 57 5 Tryz.underlying57 Tryz.underlying5 g 0 1 c [(y.toNat : Int)] rfl (by
    intro i hi
    obtain rfl : i = 0 := by simpa using hi
    exact h) 9 Tryz.underlying9
  rw [hc]
  simp [strOfNums]

/- the decimal form of the reference -/
theorem itoa_small {n : Int} (h0 : 0 ≤ n) (h1 : n < 10) : Lib.itoa n = [UInt8.ofNat (48 + n.toNat)] := by
  unfold Lib.itoa; rw [if_neg (by omega), Lib.decDigits_one (by omega)]
theorem itoa_minus {n : Int} (h0 : -10 < n) (h1 : n < 0) : Lib.itoa n = 45 :: Lib.itoa (-n) := by
  unfold Lib.itoa; rw [if_pos h1, if_neg (by omega)]; congr 2; omega
theorem itoa_step {n : Int} (h : n ≤ -10 ∨ 10 ≤ n) : Lib.itoa n = Lib.itoa (n.tdiv 10) ++ Lib.itoa (if n < 0 then -(n.tmod 10) else n.tmod 10) := by
  rcases h with h | h
  · have hd : n.tdiv 10 = -((n.natAbs / 10 : Nat) : Int) := by
      have e : n = -((n.natAbs : Nat) : Int) := by omega
      rw [e, Int.neg_tdiv]; simp [Int.tdiv]
    have hm : n.tmod 10 = -((n.natAbs % 10 : Nat) : Int) := by
      have e : n = -((n.natAbs : Nat) : Int) := by omega
      rw [e, Int.neg_tmod]; simp [Int.tmod]
    rw [if_pos (by omega), hd, hm]
    unfold Lib.itoa
    rw [if_pos (by omega), if_pos (by omega), if_neg (by omega)]
    rw [Lib.decDigits, dif_neg (by omega)]
    simp only [Int.neg_neg, Int.natAbs_neg, Int.natAbs_natCast, Int.toNat_natCast, List.cons_append]
    rw [Lib.decDigits_one (i := n.natAbs % 10) (by omega)]
  · have hd : n.tdiv 10 = ((n.toNat / 10 : Nat) : Int) := by
      have e : n = ((n.toNat : Nat) : Int) := by omega
      rw [e]; simp [Int.tdiv]
    have hm : n.tmod 10 = ((n.toNat % 10 : Nat) : Int) := by
      have e : n = ((n.toNat : Nat) : Int) := by omega
      rw [e]; simp [Int.tmod]
    rw [if_neg (by omega), hd, hm]
    unfold Lib.itoa
    rw [if_neg (by omega), if_neg (by omega), if_neg (by omega)]
    rw [Lib.decDigits, dif_neg (by omega)]
    simp only [Int.toNat_natCast]
    rw [Lib.decDigits_one (i := n.toNat % 10) (by omega)]

theorem itoa_size {v : Int} (h : InI v) : (Lib.itoa v).length ≤ 21 ∧ (⟨(Lib.itoa v).toArray⟩ : ByteArray).size ≤ 21 := by
  have := Lib.itoa_length_le v h.1 h.2
  exact ⟨this, by show (Lib.itoa v).toArray.size ≤ 21; simpa using this⟩

set_option maxRecDepth 100000 in
theorem dec_digit (j : Nat) (hj : j < 10) (w : World) :
    Calls Tryz.prog 45 #[.int .i64 (j : Nat)] w fun e w' => e = .returned (.string ⟨(Lib.itoa j).toArray⟩) ∧ Ext w w' := by
  have hit := itoa_small (n := j) (by omega) (by omega)
  simp only [Int.toNat_natCast] at hit
  have hy : (UInt8.ofNat (48 + j)).toNat = 48 + j := dig_toNat hj
  obtain ⟨y, hyy⟩ : ∃ y, UInt8.ofNat (48 + j) = y := ⟨_, rfl⟩
  rw [hyy] at hy hit
  have hcv : (convert 57 9 (.slice (some ⟨w.heap.size, 0, none⟩) 1 1)).run Tryz.prog (w.alloc (.cells #[.int .u8 (48 + (j : Int))] 5)) = .ok (.string ⟨#[y]⟩) (w.alloc (.cells #[.int .u8 (48 + (j : Int))] 5)) :=
    one_byte (y := y) (by rw [hy]; exact (World.cell?_alloc_new _ _ _ _).trans rfl) 1
  have HIT := Lib.hid hit
  clear hit hy hyy
  go_enter Tryz.func45, Tryz.ntmps45
  go_wp2_with fail
  go_ret
  exact ⟨by rw [HIT.out]; rfl, Ext.alloc _ _⟩

set_option maxRecDepth 100000 in
set_option maxHeartbeats 400000 in
theorem decimal_any (k : Nat) : ∀ (n : Int), n.natAbs ≤ k → 0 ≤ n → InI n → ∀ w : World,
    Calls Tryz.prog 45 #[.int .i64 n] w fun e w' => e = .returned (.string ⟨(Lib.itoa n).toArray⟩) ∧ Ext w w' := by
  induction k using Nat.strongRecOn with
  | _ k ih =>
  intro n hk h0 hn w
  obtain ⟨hn0, hn1⟩ := hn
  by_cases h1 : n < 10
  · obtain ⟨j, rfl⟩ : ∃ j : Nat, n = j := ⟨n.toNat, by omega⟩
    exact dec_digit j (by omega) w
  · skip
    have hit := itoa_step (n := n) (.inr (by omega))
    rw [if_neg (by omega)] at hit
    obtain ⟨q, hq⟩ : ∃ q, n.tdiv 10 = q := ⟨_, rfl⟩
    obtain ⟨m, hm⟩ : ∃ m, n.tmod 10 = m := ⟨_, rfl⟩
    rw [hq, hm] at hit
    have hm0 : 0 ≤ m ∧ m ≤ 9 := by
      have e : n = ((n.toNat : Nat) : Int) := by omega
      have : m = ((n.toNat % 10 : Nat) : Int) := by rw [← hm, e]; simp [Int.tmod]
      omega
    have hq0 : 1 ≤ q ∧ q < n := by
      have := Int.mul_tdiv_add_tmod n 10
      rw [hq, hm] at *
      omega
    obtain ⟨hq1, hq2⟩ := hq0
    have hrec := ih q.natAbs (by omega) q (Nat.le_refl _) (by omega) ⟨by omega, by omega⟩
    obtain ⟨j, rfl⟩ : ∃ j : Nat, m = j := ⟨m.toNat, by omega⟩
    have HIT := Lib.hid hit
    have HREC := Lib.hid hrec
    have t1 : decide (n < 10) = false := by simp; omega
    clear hit ih hrec
    go_enter Tryz.func45, Tryz.ntmps45
    go_wp2_with fail
    refine (HREC.out w).mono ?_
    rintro e w1 ⟨rfl, hE⟩
    go_wp2_with fail
    refine (dec_digit j (by omega) w1).mono ?_
    rintro e w2 ⟨rfl, hE2⟩
    obtain ⟨l1, l2⟩ := itoa_size (v := j) ⟨by omega, by omega⟩
    obtain ⟨l3, l4⟩ := itoa_size (v := q) ⟨by omega, by omega⟩
    go_wp2_with fail
    go_ret
    refine ⟨?_, hE.trans hE2⟩
    rw [HIT.out, ← ba_append]; rfl

end Go.Proofs.YthppcmejffdicaaGreatDoor
