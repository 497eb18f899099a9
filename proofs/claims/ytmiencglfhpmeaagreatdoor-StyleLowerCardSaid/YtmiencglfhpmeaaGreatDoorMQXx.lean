/- Contracts of the writers of one integer, of one text: of the given program, and of the reference. -/
import Derived.Test.YtmiencglfhpmeaaGreatDoorMQXw
import Derived.Deep.CutBlock
set_option linter.unusedSimpArgs false
set_option linter.unusedVariables false
namespace Go.Proofs.YtmiencglfhpmeaaGreatDoor.Wr
open Go.RowKit Hach Num
theorem ba_append (a b : List UInt8) : (⟨a.toArray⟩ : ByteArray) ++ ⟨b.toArray⟩ = ⟨(a ++ b).toArray⟩ := by
 apply ba_ext; rw [data_append]
theorem one_byte {w : World} {g : Nat} {y : UInt8} (h : w.cell? ⟨g, 0, none⟩ = some (.int .u8 (y.toNat : Nat))) (c : Nat) : (convert 97 9 (.slice (some ⟨g, 0, none⟩) 1 c)).run Tryz.prog w = .ok (.string ⟨#[y]⟩) w := by
 have hc := run_convert_bytes_arg (P := Tryz.prog) w 97 5 Tryz.underlying97 Tryz.underlying5 g 0 1 c [(y.toNat : Int)] rfl (by
  intro i hi
  obtain rfl : i = 0 := by simpa using hi
  exact h) 9 Tryz.underlying9
 rw [hc]
 simp [strOfNums]
theorem itoa_small {n : Int} (h0 : 0 ≤ n) (h1 : n < 10) : Lib.itoa n = [UInt8.ofNat (48 + n.toNat)] := by
 unfold Lib.itoa; rw [if_neg (by omega), Lib.decDigits_one (by omega)]
theorem itoa_minus {n : Int} (h0 : -10 < n) (h1 : n < 0) : Lib.itoa n = 45 :: Lib.itoa (-n) := by
 unfold Lib.itoa; rw [if_pos h1, if_neg (by omega)]; congr 2; omega
theorem itoa_step {n : Int} (h : n ≤ -10 ∨ 10 ≤ n) : Lib.itoa n = Lib.itoa (n.tdiv 10) ++ Lib.itoa (if n < 0 then -(n.tmod 10) else n.tmod 10) := by
 rcases h with h | h
 ·have hd : n.tdiv 10 = -((n.natAbs / 10 : Nat) : Int) := by
   have e : n = -((n.natAbs : Nat) : Int) := by omega
   rw [e, Int.neg_tdiv]; simp [Int.tdiv]
  have hm : n.tmod 10 = -((n.natAbs % 10 : Nat) : Int) := by
   have e : n = -((n.natAbs : Nat) : Int) := by omega
   rw [e, Int.neg_tmod]; simp [Int.tmod]
  rw [if_pos (by omega), hd, hm]
  unfold Lib.itoa
  rw [if_pos (by omega), if_pos (by omega), if_neg (by omega)]
  rw [Lib.decDigits, dif_neg (by omega)]
  simp only [Int.neg_neg, Int.natAbs_neg, Int.natAbs_natCast, Int.toNat_natCast, List.cons_append]
  rw [Lib.decDigits_one (i := n.natAbs % 10) (by omega)]
 ·have hd : n.tdiv 10 = ((n.toNat / 10 : Nat) : Int) := by
   have e : n = ((n.toNat : Nat) : Int) := by omega
   rw [e]; simp [Int.tdiv]
  have hm : n.tmod 10 = ((n.toNat % 10 : Nat) : Int) := by
   have e : n = ((n.toNat : Nat) : Int) := by omega
   rw [e]; simp [Int.tmod]
  rw [if_neg (by omega), hd, hm]
  unfold Lib.itoa
  rw [if_neg (by omega), if_neg (by omega), if_neg (by omega)]
  rw [Lib.decDigits, dif_neg (by omega)]
  simp only [Int.toNat_natCast]
  rw [Lib.decDigits_one (i := n.toNat % 10) (by omega)]
theorem itoa_size {v : Int} (h : InI v) : (Lib.itoa v).length ≤ 21 ∧ (⟨(Lib.itoa v).toArray⟩ : ByteArray).size ≤ 21 := by
 have := Lib.itoa_length_le v h.1 h.2
 exact ⟨this, by show (Lib.itoa v).toArray.size ≤ 21; simpa using this⟩
set_option maxRecDepth 100000 in
theorem dec_digit (j : Nat) (hj : j < 10) (w : World) :
  Calls Tryz.prog 86 #[.int .i64 (j : Nat)] w fun e w' => e = .returned (.string ⟨(Lib.itoa j).toArray⟩) ∧ Ext w w' := by
 have hit := itoa_small (n := j) (by omega) (by omega)
 simp only [Int.toNat_natCast] at hit
 have hy : (UInt8.ofNat (48 + j)).toNat = 48 + j := dig_toNat hj
 obtain ⟨y, hyy⟩ : ∃ y, UInt8.ofNat (48 + j) = y := ⟨_, rfl⟩
 rw [hyy] at hy hit
 have hcv : (convert 97 9 (.slice (some ⟨w.heap.size, 0, none⟩) 1 1)).run Tryz.prog (w.alloc (.cells #[.int .u8 (48 + (j : Int))] 5)) = .ok (.string ⟨#[y]⟩) (w.alloc (.cells #[.int .u8 (48 + (j : Int))] 5)) :=
  one_byte (y := y) (by rw [hy]; exact (World.cell?_alloc_new _ _ _ _).trans rfl) 1
 have HIT := Lib.hid hit
 clear hit hy hyy
 go_enter Tryz.func86, Tryz.ntmps86
 go_wp2_with fail
 go_ret
 exact ⟨by rw [HIT.out]; rfl, Ext.alloc _ _⟩
set_option maxRecDepth 100000 in
set_option maxHeartbeats 400000 in
theorem dec_any (k : Nat) : ∀ (n : Int), n.natAbs ≤ k → InI n → ∀ w : World,
  Calls Tryz.prog 86 #[.int .i64 n] w fun e w' => e = .returned (.string ⟨(Lib.itoa n).toArray⟩) ∧ Ext w w' := by
 induction k using Nat.strongRecOn with
 | _ k ih =>
 intro n hk hn w
 obtain ⟨hn0, hn1⟩ := hn
 by_cases h1 : 0 ≤ n ∧ n < 10
 ·obtain ⟨j, rfl⟩ : ∃ j : Nat, n = j := ⟨n.toNat, by omega⟩
  exact dec_digit j (by omega) w
 ·by_cases h2 : n < 0
  ·by_cases h3 : -10 < n
   ·obtain ⟨j, rfl⟩ : ∃ j : Nat, n = -(j : Int) := ⟨n.natAbs, by omega⟩
    have hit := itoa_minus h3 h2
    rw [Int.neg_neg] at hit
    have em : (-(j : Int)).tmod 10 = -(j : Int) := by rw [Int.neg_tmod, Int.tmod_eq_of_lt (by omega) (by omega)]
    have ed : (-(j : Int)).tdiv 10 = 0 := by rw [Int.neg_tdiv, Int.tdiv_eq_zero_of_lt (by omega) (by omega)]; rfl
    have hj : j < 10 := by omega
    have HIT := Lib.hid hit
    clear hit ih
    go_enter Tryz.func86, Tryz.ntmps86
    go_wp2_with fail
    refine (dec_digit j hj w).mono ?_
    rintro e w1 ⟨rfl, hE⟩
    obtain ⟨l1, l2⟩ := itoa_size (v := j) ⟨by omega, by omega⟩
    go_wp2_with fail
    go_ret
    refine ⟨?_, hE⟩
    rw [HIT.out]
    show Ending.returned (Value.string (⟨[45].toArray⟩ ++ _)) = _
    rw [ba_append]; rfl
   ·have hit := itoa_step (n := n) (.inl (by omega))
    rw [if_pos h2] at hit
    obtain ⟨q, hq⟩ : ∃ q, n.tdiv 10 = q := ⟨_, rfl⟩
    obtain ⟨m, hm⟩ : ∃ m, n.tmod 10 = m := ⟨_, rfl⟩
    rw [hq, hm] at hit
    have hq0 : q ≤ -1 ∧ n < q := by
     have := Int.mul_tdiv_add_tmod n 10
     have := Int.tmod_lt_of_pos n (show (0 : Int) < 10 by decide)
     have := Int.lt_tmod_of_pos n (show (0 : Int) < 10 by decide)
     rw [hq, hm] at *
     omega
    have hm0 : -9 ≤ m ∧ m ≤ 0 := by
     have e : n = -((n.natAbs : Nat) : Int) := by omega
     have : m = -((n.natAbs % 10 : Nat) : Int) := by rw [← hm, e, Int.neg_tmod]; simp [Int.tmod]
     omega
    obtain ⟨hq1, hq2⟩ := hq0
    obtain ⟨hm1, hm2⟩ := hm0
    have tq : (q == 0) = false := by rw [beq_eq_false_iff_ne]; omega
    have hrec := ih q.natAbs (by omega) q (Nat.le_refl _) ⟨by omega, by omega⟩
    obtain ⟨j, hj⟩ : ∃ j : Nat, -m = j := ⟨(-m).toNat, by omega⟩
    rw [hj] at hit
    have HIT := Lib.hid hit
    have HREC := Lib.hid hrec
    clear hit ih hrec
    go_enter Tryz.func86, Tryz.ntmps86
    go_wp2_with fail
    refine (HREC.out w).mono ?_
    rintro e w1 ⟨rfl, hE⟩
    go_wp2_with fail
    refine (dec_digit j (by omega) w1).mono ?_
    rintro e w2 ⟨rfl, hE2⟩
    obtain ⟨l1, l2⟩ := itoa_size (v := j) ⟨by omega, by omega⟩
    obtain ⟨l3, l4⟩ := itoa_size (v := q) ⟨by omega, by omega⟩
    go_wp2_with fail
    go_ret
    refine ⟨?_, hE.trans hE2⟩
    rw [HIT.out, ← ba_append]; rfl
  ·have hit := itoa_step (n := n) (.inr (by omega))
   rw [if_neg h2] at hit
   obtain ⟨q, hq⟩ : ∃ q, n.tdiv 10 = q := ⟨_, rfl⟩
   obtain ⟨m, hm⟩ : ∃ m, n.tmod 10 = m := ⟨_, rfl⟩
   rw [hq, hm] at hit
   have hm0 : 0 ≤ m ∧ m ≤ 9 := by
    have e : n = ((n.toNat : Nat) : Int) := by omega
    have : m = ((n.toNat % 10 : Nat) : Int) := by rw [← hm, e]; simp [Int.tmod]
    omega
   have hq0 : 1 ≤ q ∧ q < n := by
    have := Int.mul_tdiv_add_tmod n 10
    rw [hq, hm] at *
    omega
   obtain ⟨hq1, hq2⟩ := hq0
   have hrec := ih q.natAbs (by omega) q (Nat.le_refl _) ⟨by omega, by omega⟩
   obtain ⟨j, rfl⟩ : ∃ j : Nat, m = j := ⟨m.toNat, by omega⟩
   have HIT := Lib.hid hit
   have HREC := Lib.hid hrec
   have t1 : decide (n < 10) = false := by simp; omega
   clear hit ih hrec
   go_enter Tryz.func86, Tryz.ntmps86
   go_wp2_with fail
   refine (HREC.out w).mono ?_
   rintro e w1 ⟨rfl, hE⟩
   go_wp2_with fail
   refine (dec_digit j (by omega) w1).mono ?_
   rintro e w2 ⟨rfl, hE2⟩
   obtain ⟨l1, l2⟩ := itoa_size (v := j) ⟨by omega, by omega⟩
   obtain ⟨l3, l4⟩ := itoa_size (v := q) ⟨by omega, by omega⟩
   go_wp2_with fail
   go_ret
   refine ⟨?_, hE.trans hE2⟩
   rw [HIT.out, ← ba_append]; rfl
end Go.Proofs.YtmiencglfhpmeaaGreatDoor.Wr
namespace Go.Proofs.YtmiencglfhpmeaaGreatDoor.Wr
open Go.RowKit Hach Num
theorem bytes_length (l : List UInt8) : (Lib.byteCells l).length = l.length := by simp [Lib.byteCells]
theorem toArr_size (l : List UInt8) : (⟨l.toArray⟩ : ByteArray).size = l.length := by show l.toArray.size = _; simp
theorem wInt_any (n : Int) (hn : InI n) (w : World) (hT : Tabs w) :
  Calls Tryz.prog 48 #[.int .i64 n] w fun e w' => e = .returned (.string ⟨(wrInt n).toArray⟩) ∧ Ext w w' := by
 obtain ⟨l1, l2⟩ := itoa_size hn
 go_enter Tryz.func48, Tryz.ntmps48
 go_wp2_with fail
 refine (itoa_any n hn w hT).mono ?_
 rintro e w' ⟨rfl, hE⟩
 go_wp2_with fail
 go_ret
 refine ⟨?_, hE⟩
 show Ending.returned (Value.string (_ ++ ⟨[59].toArray⟩)) = _
 rw [ba_append]; rfl
theorem wText_any (s : List UInt8) (hs : s.length < 4294967296) (w : World) (hT : Tabs w) :
  Calls Tryz.prog 47 #[.string ⟨s.toArray⟩] w fun e w' => e = .returned (.string ⟨(wrText s).toArray⟩) ∧ Ext w w' := by
 have hn : InI (s.length : Int) := ⟨by omega, by omega⟩
 obtain ⟨l1, l2⟩ := itoa_size hn
 have hz := toArr_size s
 have hz2 := toArr_size (Lib.itoa (s.length : Int) ++ [58])
 rw [← ba_append] at hz2
 simp only [List.length_append, List.length_singleton] at hz2
 go_enter Tryz.func47, Tryz.ntmps47
 go_wp2_with fail
 refine (itoa_any _ hn w hT).mono ?_
 rintro e w' ⟨rfl, hE⟩
 go_wp2_with fail
 go_ret
 refine ⟨?_, hE⟩
 show Ending.returned (Value.string (_ ++ ⟨[58].toArray⟩ ++ _)) = _
 rw [ba_append, ba_append, List.append_assoc]; rfl
theorem rInt_any (n : Int) (hn : InI n) (w : World) (_hT : Tabs w) :
  Calls Tryz.prog 52 #[.int .i64 n] w fun e w' => e = .returned (.string ⟨(wrInt n).toArray⟩) ∧ Ext w w' := by
 obtain ⟨l1, l2⟩ := itoa_size hn
 go_enter Tryz.func52, Tryz.ntmps52
 go_wp2_with fail
 refine (dec_any _ n (Nat.le_refl _) hn w).mono ?_
 rintro e w' ⟨rfl, hE⟩
 go_wp2_with fail
 go_ret
 refine ⟨?_, hE⟩
 show Ending.returned (Value.string (_ ++ ⟨[59].toArray⟩)) = _
 rw [ba_append]; rfl
end Go.Proofs.YtmiencglfhpmeaaGreatDoor.Wr
namespace Go.Proofs.YtmiencglfhpmeaaGreatDoor.Wr
open Go.RowKit Hach Num
end Go.Proofs.YtmiencglfhpmeaaGreatDoor.Wr
