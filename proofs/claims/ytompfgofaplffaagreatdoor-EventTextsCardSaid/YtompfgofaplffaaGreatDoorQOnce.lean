/- Plain: the square root of a whole number below 2^53 as a float, cut to a whole number: one that is not negative, and below 2^53. -/
import GoSem.Core.Float
import Derived.Laws.Externs
import Derived.Laws.FloatArith
import Derived.IntWalk
import Derived.LoopTactic
import Derived.Test.YtompfgofaplffaaGreatDoorQAe
import Derived.Sort.Grow
import Derived.Lib.SmallJoins
import Derived.Lib.AppendIntMem
import Derived.LoopN
import Derived.Shelf.SlSortCmp.SmallK
import Derived.Test.YtompfgofaplffaaGreatDoorQEa
import Derived.Laws.AppendOwn
import Derived.Deep.MidRow
set_option linter.unusedSimpArgs false
set_option linter.unusedVariables false
namespace Hach
open Ieee Go

theorem rootFrom_sq (n : Nat) : ∀ (todo r : Nat), r * r ≤ n → Datum.rootFrom n todo r * Datum.rootFrom n todo r ≤ n
  | 0, _, h => h
  | todo + 1, r, h => by
    unfold Datum.rootFrom
    dsimp only
    split
    · rename_i h1; exact rootFrom_sq n todo _ h1
    · exact rootFrom_sq n todo _ h
theorem cut_none (n : Nat) (neg : Bool) : Toward.even.cut neg n 0 = n := by
  unfold Toward.cut
  simp [Nat.mod_one]
theorem cut_le (neg : Bool) (n d : Nat) : Toward.zero.cut neg n d ≤ n := by
  unfold Toward.cut
  simp only [Bool.toNat_false, Nat.add_zero]
  exact Nat.div_le_self _ _
theorem cut_even_le (neg : Bool) (n d : Nat) : Toward.even.cut neg n d ≤ n / (1 <<< min d (n.log2 + 2)) + 1 := by
  unfold Toward.cut
  dsimp only
  refine Nat.add_le_add_left ?_ _
  exact Bool.toNat_le _
theorem dbl_facts : double.binade = 4503599627370496 ∧ double.infRung = 9218868437227405312 ∧ double.signWeight = 9223372036854775808 ∧ double.leastPlace = -1074 ∧ double.fractionBits = 52 := by decide
theorem read_norm {r : Nat} (h1 : 4503599627370496 ≤ r) (h2 : r < 9218868437227405312) : double.read r = .number false (4503599627370496 + r % 4503599627370496) (-1074 + ((r / 4503599627370496 - 1 : Nat) : Int)) := by
  obtain ⟨e1, e2, e3, e4, _⟩ := dbl_facts
  unfold Format.read
  rw [e1, e2, e3, e4]
  have hm : r % 9223372036854775808 = r := Nat.mod_eq_of_lt (by omega)
  have hd : r / 9223372036854775808 = 0 := Nat.div_eq_of_lt (by omega)
  dsimp only
  rw [hm, hd, if_neg (by omega), if_pos (by omega)]
  rfl
theorem read_sub {r : Nat} (h1 : r < 4503599627370496) : double.read r = .number false r (-1074) := by
  obtain ⟨e1, e2, e3, e4, _⟩ := dbl_facts
  unfold Format.read
  rw [e1, e2, e3, e4]
  have hm : r % 9223372036854775808 = r := Nat.mod_eq_of_lt (by omega)
  have hd : r / 9223372036854775808 = 0 := Nat.div_eq_of_lt (by omega)
  dsimp only
  rw [hm, hd, if_pos (by omega)]
  rfl
theorem pow_le2 {a b : Nat} (h : a ≤ b) : 2 ^ a ≤ 2 ^ b := Nat.pow_le_pow_right (by decide) h
/-- The word of a whole number. -/
theorem near_whole {n : Nat} (h0 : 0 < n) (h : n < 9007199254740992) : ∃ k, double.nearest false n 0 = (n.log2 + 1022) * 4503599627370496 + k ∧ 4503599627370496 ≤ k ∧ k < 9007199254740992 ∧ n.log2 ≤ 52 := by
  obtain ⟨e1, e2, e3, e4, e5⟩ := dbl_facts
  have hl : n.log2 ≤ 52 := by
    have : n.log2 < 53 := (Nat.log2_lt (by omega)).2 (by simpa using h)
    omega
  have hlo : 2 ^ n.log2 ≤ n := Nat.log2_self_le (by omega)
  have hhi : n < 2 ^ (n.log2 + 1) := Nat.lt_log2_self
  refine ⟨n <<< (52 - n.log2), ?_, ?_, ?_, hl⟩
  · unfold Format.nearest
    rw [if_neg (by omega), e1, e2, e4, e5]
    dsimp only
    have hlast : max ((0 : Int) + (n.log2 : Int) - ((52 : Nat) : Int)) (-1074) = (n.log2 : Int) - 52 := by omega
    rw [hlast]
    have a1 : ((0 : Int) - ((n.log2 : Int) - 52)).toNat = 52 - n.log2 := by omega
    have a2 : ((n.log2 : Int) - 52 - 0).toNat = 0 := by omega
    have a3 : ((n.log2 : Int) - 52 - -1074).toNat = n.log2 + 1022 := by omega
    rw [a1, a2, a3, cut_none]
    have hk : n <<< (52 - n.log2) < 9007199254740992 := by
      rw [Nat.shiftLeft_eq]
      calc n * 2 ^ (52 - n.log2) < 2 ^ (n.log2 + 1) * 2 ^ (52 - n.log2) := Nat.mul_lt_mul_of_pos_right hhi (Nat.two_pow_pos _)
        _ = 2 ^ 53 := by rw [← Nat.pow_add]; congr 1; omega
        _ = 9007199254740992 := by decide
    rw [Nat.min_eq_left (by omega)]
    rfl
  · rw [Nat.shiftLeft_eq]
    calc 4503599627370496 = 2 ^ 52 := by decide
      _ = 2 ^ n.log2 * 2 ^ (52 - n.log2) := by rw [← Nat.pow_add]; congr 1; omega
      _ ≤ n * 2 ^ (52 - n.log2) := Nat.mul_le_mul_right _ hlo
  · rw [Nat.shiftLeft_eq]
    calc n * 2 ^ (52 - n.log2) < 2 ^ (n.log2 + 1) * 2 ^ (52 - n.log2) := Nat.mul_lt_mul_of_pos_right hhi (Nat.two_pow_pos _)
      _ = 2 ^ 53 := by rw [← Nat.pow_add]; congr 1; omega
      _ = 9007199254740992 := by decide
/-- A small number's word, cut to a whole number. -/
theorem write_small {M : Nat} {p : Int} (hM : M < 72057594037927936) (h1 : -600 ≤ p) (h2 : p ≤ -29) : ∃ v : Nat, (double.read (double.write (.number false M p))).toInt .zero = some (v : Int) ∧ v < 9007199254740992 := by
  obtain ⟨e1, e2, e3, e4, e5⟩ := dbl_facts
  by_cases h0 : M = 0
  · subst h0
    have : double.write (.number false 0 p) = 0 := by
      show double.nearest false 0 p = 0
      unfold Format.nearest
      rw [if_pos rfl]
      rfl
    rw [this]
    exact ⟨0, by decide, by decide⟩
  · have hl : M.log2 ≤ 55 := by
      have : M.log2 < 56 := (Nat.log2_lt h0).2 (by simpa using hM)
      omega
    have hhi : M < 2 ^ (M.log2 + 1) := Nat.lt_log2_self
    obtain ⟨q, hq⟩ : ∃ q : Nat, p + (M.log2 : Int) - 52 = (q : Int) - 1074 := ⟨(p + (M.log2 : Int) - 52 + 1074).toNat, by omega⟩
    obtain ⟨k, hk, hw⟩ : ∃ k, k ≤ 9007199254740992 ∧ double.write (.number false M p) = q * 4503599627370496 + k := by
      refine ⟨Toward.even.cut false (M <<< (p - ((q : Int) - 1074)).toNat) (((q : Int) - 1074) - p).toNat, ?_, ?_⟩
      · by_cases hc : M.log2 ≤ 52
        · have a2 : (((q : Int) - 1074) - p).toNat = 0 := by omega
          have a1 : (p - ((q : Int) - 1074)).toNat = 52 - M.log2 := by omega
          rw [a1, a2, cut_none, Nat.shiftLeft_eq]
          refine Nat.le_of_lt ?_
          calc M * 2 ^ (52 - M.log2) < 2 ^ (M.log2 + 1) * 2 ^ (52 - M.log2) := Nat.mul_lt_mul_of_pos_right hhi (Nat.two_pow_pos _)
            _ = 2 ^ 53 := by rw [← Nat.pow_add]; congr 1; omega
            _ = 9007199254740992 := by decide
        · have a1 : (p - ((q : Int) - 1074)).toNat = 0 := by omega
          have a2 : (((q : Int) - 1074) - p).toNat = M.log2 - 52 := by omega
          rw [a1, a2]
          refine Nat.le_trans (cut_even_le _ _ _) ?_
          rw [Nat.shiftLeft_zero, Nat.min_eq_left (by omega), Nat.one_shiftLeft]
          have : M / 2 ^ (M.log2 - 52) < 9007199254740992 := by
            rw [Nat.div_lt_iff_lt_mul (Nat.two_pow_pos _)]
            calc M < 2 ^ (M.log2 + 1) := hhi
              _ = 2 ^ 53 * 2 ^ (M.log2 - 52) := by rw [← Nat.pow_add]; congr 1; omega
          omega
      · show double.nearest false M p = _
        unfold Format.nearest
        rw [if_neg h0, e1, e2, e4, e5]
        dsimp only
        have hlast : max (p + (M.log2 : Int) - ((52 : Nat) : Int)) (-1074) = (q : Int) - 1074 := by omega
        rw [hlast]
        have a3 : ((q : Int) - 1074 - -1074).toNat = q := by omega
        rw [a3]
        have hk : Toward.even.cut false (M <<< (p - ((q : Int) - 1074)).toNat) (((q : Int) - 1074) - p).toNat ≤ 9007199254740992 := by
          by_cases hc : M.log2 ≤ 52
          · have a2 : (((q : Int) - 1074) - p).toNat = 0 := by omega
            have a1 : (p - ((q : Int) - 1074)).toNat = 52 - M.log2 := by omega
            rw [a1, a2, cut_none, Nat.shiftLeft_eq]
            refine Nat.le_of_lt ?_
            calc M * 2 ^ (52 - M.log2) < 2 ^ (M.log2 + 1) * 2 ^ (52 - M.log2) := Nat.mul_lt_mul_of_pos_right hhi (Nat.two_pow_pos _)
              _ = 2 ^ 53 := by rw [← Nat.pow_add]; congr 1; omega
              _ = 9007199254740992 := by decide
          · have a1 : (p - ((q : Int) - 1074)).toNat = 0 := by omega
            have a2 : (((q : Int) - 1074) - p).toNat = M.log2 - 52 := by omega
            rw [a1, a2]
            refine Nat.le_trans (cut_even_le _ _ _) ?_
            rw [Nat.shiftLeft_zero, Nat.min_eq_left (by omega), Nat.one_shiftLeft]
            have : M / 2 ^ (M.log2 - 52) < 9007199254740992 := by
              rw [Nat.div_lt_iff_lt_mul (Nat.two_pow_pos _)]
              calc M < 2 ^ (M.log2 + 1) := hhi
                _ = 2 ^ 53 * 2 ^ (M.log2 - 52) := by rw [← Nat.pow_add]; congr 1; omega
            omega
        rw [Nat.min_eq_left (by omega)]
        rfl
    rw [hw]
    by_cases hr : q * 4503599627370496 + k < 4503599627370496
    · rw [read_sub hr]
      refine ⟨Toward.zero.cut false ((q * 4503599627370496 + k) <<< (-1074 : Int).toNat) (-(-1074 : Int)).toNat, rfl, ?_⟩
      have := cut_le false ((q * 4503599627370496 + k) <<< (-1074 : Int).toNat) (-(-1074 : Int)).toNat
      have e : (q * 4503599627370496 + k) <<< (-1074 : Int).toNat = q * 4503599627370496 + k := rfl
      rw [e] at this ⊢
      omega
    · rw [read_norm (by omega) (by omega)]
      obtain ⟨P, hP⟩ : ∃ P : Int, -1074 + (((q * 4503599627370496 + k) / 4503599627370496 - 1 : Nat) : Int) = P := ⟨_, rfl⟩
      rw [hP]
      have hP0 : P ≤ 0 := by omega
      obtain ⟨m, hm⟩ : ∃ m, 4503599627370496 + (q * 4503599627370496 + k) % 4503599627370496 = m := ⟨_, rfl⟩
      rw [hm]
      refine ⟨Toward.zero.cut false (m <<< P.toNat) (-P).toNat, rfl, ?_⟩
      have := cut_le false (m <<< P.toNat) (-P).toNat
      rw [Int.toNat_of_nonpos hP0, Nat.shiftLeft_zero] at this
      rw [Int.toNat_of_nonpos hP0, Nat.shiftLeft_zero]
      omega
/-- The square root of a small whole number is one that can be cut to a whole number. -/
theorem sqrt_whole {n : Nat} (h0 : 0 < n) (h : n < 9007199254740992) : ∃ r, double.sqrt (double.nearest false n 0) = some r ∧ ∃ v : Nat, (double.read r).toInt .zero = some (v : Int) ∧ v < 9007199254740992 := by
  obtain ⟨k, hk, k1, k2, hl⟩ := near_whole h0 h
  rw [hk]
  unfold Format.sqrt
  rw [read_norm (by omega) (by omega)]
  obtain ⟨i, hi⟩ : ∃ i : Int, -1074 + ((((n.log2 + 1022) * 4503599627370496 + k) / 4503599627370496 - 1 : Nat) : Int) = i := ⟨_, rfl⟩
  obtain ⟨m, hm⟩ : ∃ m, 4503599627370496 + ((n.log2 + 1022) * 4503599627370496 + k) % 4503599627370496 = m := ⟨_, rfl⟩
  rw [hi, hm]
  have hi0 : -1074 ≤ i ∧ i ≤ 0 := by omega
  have hm0 : 4503599627370496 ≤ m ∧ m < 9007199254740992 := by omega
  have hlm : m.log2 = 52 := by
    have a : m.log2 < 53 := (Nat.log2_lt (by omega)).2 (by omega)
    have b : ¬ m.log2 < 52 := fun h => by have := (Nat.log2_lt (k := 52) (by omega)).1 h; omega
    omega
  unfold Datum.root
  dsimp only
  rw [if_neg (by omega), if_neg (by decide)]
  rw [dbl_facts.2.2.2.2, hlm]
  obtain ⟨more, hmore, m1, m2⟩ : ∃ more : Nat, 2 * (52 + 2) - 52 + ((i - ((2 * (52 + 2) - 52 : Nat) : Int)) % 2).toNat = more ∧ 56 ≤ more ∧ more ≤ 57 := ⟨_, rfl, by omega, by omega⟩
  rw [hmore]
  obtain ⟨N, hN⟩ : ∃ N, m <<< more = N := ⟨_, rfl⟩
  rw [hN]
  have hNb : N < 1298074214633706907132624082305024 := by
    rw [← hN, Nat.shiftLeft_eq]
    calc m * 2 ^ more ≤ m * 2 ^ 57 := Nat.mul_le_mul_left _ (pow_le2 m2)
      _ < 9007199254740992 * 2 ^ 57 := Nat.mul_lt_mul_of_pos_right hm0.2 (by decide)
      _ = 1298074214633706907132624082305024 := by decide
  have hsq := rootFrom_sq N (N.log2 / 2 + 1) 0 (by omega)
  generalize Datum.rootFrom N (N.log2 / 2 + 1) 0 = wh at *
  have hwh : wh < 36028797018963968 := by
    rcases Nat.lt_or_ge wh 36028797018963968 with h | h
    · exact h
    · have := Nat.mul_le_mul h h; omega
  refine ⟨_, rfl, ?_⟩
  exact write_small (by have := Bool.toNat_le (wh * wh != N); omega) (by omega) (by omega)
end Hach

namespace Go.Proofs.YtompfgofaplffaaGreatDoor
open Go.RowKit Hach

theorem msqrt_any (x r : Nat) (h : Ieee.double.sqrt x = some r) (w : World) : Calls Tryz.prog 138 #[.float .f64 x] w fun e w' => e = .returned (.float .f64 r) ∧ w' = w := by
  have hsq : ∀ w, (callFunc 182 #[.float .f64 x]).run Tryz.prog w = .ok (.value (.float .f64 r)) w := fun w => by
    rw [run_callFunc_extern Tryz.func182 (by kernel_rfl) (by kernel_rfl) (by kernel_rfl) (e := Extern.MathSqrt.sqrt) (by kernel_rfl)]
    have e : Extern.MathSqrt.sqrt #[.float .f64 x] = (match Ieee.double.sqrt x with
      | some r => pure (Value.float .f64 r)
      | none => do pure (.float .f64 (← choose (.nanBits .f64 x x)))) := rfl
    rw [e, h]
    rfl
  go_enter Tryz.func138, Tryz.ntmps138
  go_wp2_with (simp only [hsq])
  go_ret
  exact ⟨rfl, rfl⟩
theorem sq_bd {k : Nat} (h : k ≤ 3037000499) : wrap64 ((k : Int) * k) = (k : Int) * k := by
  have h1 : k * k ≤ 3037000499 * 3037000499 := Nat.mul_le_mul h h
  have h2 : ((k * k : Nat) : Int) = (k : Int) * k := by simp
  unfold wrap64
  omega
theorem sq_bd' {k : Nat} (h : k < 3037000499) : wrap64 (((k : Int) + 1) * ((k : Int) + 1)) = ((k : Int) + 1) * ((k : Int) + 1) := by
  have := sq_bd (k := k + 1) (by omega)
  simpa using this
theorem sqI_is {n k : Nat} (h1 : k * k ≤ n) (h2 : n < (k + 1) * (k + 1)) : sqI (n : Int) = k := by
  unfold sqI
  rw [Int.toNat_natCast, rt_eq h1 h2]
structure SqF (m v s0 r : Nat) : Prop where
  small : m < 9007199254740992
  le : s0 ≤ 3037000499
  mn : min (v : Int) 3037000499 = (s0 : Int)
  cv : ∀ w, (convert 186 3 (.float .f64 r)).run Tryz.prog w = .ok (.int .i64 v) w
def SqR (v : Value) : Prop := ∃ k : Nat, v = .int .i64 k ∧ k ≤ 3037000499
def SqR2 (m : Nat) (v : Value) : Prop := ∃ x : Int, v = .int .i64 x ∧ ∃ k : Nat, x = k ∧ k ≤ 3037000499 ∧ k * k ≤ m
set_option maxRecDepth 100000 in
set_option maxHeartbeats 1000000 in
theorem sqrt_any (n : Int) (hn : n < 9007199254740992) (w : World) : Calls Tryz.prog 73 #[.int .i64 n] w fun e w' => e = .returned (.int .i64 (sqI n)) ∧ w' = w := by
  by_cases h0 : n ≤ 0
  · have t0 : decide (n ≤ 0) = true := by simpa using h0
    have HR := Lib.hid (sqI_neg h0)
    go_enter Tryz.func73, Tryz.ntmps73
    go_wp2_with fail
    go_ret
    exact ⟨ret_i HR.out.symm, rfl⟩
  · have t0 : decide (n ≤ 0) = false := by simpa using h0
    obtain ⟨m, rfl⟩ : ∃ m : Nat, n = m := ⟨n.toNat, by omega⟩
    obtain ⟨r, hr, v, hv, hv2⟩ := sqrt_whole (n := m) (by omega) (by omega)
    have hx : floatOfInt .f64 (m : Int) = Ieee.double.nearest false m 0 := by
      show Ieee.double.nearest (decide ((m : Int) < 0)) (m : Int).natAbs 0 = _
      rw [decide_eq_false (by omega), Int.natAbs_natCast]
    have HM := Lib.hid (msqrt_any _ r hr)
    have hcv : ∀ w, (convert 186 3 (.float .f64 r)).run Tryz.prog w = .ok (.int .i64 v) w := fun w => run_convert_float_int w _ _ .f64 .i64 r v (by rw [Tryz.underlying186]; rfl) Tryz.underlying3 (by
      unfold floatToIntVal
      show (match (Ieee.double.read r).toInt .zero with
        | some n => if IntKind.i64.min ≤ n ∧ n ≤ IntKind.i64.max then some n else none
        | none => none) = _
      rw [hv]
      show (if IntKind.i64.min ≤ (v : Int) ∧ (v : Int) ≤ IntKind.i64.max then some (v : Int) else none) = _
      rw [if_pos]
      have e1 : IntKind.i64.min = -9223372036854775808 := by decide
      have e2 : IntKind.i64.max = 9223372036854775807 := by decide
      rw [e1, e2]; omega)
    rw [← hx] at HM
    obtain ⟨s0, hs0, hs1⟩ : ∃ s0 : Nat, min (v : Int) 3037000499 = (s0 : Int) ∧ s0 ≤ 3037000499 := ⟨min v 3037000499, by omega, by omega⟩
    clear hr hv hx
    have HB : SqF m v s0 r := ⟨by omega, hs1, hs0, hcv⟩
    have hm0 : 0 < m := by omega
    clear hn h0 hs1 hv2 hs0 hcv
    go_enter Tryz.func73, Tryz.ntmps73
    go_wp2_with fail
    refine (HM.out _).mono ?_
    rintro e w1 ⟨rfl, hw1⟩
    have HW1 := Lib.hid hw1
    clear hw1
    go_wp2_with (simp only [HB.cv])
    clear HM
    all_goals
      go_loopw [3] (fun sv wr => SqR sv ∧ Hid (wr = w1)) (fun sv _ => (intOf sv).toNat)
      case atStart => first | exact ⟨⟨s0, by rw [HB.mn], HB.le⟩, Lib.hid rfl⟩ | exact ⟨⟨3037000499, rfl, Nat.le_refl _⟩, Lib.hid rfl⟩ | exact ⟨⟨v, rfl, by omega⟩, Lib.hid rfl⟩
      case round =>
        obtain ⟨⟨k, rfl, hk⟩, HWr⟩ := hrel
        have hw := sq_bd hk
        have HK := Lib.hid hk
        clear hk
        by_cases hlt : m < k * k
        · have t1 : decide ((m : Int) < (k : Int) * k) = true := by rw [decide_eq_true_eq, ← Int.natCast_mul]; omega
          have hk1 : 1 ≤ k := by
            rcases Nat.eq_zero_or_pos k with h | h
            · rw [h] at hlt; omega
            · exact h
          have e1 : IntKind.i64.wrap ((k : Int) - 1) = ((k - 1 : Nat) : Int) := by have := HK.out; rw [IntWalk.i64_in _ (by omega)]; omega
          have HL := Lib.hid hlt
          clear hlt
          go_wp2_with fail
          go_roundw
          case rel => exact ⟨⟨k - 1, by first | rfl | (rw [e1]) | go_num, by have := HK.out; omega⟩, HWr⟩
          case measure => simp [intOf]; omega
        · have t1 : decide ((m : Int) < (k : Int) * k) = false := by rw [decide_eq_false_iff_not, ← Int.natCast_mul]; omega
          have HL := Lib.hid hlt
          have HK2 : Hid (k ≤ 3037000499) := HK
          clear hlt
          go_wp2_with fail
          clear hw t1
          go_loopw [3] (fun sv wr => SqR2 m sv ∧ Hid (wr = w1)) (fun sv _ => m - (intOf sv).toNat)
          case atStart => exact ⟨⟨(k : Int), rfl, k, rfl, HK2.out, by have := HL.out; omega⟩, HWr⟩
          case round =>
            obtain ⟨⟨x, rfl, q, hxq, hq, hqs⟩, HWq⟩ := hrel
            by_cases h1 : q < 3037000499
            · have t2 : decide (x < 3037000499) = true := by rw [decide_eq_true_eq]; omega
              have hw : wrap64 ((x + 1) * (x + 1)) = (x + 1) * (x + 1) := by rw [hxq]; exact sq_bd' h1
              have e1 : IntKind.i64.wrap (x + 1) = x + 1 := IntWalk.i64_in _ (by omega)
              have e3 : (x + 1) * (x + 1) = (((q + 1) * (q + 1) : Nat) : Int) := by rw [hxq]; simp
              by_cases h2 : (q + 1) * (q + 1) ≤ m
              · have t3 : decide ((x + 1) * (x + 1) ≤ (m : Int)) = true := by
                  rw [decide_eq_true_eq, e3]; omega
                have H1 := Lib.hid h1
                have H2 := Lib.hid h2
                have HX := Lib.hid hxq
                have HQ := Lib.hid hq
                clear h1 h2 hxq hq hqs e3
                go_wp2_with fail
                go_roundw
                case rel => exact ⟨⟨x + 1, by first | rfl | (rw [e1]), q + 1, by rw [HX.out]; rfl, by have := H1.out; omega, H2.out⟩, HWq⟩
                case measure =>
                  have h3 := H2.out
                  have h4 : q + 1 ≤ (q + 1) * (q + 1) := Nat.le_mul_of_pos_left _ (by omega)
                  have h5 := HX.out
                  simp [intOf]; omega
              · have t3 : decide ((x + 1) * (x + 1) ≤ (m : Int)) = false := by
                  rw [decide_eq_false_iff_not, e3]; omega
                have HR := Lib.hid ((sqI_is hqs (by omega)).trans hxq.symm)
                clear h1 h2 hxq hq hqs e3
                go_wp2_with fail
                go_ret
                exact ⟨ret_i HR.out.symm, HWq.out.trans HW1.out⟩
            · have t2 : decide (x < 3037000499) = false := by rw [decide_eq_false_iff_not]; omega
              have HR := Lib.hid ((sqI_is hqs (by
                have e : q = 3037000499 := by omega
                have := HB.small
                rw [e]; omega)).trans hxq.symm)
              clear h1 hxq hq hqs
              go_wp2_with fail
              go_ret
              exact ⟨ret_i HR.out.symm, HWq.out.trans HW1.out⟩
end Go.Proofs.YtompfgofaplffaaGreatDoor

namespace Go.Proofs.YtompfgofaplffaaGreatDoor
open Go.RowKit Hach Go.Sort

/-- New blocks and draws, and nothing else. -/
def Gr (w w' : World) : Prop := ∃ q os, w' = grow (w.drewN q) os
theorem Gr.refl (w : World) : Gr w w := ⟨0, #[], by simp [grow, World.drewN]⟩
theorem Gr.trans {u v w : World} (h : Gr u v) (k : Gr v w) : Gr u w := by
  obtain ⟨q, os, rfl⟩ := h
  obtain ⟨q', os', rfl⟩ := k
  exact ⟨q + q', os ++ os', by simp [grow, World.drewN, Nat.add_assoc, Array.append_assoc]⟩
theorem Gr.alloc (w : World) (o : Obj) : Gr w (w.alloc o) := ⟨0, #[o], by rw [alloc_eq_grow]; rfl⟩
theorem Gr.drew (w : World) : Gr w w.drew := ⟨1, #[], by rw [grow_empty]; rfl⟩
theorem Gr.ext {w w' : World} (h : Gr w w') : Ext w w' := by
  obtain ⟨q, os, rfl⟩ := h
  exact Lib.below_grow _ w (Nat.le_refl _) q os
def slG (s1 s2 : Int) : SPr Gr := ⟨fun v W => ∃ g, v = .slice (some ⟨g, 0, none⟩) 2 2 ∧ W.cell? ⟨g, 0, none⟩ = some (.int .i64 s1) ∧ W.cell? ⟨g, 1, none⟩ = some (.int .i64 s2), fun h hE => by
  obtain ⟨g, e, h0, h1⟩ := h
  exact ⟨g, e, cell_ext hE.ext h0, cell_ext hE.ext h1⟩⟩
set_option maxHeartbeats 2000000 in
theorem pcompareG (a b : Pt) (w : World) : Calls Tryz.prog 231 #[.agg #[.int .i64 a.x, .int .i64 a.y], .agg #[.int .i64 b.x, .int .i64 b.y]] w fun e w' => e = .returned (.int .i64 (cmp2 a b)) ∧ Gr w w' := by
  have HA := Lib.hid (cmpi_any a.x b.x)
  have HB := Lib.hid (cmpi_any a.y b.y)
  have HO := Lib.hid (or2s (cmpI a.x b.x) (cmpI a.y b.y))
  obtain ⟨w3, hw, hE0, hQ⟩ := two_pts w a b
  have hG : Gr w w3 := by rw [← hw]; exact Gr.trans (Gr.alloc _ _) (Gr.alloc _ _)
  have HW := Lib.hid hw
  have HQ := Lib.hid (fun W (h : Gr w3.drew W) => hQ W (Ext.trans (Ext.drew w3) h.ext))
  have HG := Lib.hid (Gr.trans hG (Gr.drew w3))
  have hR : cmp2 a b = orI (cmpI a.x b.x) (cmpI a.y b.y) := rfl
  rw [hR]
  clear hw hQ hE0 hR hG
  generalize orI (cmpI a.x b.x) (cmpI a.y b.y) = R at *
  generalize cmpI a.x b.x = s1 at *
  generalize cmpI a.y b.y = s2 at *
  go_enter Tryz.func231, Tryz.ntmps231
  go_wp2_with fail
  rw [HW.out]
  generalize w.heap.size = k at *
  apply wp_region_rel (E := Gr) Gr.refl @Gr.trans (l := [_, _, _, _, _, _, _, _, _, _, _, _]) (t := [_]) [some 5, some 6, some 7, some 8, some 9, some 10, some 11, some 12, some 13, some 14, some 15, some 16, some 4] [[], [0], [], [2], [1, 3], [], [5], [], [7], [6, 8], [4, 9], [10], [11]] [12, 12, 12, 12, 12, 12, 12, 12, 12, 12, 12, 12] [eqr _, eqr _, eqr _, eqr _, (eqr (.int .i64 s1)), eqr _, eqr _, eqr _, eqr _, (eqr (.int .i64 s2)), (slG s1 s2), (eqr (.int .i64 R))] (by kernel_rfl) (by kernel_rfl) ⟨?o0, ?o1, ?o2, ?o3, ?o4, ?o5, ?o6, ?o7, ?o8, ?o9, ?o10, ?o11, trivial⟩ ?last
  case o0 => -- Op.fieldAddr 73 (Operand.tmp 2) 0
    intro xv W hE _
    simp only [putD, List.foldl_nil, List.getD_cons_zero]
    refine OpGoal.plain ?_
    go_wp2_with fail
    exact ⟨rfl, Gr.refl _, rfl⟩
  case o1 => -- Op.load 3 (Operand.tmp 5)
    intro xv W hE hp
    have r0 : xv 0 = _ := hp.1
    clear hp
    obtain ⟨c0, c1, c2, c3⟩ := HQ.out W hE
    simp only [putD, List.foldl_nil, List.foldl_cons, List.getD_cons_zero, List.getD_cons_succ, Act.put, List.setIfInBounds_toArray, List.set_cons_zero, List.set_cons_succ]
    refine OpGoal.plain ?_
    go_wp2_with fail
    exact ⟨rfl, Gr.refl _, rfl⟩
  case o2 => -- Op.fieldAddr 73 (Operand.tmp 3) 0
    intro xv W hE _
    simp only [putD, List.foldl_nil, List.getD_cons_zero, List.getD_cons_succ]
    refine OpGoal.plain ?_
    go_wp2_with fail
    exact ⟨rfl, Gr.refl _, rfl⟩
  case o3 => -- Op.load 3 (Operand.tmp 7)
    intro xv W hE hp
    have r2 : xv 2 = _ := hp.1
    clear hp
    obtain ⟨c0, c1, c2, c3⟩ := HQ.out W hE
    simp only [putD, List.foldl_nil, List.foldl_cons, List.getD_cons_zero, List.getD_cons_succ, Act.put, List.setIfInBounds_toArray, List.set_cons_zero, List.set_cons_succ]
    refine OpGoal.plain ?_
    go_wp2_with fail
    exact ⟨rfl, Gr.refl _, rfl⟩
  case o4 => -- Op.call { callee := Callee.value (Operand.func 65), args := #[Operand.tmp 6, Ope
    intro xv W hE hp
    have r1 : xv 1 = _ := hp.1
    have r3 : xv 3 = _ := hp.2.1
    clear hp
    simp only [putD, List.foldl_nil, List.foldl_cons, List.getD_cons_zero, List.getD_cons_succ, Act.put, List.setIfInBounds_toArray, List.set_cons_zero, List.set_cons_succ]
    refine OpGoal.plain ?_
    go_wp2_with fail
    refine (HA.out W).mono ?_
    rintro e w' ⟨rfl, rfl⟩
    go_wp2_with fail
    exact ⟨rfl, Gr.refl _, rfl⟩
  case o5 => -- Op.fieldAddr 73 (Operand.tmp 2) 1
    intro xv W hE _
    simp only [putD, List.foldl_nil, List.getD_cons_zero, List.getD_cons_succ]
    refine OpGoal.plain ?_
    go_wp2_with fail
    exact ⟨rfl, Gr.refl _, rfl⟩
  case o6 => -- Op.load 3 (Operand.tmp 10)
    intro xv W hE hp
    have r5 : xv 5 = _ := hp.1
    clear hp
    obtain ⟨c0, c1, c2, c3⟩ := HQ.out W hE
    simp only [putD, List.foldl_nil, List.foldl_cons, List.getD_cons_zero, List.getD_cons_succ, Act.put, List.setIfInBounds_toArray, List.set_cons_zero, List.set_cons_succ]
    refine OpGoal.plain ?_
    go_wp2_with fail
    exact ⟨rfl, Gr.refl _, rfl⟩
  case o7 => -- Op.fieldAddr 73 (Operand.tmp 3) 1
    intro xv W hE _
    simp only [putD, List.foldl_nil, List.getD_cons_zero, List.getD_cons_succ]
    refine OpGoal.plain ?_
    go_wp2_with fail
    exact ⟨rfl, Gr.refl _, rfl⟩
  case o8 => -- Op.load 3 (Operand.tmp 12)
    intro xv W hE hp
    have r7 : xv 7 = _ := hp.1
    clear hp
    obtain ⟨c0, c1, c2, c3⟩ := HQ.out W hE
    simp only [putD, List.foldl_nil, List.foldl_cons, List.getD_cons_zero, List.getD_cons_succ, Act.put, List.setIfInBounds_toArray, List.set_cons_zero, List.set_cons_succ]
    refine OpGoal.plain ?_
    go_wp2_with fail
    exact ⟨rfl, Gr.refl _, rfl⟩
  case o9 => -- Op.call { callee := Callee.value (Operand.func 65), args := #[Operand.tmp 11, Op
    intro xv W hE hp
    have r6 : xv 6 = _ := hp.1
    have r8 : xv 8 = _ := hp.2.1
    clear hp
    simp only [putD, List.foldl_nil, List.foldl_cons, List.getD_cons_zero, List.getD_cons_succ, Act.put, List.setIfInBounds_toArray, List.set_cons_zero, List.set_cons_succ]
    refine OpGoal.plain ?_
    go_wp2_with fail
    refine (HB.out W).mono ?_
    rintro e w' ⟨rfl, rfl⟩
    go_wp2_with fail
    exact ⟨rfl, Gr.refl _, rfl⟩
  case o10 => -- Op.buildSlice 130 2 #[(0, Operand.tmp 9), (1, Operand.tmp 14)]
    intro xv W hE hp
    have r4 : xv 4 = _ := hp.1
    have r9 : xv 9 = _ := hp.2.1
    clear hp
    simp only [putD, List.foldl_nil, List.foldl_cons, List.getD_cons_zero, List.getD_cons_succ, Act.put, List.setIfInBounds_toArray, List.set_cons_zero, List.set_cons_succ]
    refine OpGoal.plain ?_
    go_wp2_with fail
    exact ⟨rfl, Gr.alloc _ _, W.heap.size, rfl, cells_of (Go.heap_alloc_new _ _) 0 _ rfl, cells_of (Go.heap_alloc_new _ _) 1 _ rfl⟩
  case o11 => -- Op.call { callee := Callee.value (Operand.func 64), args := #[Operand.tmp 15], a
    intro xv W hE hp
    obtain ⟨g10, r10, z0, z1⟩ := hp.1
    clear hp
    simp only [putD, List.foldl_nil, List.foldl_cons, List.getD_cons_zero, List.getD_cons_succ, Act.put, List.setIfInBounds_toArray, List.set_cons_zero, List.set_cons_succ]
    refine OpGoal.plain ?_
    go_wp2_with fail
    refine (HO.out W g10 z0 z1).mono ?_
    rintro e w' ⟨rfl, rfl⟩
    go_wp2_with fail
    exact ⟨rfl, Gr.refl _, rfl⟩
  case last =>
    intro xv W hE hp
    have r0 : xv 0 = _ := hp.1
    have r1 : xv 1 = _ := hp.2.1
    have r2 : xv 2 = _ := hp.2.2.1
    have r3 : xv 3 = _ := hp.2.2.2.1
    have r4 : xv 4 = _ := hp.2.2.2.2.1
    have r5 : xv 5 = _ := hp.2.2.2.2.2.1
    have r6 : xv 6 = _ := hp.2.2.2.2.2.2.1
    have r7 : xv 7 = _ := hp.2.2.2.2.2.2.2.1
    have r8 : xv 8 = _ := hp.2.2.2.2.2.2.2.2.1
    have r9 : xv 9 = _ := hp.2.2.2.2.2.2.2.2.2.1
    obtain ⟨g10, r10, z0, z1⟩ := hp.2.2.2.2.2.2.2.2.2.2.1
    have r11 : xv 11 = _ := hp.2.2.2.2.2.2.2.2.2.2.2.1
    clear hp
    simp only [putD, List.foldl_nil, List.foldl_cons, List.getD_cons_zero, List.getD_cons_succ, Act.put, List.length_cons, List.length_nil, List.range_succ, List.range_zero, List.nil_append, List.cons_append, List.setIfInBounds_toArray, List.set_cons_zero, List.set_cons_succ]
    go_wp2_with fail
    go_ret
    exact ⟨rfl, Gr.trans HG.out hE⟩
theorem ptC_one : ∀ (p : Pt), ∀ v ∈ [Value.int .i64 p.x, .int .i64 p.y], v.oneCell' = true := fun p v hv => by
  simp only [List.mem_cons, List.not_mem_nil, or_false] at hv
  rcases hv with rfl | rfl <;> rfl
def encP (p : Pt) : List Value := [.int .i64 p.x, .int .i64 p.y]
instance : Inhabited Pt := ⟨⟨0, 0⟩⟩
theorem cmp2_lt (a b : Pt) : decide (cmp2 a b < 0) = lt2 a b := by
  unfold cmp2 orI cmpI lt2
  by_cases h1 : a.x < b.x
  · simp [h1]
  · by_cases h2 : b.x < a.x
    · simp [h1, h2]; omega
    · have e : a.x = b.x := by omega
      by_cases h3 : a.y < b.y
      · simp [e, h3]
      · by_cases h4 : b.y < a.y
        · simp [e, h3, h4]
        · simp [e, h3, h4]
theorem sort_two (a b : Pt) : insertionSort (ltOf cmp2) #[a, b] 0 2 = #[lo2 a b, hi2 a b] := by
  have e : ltOf cmp2 b a = lt2 b a := cmp2_lt b a
  unfold lo2 hi2 insertionSort
  rw [insOuter, if_pos (by decide), insOuter, if_neg (by decide)]
  show insInner (ltOf cmp2) 0 1 #[a, b] = _
  unfold insInner
  show (if (0 + 1 > 0 && ltOf cmp2 b a) = true then insInner (ltOf cmp2) 0 0 (swp #[a, b] (0 + 1) 0) else #[a, b]) = _
  rw [e]
  cases lt2 b a
  · rfl
  · rfl
theorem heap_mapBlock_other (w : World) (g k : Nat) (f : Array Value → Array Value) (h : k ≠ g) : (mapBlock w g f).heap[k]? = w.heap[k]? := by
  unfold mapBlock
  simp only [Array.getElem?_modify]
  rw [if_neg (fun e => h e.symm)]
theorem grownBy_sortWorldK {α : Type} [Inhabited α] (enc : α → List Value) (k : Nat) (w : World) (g off m : Nat) (dk : Array α) (os : Array Obj) : w.grownBy (sortWorldK enc k w g off m dk os) (some g) := by
  refine ⟨rfl, rfl, rfl, size_sortWorldK_c enc k w g off m dk os, fun j hj hne => ?_⟩
  unfold sortWorldK putRowK putRow grow
  show (_ ++ os)[j]? = _
  rw [Array.getElem?_append_left (by simpa [mapBlock, Sort.ahead] using hj)]
  exact heap_mapBlock_other (Sort.ahead w m) g j _ (by simpa using hne)
theorem isAggPt : ∀ w, (isAgg 73).run Tryz.prog w = .ok true w := Tryz.isAgg73
theorem sizeOfPt : ∀ w, (Go.sizeOf 73).run Tryz.prog w = .ok 2 w := Tryz.sizeOf73
/-- Two points of a new row are put in order. -/
theorem sort2_any (a b : Pt) (g : Nat) (w : World) (hg : w.heap[g]? = some (.cells #[.int .i64 a.x, .int .i64 a.y, .int .i64 b.x, .int .i64 b.y] 73 (0, 0))) :
    Calls Tryz.prog 230 #[.slice (some ⟨g, 0, none⟩) 2 2, .func (.func 231) #[] #[]] w
      fun e w' => e = .returned (.tuple #[]) ∧ w.grownBy w' (some g) ∧ w'.cell? ⟨g, 0, none⟩ = some (.int .i64 (lo2 a b).x) ∧ w'.cell? ⟨g, 1, none⟩ = some (.int .i64 (lo2 a b).y) ∧ w'.cell? ⟨g, 2, none⟩ = some (.int .i64 (hi2 a b).x) ∧ w'.cell? ⟨g, 3, none⟩ = some (.int .i64 (hi2 a b).y) := by
  have hlt : g < w.heap.size := (Array.getElem?_eq_some_iff.1 hg).1
  have hH : HoldsK encP 2 w g 0 #[a, b] := by
    intro j hj
    have hj : j < 4 := by simpa using hj
    refine ⟨?_, by simp [World.frozen?, hg]⟩
    have hj2 : j = 0 ∨ j = 1 ∨ j = 2 ∨ j = 3 := by omega
    rcases hj2 with rfl | rfl | rfl | rfl <;> simp [World.cell?, hg, flatK, encP] <;> rfl
  have hc := AnyQ.slices_SortFunc_small Tryz.laysSortPt 2 isAggPt sizeOfPt encP (fun _ => rfl) (fun x v hv => ptC_one x v hv) cmp2 231 #[] g 0 2 #[a, b] w (enters_of Tryz.func231 (by kernel_rfl) rfl)
    (fun m os dk _ x y => pcompareG x y _) hH hlt (show 2 ≤ 12 by decide) (fun n W hn => (Tryz.bits_Len n W (by omega) (by omega)).mono fun _ _ ⟨he, hw⟩ => ⟨⟨_, he⟩, hw⟩)
  refine (show Calls Tryz.prog 230 #[.slice (some ⟨g, 0, none⟩) 2 2, .func (.func 231) #[] #[]] w _ from hc).mono ?_
  rintro e w' ⟨rfl, n, os, hw⟩
  have hs : insertionSort (ltOf cmp2) #[a, b] 0 (#[a, b] : Array Pt).size = #[lo2 a b, hi2 a b] := sort_two a b
  rw [hs] at hw
  have hK := holdsK_sortWorldK_c encP 2 w g 0 #[a, b] #[lo2 a b, hi2 a b] n os hH hlt rfl
  rw [← hw] at hK
  refine ⟨rfl, by rw [hw]; exact grownBy_sortWorldK _ _ _ _ _ _ _ _, ?_, ?_, ?_, ?_⟩
  · have h := (hK 0 (by rw [size_flatK]; show 0 < 4; decide)).1; rw [id, get_flatK _ _ _ _ (by show 0 < 4; decide)] at h; exact h
  · have h := (hK 1 (by rw [size_flatK]; show 1 < 4; decide)).1; rw [id, get_flatK _ _ _ _ (by show 1 < 4; decide)] at h; exact h
  · have h := (hK 2 (by rw [size_flatK]; show 2 < 4; decide)).1; rw [id, get_flatK _ _ _ _ (by show 2 < 4; decide)] at h; exact h
  · have h := (hK 3 (by rw [size_flatK]; show 3 < 4; decide)).1; rw [id, get_flatK _ _ _ _ (by show 3 < 4; decide)] at h; exact h
theorem max2_eq (a b : Pt) : (if decide (0 < cmp2 b a) = true then b else a) = hi2 a b := by
  have h1 := cmp2_lt b a
  have h2 : decide (0 < cmp2 b a) = lt2 a b := by
    unfold cmp2 orI cmpI lt2
    by_cases h1 : a.x < b.x
    · first | (simp [h1]; done) | (simp [h1]; omega)
    · by_cases h2 : b.x < a.x
      · first | (simp [h1, h2]; done) | (simp [h1, h2]; omega)
      · have e : a.x = b.x := by omega
        by_cases h3 : a.y < b.y
        · by_cases h4 : b.y < a.y
          · omega
          · simp [e, h3, h4]
        · by_cases h4 : b.y < a.y
          · simp [e, h3, h4]
          · simp [e, h3, h4]
  rw [h2]
  unfold hi2
  rcases lt2_tri a b with h | h | h
  · rw [h, lt2_asym h]; rfl
  · rw [h, lt2_irr]
  · rw [h, lt2_asym h]; rfl
theorem min2_eq (a b : Pt) : (if decide (cmp2 b a < 0) = true then b else a) = lo2 a b := by
  rw [cmp2_lt]; rfl
-- TWO
set_option maxHeartbeats 2000000 in
theorem min2_any (a b : Pt) (g : Nat) (w : World) (h0 : w.cell? ⟨g, 0, none⟩ = some (.int .i64 a.x)) (h1 : w.cell? ⟨g, 1, none⟩ = some (.int .i64 a.y)) (h2 : w.cell? ⟨g, 2, none⟩ = some (.int .i64 b.x)) (h3 : w.cell? ⟨g, 3, none⟩ = some (.int .i64 b.y)) :
    Calls Tryz.prog 233 #[.slice (some ⟨g, 0, none⟩) 2 2, .func (.func 231) #[] #[]] w fun e w' => e = .returned (.agg #[.int .i64 (lo2 a b).x, .int .i64 (lo2 a b).y]) ∧ Ext w w' := by
  have hlt : g < w.heap.size := by
    rcases Nat.lt_or_ge g w.heap.size with h | h
    · exact h
    · simp [World.cell?, Array.getElem?_eq_none h] at h0
  have eg : ∀ args w, (callFunc 231 args).run Tryz.prog w = .ok (.enter 231 args) w := enters_of Tryz.func231 (by kernel_rfl) rfl
  have hC := pcompare_any b a
  have hR := min2_eq a b
  obtain ⟨V, hV, hE0, hB⟩ := boxes w [.cells #[.int .i64 0, .int .i64 0] 73, .cells #[.int .i64 a.x, .int .i64 a.y] 73]
  have HV : Hid (((w.alloc (.cells #[.int .i64 0, .int .i64 0] 73)).alloc (.cells #[.int .i64 a.x, .int .i64 a.y] 73)) = V) := Lib.hid hV
  have HQ := Lib.hid (fun W (hE : Ext V.drew W) => And.intro (cell_ext (Ext.trans hE0 (Ext.trans (Ext.drew V) hE)) h0) (And.intro (cell_ext (Ext.trans hE0 (Ext.trans (Ext.drew V) hE)) h1) (And.intro (cell_ext (Ext.trans hE0 (Ext.trans (Ext.drew V) hE)) h2) (And.intro (cell_ext (Ext.trans hE0 (Ext.trans (Ext.drew V) hE)) h3)
    (And.intro (cells_of (hB W (Ext.trans (Ext.drew V) hE) 1 _ rfl) 0 _ rfl) (cells_of (hB W (Ext.trans (Ext.drew V) hE) 1 _ rfl) 1 _ rfl))))))
  have HB := Lib.hid hB
  have HE := Lib.hid hE0
  clear hV hE0 hB
  generalize hc0 : cmp2 b a = c at *
  have HC := Lib.hid hC
  clear hC hc0
  cases hs : decide (c < 0)
  · have hr : lo2 a b = a := by rw [← hR, hs]; rfl
    rw [hr]
    clear hR hr
    go_enter Tryz.func233, Tryz.ntmps233
    go_wp2_with fail
    refine wp_loop_rounds 2 ?_
    rw [rounds_succ]
    go_wp2_with fail
    rw [HV.out]
    clear h0 h1 h2 h3 hlt
    apply wp_region_seq (l := [_, _, _, _, _, _, _, _]) (t := []) [some 20, some 21, some 22, some 23, some 24, some 25, some 26, some 27] [[], [], [], [1, 2], [3], [], [0, 4, 5], [6]] [] [eqv _, eqv _, eqv _, eqv _, (eqv (.agg #[.int .i64 b.x, .int .i64 b.y])), (eqv (.agg #[.int .i64 a.x, .int .i64 a.y])), (eqv (.int .i64 c)), eqv _] (by kernel_rfl) (by kernel_rfl) ⟨?o0, ?o1, ?o2, ?o3, ?o4, ?o5, ?o6, ?o7, trivial⟩ ?last
    case o0 => -- Op.move (Operand.tmp 1)
      intro xv W hE _
      simp only [putD, List.foldl_nil, List.getD_cons_zero]
      refine OpGoal.plain ?_
      go_wp2_with fail
      exact ⟨rfl, Ext.refl _, rfl⟩
    case o1 => -- Op.move (Operand.tmp 0)
      intro xv W hE _
      simp only [putD, List.foldl_nil, List.getD_cons_zero, List.getD_cons_succ]
      refine OpGoal.plain ?_
      go_wp2_with fail
      exact ⟨rfl, Ext.refl _, rfl⟩
    case o2 => -- Op.move (Operand.tmp 6)
      intro xv W hE _
      simp only [putD, List.foldl_nil, List.getD_cons_zero, List.getD_cons_succ]
      refine OpGoal.plain ?_
      go_wp2_with fail
      exact ⟨rfl, Ext.refl _, rfl⟩
    case o3 => -- Op.indexAddr 75 (Operand.tmp 21) (Operand.tmp 22)
      intro xv W hE hp
      have r1 : xv 1 = _ := hp.1
      have r2 : xv 2 = _ := hp.2.1
      clear hp
      simp only [putD, List.foldl_nil, List.foldl_cons, List.getD_cons_zero, List.getD_cons_succ, Act.put, List.setIfInBounds_toArray, List.set_cons_zero, List.set_cons_succ]
      refine OpGoal.plain ?_
      go_wp2_with fail
      exact ⟨rfl, Ext.refl _, rfl⟩
    case o4 => -- Op.load 73 (Operand.tmp 23)
      intro xv W hE hp
      have r3 : xv 3 = _ := hp.1
      clear hp
      obtain ⟨c0, c1, c2, c3, c4, c5⟩ := HQ.out W hE
      simp only [putD, List.foldl_nil, List.foldl_cons, List.getD_cons_zero, List.getD_cons_succ, Act.put, List.setIfInBounds_toArray, List.set_cons_zero, List.set_cons_succ]
      refine OpGoal.plain ?_
      go_wp2_with fail
      exact ⟨rfl, Ext.refl _, rfl⟩
    case o5 => -- Op.load 73 (Operand.tmp 5)
      intro xv W hE _
      obtain ⟨c0, c1, c2, c3, c4, c5⟩ := HQ.out W hE
      simp only [putD, List.foldl_nil, List.getD_cons_zero, List.getD_cons_succ]
      refine OpGoal.plain ?_
      go_wp2_with fail
      exact ⟨rfl, Ext.refl _, rfl⟩
    case o6 => -- Op.call { callee := Callee.value (Operand.tmp 20), args := #[Operand.tmp 24, Ope
      intro xv W hE hp
      have r0 : xv 0 = _ := hp.1
      have r4 : xv 4 = _ := hp.2.1
      have r5 : xv 5 = _ := hp.2.2.1
      clear hp
      simp only [putD, List.foldl_nil, List.foldl_cons, List.getD_cons_zero, List.getD_cons_succ, Act.put, List.setIfInBounds_toArray, List.set_cons_zero, List.set_cons_succ]
      refine OpGoal.plain ?_
      go_wp2_with fail
      refine (HC.out W).mono ?_
      rintro e w' ⟨rfl, hE'⟩
      go_wp2_with fail
      exact ⟨rfl, hE', rfl⟩
    case o7 => -- Op.binOp BinOp.lss 3 (Operand.tmp 26) (Operand.const (Value.int IntKind.i64 0)) 
      intro xv W hE hp
      have r6 : xv 6 = _ := hp.1
      clear hp
      simp only [putD, List.foldl_nil, List.foldl_cons, List.getD_cons_zero, List.getD_cons_succ, Act.put, List.setIfInBounds_toArray, List.set_cons_zero, List.set_cons_succ]
      refine OpGoal.plain ?_
      go_wp2_with fail
      exact ⟨rfl, Ext.refl _, rfl⟩
    case last =>
      intro xv W hE hp
      have r0 : xv 0 = _ := hp.1
      have r1 : xv 1 = _ := hp.2.1
      have r2 : xv 2 = _ := hp.2.2.1
      have r3 : xv 3 = _ := hp.2.2.2.1
      have r4 : xv 4 = _ := hp.2.2.2.2.1
      have r5 : xv 5 = _ := hp.2.2.2.2.2.1
      have r6 : xv 6 = _ := hp.2.2.2.2.2.2.1
      have r7 : xv 7 = _ := hp.2.2.2.2.2.2.2.1
      clear hp
      simp only [putD, List.foldl_nil, List.foldl_cons, List.getD_cons_zero, List.getD_cons_succ, Act.put, List.length_cons, List.length_nil, List.range_succ, List.range_zero, List.nil_append, List.cons_append, List.setIfInBounds_toArray, List.set_cons_zero, List.set_cons_succ]
      have hX : Ext V W := Ext.trans (Ext.drew V) hE
      have B4 : W.heap[w.heap.size]? = _ := HB.out W hX 0 _ rfl
      have B5 : W.heap[w.heap.size + 1]? = _ := HB.out W hX 1 _ rfl
      have a0 := cells_of B5 0 (.int .i64 a.x) rfl
      have a1 := cells_of B5 1 (.int .i64 a.y) rfl
      have z0 := cells_of B4 0 (.int .i64 0) rfl
      have z1 := cells_of B4 1 (.int .i64 0) rfl
      have f4 := blk_free B4
      go_wp2_with fail
      rw [rounds_succ]
      go_wp2_with fail
      refine bodyPost_ret (v := _) (by simp only [results, Tryz.results233]; go_simp) rfl ⟨rfl, ?_⟩
      exact exs (exs (Ext.trans HE.out hX) (Nat.le_refl _)) (Nat.le_refl _)
  · have hr : lo2 a b = b := by rw [← hR, hs]; rfl
    rw [hr]
    clear hR hr
    go_enter Tryz.func233, Tryz.ntmps233
    go_wp2_with fail
    refine wp_loop_rounds 2 ?_
    rw [rounds_succ]
    go_wp2_with fail
    rw [HV.out]
    clear h0 h1 h2 h3 hlt
    apply wp_region_seq (l := [_, _, _, _, _, _, _, _]) (t := []) [some 20, some 21, some 22, some 23, some 24, some 25, some 26, some 27] [[], [], [], [1, 2], [3], [], [0, 4, 5], [6]] [] [eqv _, eqv _, eqv _, eqv _, (eqv (.agg #[.int .i64 b.x, .int .i64 b.y])), (eqv (.agg #[.int .i64 a.x, .int .i64 a.y])), (eqv (.int .i64 c)), eqv _] (by kernel_rfl) (by kernel_rfl) ⟨?o0, ?o1, ?o2, ?o3, ?o4, ?o5, ?o6, ?o7, trivial⟩ ?last
    case o0 => -- Op.move (Operand.tmp 1)
      intro xv W hE _
      simp only [putD, List.foldl_nil, List.getD_cons_zero]
      refine OpGoal.plain ?_
      go_wp2_with fail
      exact ⟨rfl, Ext.refl _, rfl⟩
    case o1 => -- Op.move (Operand.tmp 0)
      intro xv W hE _
      simp only [putD, List.foldl_nil, List.getD_cons_zero, List.getD_cons_succ]
      refine OpGoal.plain ?_
      go_wp2_with fail
      exact ⟨rfl, Ext.refl _, rfl⟩
    case o2 => -- Op.move (Operand.tmp 6)
      intro xv W hE _
      simp only [putD, List.foldl_nil, List.getD_cons_zero, List.getD_cons_succ]
      refine OpGoal.plain ?_
      go_wp2_with fail
      exact ⟨rfl, Ext.refl _, rfl⟩
    case o3 => -- Op.indexAddr 75 (Operand.tmp 21) (Operand.tmp 22)
      intro xv W hE hp
      have r1 : xv 1 = _ := hp.1
      have r2 : xv 2 = _ := hp.2.1
      clear hp
      simp only [putD, List.foldl_nil, List.foldl_cons, List.getD_cons_zero, List.getD_cons_succ, Act.put, List.setIfInBounds_toArray, List.set_cons_zero, List.set_cons_succ]
      refine OpGoal.plain ?_
      go_wp2_with fail
      exact ⟨rfl, Ext.refl _, rfl⟩
    case o4 => -- Op.load 73 (Operand.tmp 23)
      intro xv W hE hp
      have r3 : xv 3 = _ := hp.1
      clear hp
      obtain ⟨c0, c1, c2, c3, c4, c5⟩ := HQ.out W hE
      simp only [putD, List.foldl_nil, List.foldl_cons, List.getD_cons_zero, List.getD_cons_succ, Act.put, List.setIfInBounds_toArray, List.set_cons_zero, List.set_cons_succ]
      refine OpGoal.plain ?_
      go_wp2_with fail
      exact ⟨rfl, Ext.refl _, rfl⟩
    case o5 => -- Op.load 73 (Operand.tmp 5)
      intro xv W hE _
      obtain ⟨c0, c1, c2, c3, c4, c5⟩ := HQ.out W hE
      simp only [putD, List.foldl_nil, List.getD_cons_zero, List.getD_cons_succ]
      refine OpGoal.plain ?_
      go_wp2_with fail
      exact ⟨rfl, Ext.refl _, rfl⟩
    case o6 => -- Op.call { callee := Callee.value (Operand.tmp 20), args := #[Operand.tmp 24, Ope
      intro xv W hE hp
      have r0 : xv 0 = _ := hp.1
      have r4 : xv 4 = _ := hp.2.1
      have r5 : xv 5 = _ := hp.2.2.1
      clear hp
      simp only [putD, List.foldl_nil, List.foldl_cons, List.getD_cons_zero, List.getD_cons_succ, Act.put, List.setIfInBounds_toArray, List.set_cons_zero, List.set_cons_succ]
      refine OpGoal.plain ?_
      go_wp2_with fail
      refine (HC.out W).mono ?_
      rintro e w' ⟨rfl, hE'⟩
      go_wp2_with fail
      exact ⟨rfl, hE', rfl⟩
    case o7 => -- Op.binOp BinOp.lss 3 (Operand.tmp 26) (Operand.const (Value.int IntKind.i64 0)) 
      intro xv W hE hp
      have r6 : xv 6 = _ := hp.1
      clear hp
      simp only [putD, List.foldl_nil, List.foldl_cons, List.getD_cons_zero, List.getD_cons_succ, Act.put, List.setIfInBounds_toArray, List.set_cons_zero, List.set_cons_succ]
      refine OpGoal.plain ?_
      go_wp2_with fail
      exact ⟨rfl, Ext.refl _, rfl⟩
    case last =>
      intro xv W hE hp
      have r0 : xv 0 = _ := hp.1
      have r1 : xv 1 = _ := hp.2.1
      have r2 : xv 2 = _ := hp.2.2.1
      have r3 : xv 3 = _ := hp.2.2.2.1
      have r4 : xv 4 = _ := hp.2.2.2.2.1
      have r5 : xv 5 = _ := hp.2.2.2.2.2.1
      have r6 : xv 6 = _ := hp.2.2.2.2.2.2.1
      have r7 : xv 7 = _ := hp.2.2.2.2.2.2.2.1
      clear hp
      simp only [putD, List.foldl_nil, List.foldl_cons, List.getD_cons_zero, List.getD_cons_succ, Act.put, List.length_cons, List.length_nil, List.range_succ, List.range_zero, List.nil_append, List.cons_append, List.setIfInBounds_toArray, List.set_cons_zero, List.set_cons_succ]
      have hX : Ext V W := Ext.trans (Ext.drew V) hE
      have B4 : W.heap[w.heap.size]? = _ := HB.out W hX 0 _ rfl
      have B5 : W.heap[w.heap.size + 1]? = _ := HB.out W hX 1 _ rfl
      have a0 := cells_of B5 0 (.int .i64 a.x) rfl
      have a1 := cells_of B5 1 (.int .i64 a.y) rfl
      have z0 := cells_of B4 0 (.int .i64 0) rfl
      have z1 := cells_of B4 1 (.int .i64 0) rfl
      have f4 := blk_free B4
      have f5 := blk_free B5
      obtain ⟨c0, c1, c2, c3, c4, c5⟩ := HQ.out W hE
      go_wp2_with fail
      rw [rounds_succ]
      go_wp2_with fail
      refine bodyPost_ret (v := _) (by simp only [results, Tryz.results233]; go_simp) rfl ⟨rfl, ?_⟩
      exact exs (exs (exs (exs (Ext.trans HE.out hX) (by omega)) (by omega)) (Nat.le_refl _)) (Nat.le_refl _)
set_option maxHeartbeats 2000000 in
theorem max2_any (a b : Pt) (g : Nat) (w : World) (h0 : w.cell? ⟨g, 0, none⟩ = some (.int .i64 a.x)) (h1 : w.cell? ⟨g, 1, none⟩ = some (.int .i64 a.y)) (h2 : w.cell? ⟨g, 2, none⟩ = some (.int .i64 b.x)) (h3 : w.cell? ⟨g, 3, none⟩ = some (.int .i64 b.y)) :
    Calls Tryz.prog 232 #[.slice (some ⟨g, 0, none⟩) 2 2, .func (.func 231) #[] #[]] w fun e w' => e = .returned (.agg #[.int .i64 (hi2 a b).x, .int .i64 (hi2 a b).y]) ∧ Ext w w' := by
  have hlt : g < w.heap.size := by
    rcases Nat.lt_or_ge g w.heap.size with h | h
    · exact h
    · simp [World.cell?, Array.getElem?_eq_none h] at h0
  have eg : ∀ args w, (callFunc 231 args).run Tryz.prog w = .ok (.enter 231 args) w := enters_of Tryz.func231 (by kernel_rfl) rfl
  have hC := pcompare_any b a
  have hR := max2_eq a b
  obtain ⟨V, hV, hE0, hB⟩ := boxes w [.cells #[.int .i64 0, .int .i64 0] 73, .cells #[.int .i64 a.x, .int .i64 a.y] 73]
  have HV : Hid (((w.alloc (.cells #[.int .i64 0, .int .i64 0] 73)).alloc (.cells #[.int .i64 a.x, .int .i64 a.y] 73)) = V) := Lib.hid hV
  have HQ := Lib.hid (fun W (hE : Ext V.drew W) => And.intro (cell_ext (Ext.trans hE0 (Ext.trans (Ext.drew V) hE)) h0) (And.intro (cell_ext (Ext.trans hE0 (Ext.trans (Ext.drew V) hE)) h1) (And.intro (cell_ext (Ext.trans hE0 (Ext.trans (Ext.drew V) hE)) h2) (And.intro (cell_ext (Ext.trans hE0 (Ext.trans (Ext.drew V) hE)) h3)
    (And.intro (cells_of (hB W (Ext.trans (Ext.drew V) hE) 1 _ rfl) 0 _ rfl) (cells_of (hB W (Ext.trans (Ext.drew V) hE) 1 _ rfl) 1 _ rfl))))))
  have HB := Lib.hid hB
  have HE := Lib.hid hE0
  clear hV hE0 hB
  generalize hc0 : cmp2 b a = c at *
  have HC := Lib.hid hC
  clear hC hc0
  cases hs : decide (0 < c)
  · have hr : hi2 a b = a := by rw [← hR, hs]; rfl
    rw [hr]
    clear hR hr
    go_enter Tryz.func232, Tryz.ntmps232
    go_wp2_with fail
    refine wp_loop_rounds 2 ?_
    rw [rounds_succ]
    go_wp2_with fail
    rw [HV.out]
    clear h0 h1 h2 h3 hlt
    apply wp_region_seq (l := [_, _, _, _, _, _, _, _]) (t := []) [some 20, some 21, some 22, some 23, some 24, some 25, some 26, some 27] [[], [], [], [1, 2], [3], [], [0, 4, 5], [6]] [] [eqv _, eqv _, eqv _, eqv _, (eqv (.agg #[.int .i64 b.x, .int .i64 b.y])), (eqv (.agg #[.int .i64 a.x, .int .i64 a.y])), (eqv (.int .i64 c)), eqv _] (by kernel_rfl) (by kernel_rfl) ⟨?o0, ?o1, ?o2, ?o3, ?o4, ?o5, ?o6, ?o7, trivial⟩ ?last
    case o0 => -- Op.move (Operand.tmp 1)
      intro xv W hE _
      simp only [putD, List.foldl_nil, List.getD_cons_zero]
      refine OpGoal.plain ?_
      go_wp2_with fail
      exact ⟨rfl, Ext.refl _, rfl⟩
    case o1 => -- Op.move (Operand.tmp 0)
      intro xv W hE _
      simp only [putD, List.foldl_nil, List.getD_cons_zero, List.getD_cons_succ]
      refine OpGoal.plain ?_
      go_wp2_with fail
      exact ⟨rfl, Ext.refl _, rfl⟩
    case o2 => -- Op.move (Operand.tmp 6)
      intro xv W hE _
      simp only [putD, List.foldl_nil, List.getD_cons_zero, List.getD_cons_succ]
      refine OpGoal.plain ?_
      go_wp2_with fail
      exact ⟨rfl, Ext.refl _, rfl⟩
    case o3 => -- Op.indexAddr 75 (Operand.tmp 21) (Operand.tmp 22)
      intro xv W hE hp
      have r1 : xv 1 = _ := hp.1
      have r2 : xv 2 = _ := hp.2.1
      clear hp
      simp only [putD, List.foldl_nil, List.foldl_cons, List.getD_cons_zero, List.getD_cons_succ, Act.put, List.setIfInBounds_toArray, List.set_cons_zero, List.set_cons_succ]
      refine OpGoal.plain ?_
      go_wp2_with fail
      exact ⟨rfl, Ext.refl _, rfl⟩
    case o4 => -- Op.load 73 (Operand.tmp 23)
      intro xv W hE hp
      have r3 : xv 3 = _ := hp.1
      clear hp
      obtain ⟨c0, c1, c2, c3, c4, c5⟩ := HQ.out W hE
      simp only [putD, List.foldl_nil, List.foldl_cons, List.getD_cons_zero, List.getD_cons_succ, Act.put, List.setIfInBounds_toArray, List.set_cons_zero, List.set_cons_succ]
      refine OpGoal.plain ?_
      go_wp2_with fail
      exact ⟨rfl, Ext.refl _, rfl⟩
    case o5 => -- Op.load 73 (Operand.tmp 5)
      intro xv W hE _
      obtain ⟨c0, c1, c2, c3, c4, c5⟩ := HQ.out W hE
      simp only [putD, List.foldl_nil, List.getD_cons_zero, List.getD_cons_succ]
      refine OpGoal.plain ?_
      go_wp2_with fail
      exact ⟨rfl, Ext.refl _, rfl⟩
    case o6 => -- Op.call { callee := Callee.value (Operand.tmp 20), args := #[Operand.tmp 24, Ope
      intro xv W hE hp
      have r0 : xv 0 = _ := hp.1
      have r4 : xv 4 = _ := hp.2.1
      have r5 : xv 5 = _ := hp.2.2.1
      clear hp
      simp only [putD, List.foldl_nil, List.foldl_cons, List.getD_cons_zero, List.getD_cons_succ, Act.put, List.setIfInBounds_toArray, List.set_cons_zero, List.set_cons_succ]
      refine OpGoal.plain ?_
      go_wp2_with fail
      refine (HC.out W).mono ?_
      rintro e w' ⟨rfl, hE'⟩
      go_wp2_with fail
      exact ⟨rfl, hE', rfl⟩
    case o7 => -- Op.binOp BinOp.gtr 3 (Operand.tmp 26) (Operand.const (Value.int IntKind.i64 0)) 
      intro xv W hE hp
      have r6 : xv 6 = _ := hp.1
      clear hp
      simp only [putD, List.foldl_nil, List.foldl_cons, List.getD_cons_zero, List.getD_cons_succ, Act.put, List.setIfInBounds_toArray, List.set_cons_zero, List.set_cons_succ]
      refine OpGoal.plain ?_
      go_wp2_with fail
      exact ⟨rfl, Ext.refl _, rfl⟩
    case last =>
      intro xv W hE hp
      have r0 : xv 0 = _ := hp.1
      have r1 : xv 1 = _ := hp.2.1
      have r2 : xv 2 = _ := hp.2.2.1
      have r3 : xv 3 = _ := hp.2.2.2.1
      have r4 : xv 4 = _ := hp.2.2.2.2.1
      have r5 : xv 5 = _ := hp.2.2.2.2.2.1
      have r6 : xv 6 = _ := hp.2.2.2.2.2.2.1
      have r7 : xv 7 = _ := hp.2.2.2.2.2.2.2.1
      clear hp
      simp only [putD, List.foldl_nil, List.foldl_cons, List.getD_cons_zero, List.getD_cons_succ, Act.put, List.length_cons, List.length_nil, List.range_succ, List.range_zero, List.nil_append, List.cons_append, List.setIfInBounds_toArray, List.set_cons_zero, List.set_cons_succ]
      have hX : Ext V W := Ext.trans (Ext.drew V) hE
      have B4 : W.heap[w.heap.size]? = _ := HB.out W hX 0 _ rfl
      have B5 : W.heap[w.heap.size + 1]? = _ := HB.out W hX 1 _ rfl
      have a0 := cells_of B5 0 (.int .i64 a.x) rfl
      have a1 := cells_of B5 1 (.int .i64 a.y) rfl
      have z0 := cells_of B4 0 (.int .i64 0) rfl
      have z1 := cells_of B4 1 (.int .i64 0) rfl
      have f4 := blk_free B4
      go_wp2_with fail
      rw [rounds_succ]
      go_wp2_with fail
      refine bodyPost_ret (v := _) (by simp only [results, Tryz.results232]; go_simp) rfl ⟨rfl, ?_⟩
      exact exs (exs (Ext.trans HE.out hX) (Nat.le_refl _)) (Nat.le_refl _)
  · have hr : hi2 a b = b := by rw [← hR, hs]; rfl
    rw [hr]
    clear hR hr
    go_enter Tryz.func232, Tryz.ntmps232
    go_wp2_with fail
    refine wp_loop_rounds 2 ?_
    rw [rounds_succ]
    go_wp2_with fail
    rw [HV.out]
    clear h0 h1 h2 h3 hlt
    apply wp_region_seq (l := [_, _, _, _, _, _, _, _]) (t := []) [some 20, some 21, some 22, some 23, some 24, some 25, some 26, some 27] [[], [], [], [1, 2], [3], [], [0, 4, 5], [6]] [] [eqv _, eqv _, eqv _, eqv _, (eqv (.agg #[.int .i64 b.x, .int .i64 b.y])), (eqv (.agg #[.int .i64 a.x, .int .i64 a.y])), (eqv (.int .i64 c)), eqv _] (by kernel_rfl) (by kernel_rfl) ⟨?o0, ?o1, ?o2, ?o3, ?o4, ?o5, ?o6, ?o7, trivial⟩ ?last
    case o0 => -- Op.move (Operand.tmp 1)
      intro xv W hE _
      simp only [putD, List.foldl_nil, List.getD_cons_zero]
      refine OpGoal.plain ?_
      go_wp2_with fail
      exact ⟨rfl, Ext.refl _, rfl⟩
    case o1 => -- Op.move (Operand.tmp 0)
      intro xv W hE _
      simp only [putD, List.foldl_nil, List.getD_cons_zero, List.getD_cons_succ]
      refine OpGoal.plain ?_
      go_wp2_with fail
      exact ⟨rfl, Ext.refl _, rfl⟩
    case o2 => -- Op.move (Operand.tmp 6)
      intro xv W hE _
      simp only [putD, List.foldl_nil, List.getD_cons_zero, List.getD_cons_succ]
      refine OpGoal.plain ?_
      go_wp2_with fail
      exact ⟨rfl, Ext.refl _, rfl⟩
    case o3 => -- Op.indexAddr 75 (Operand.tmp 21) (Operand.tmp 22)
      intro xv W hE hp
      have r1 : xv 1 = _ := hp.1
      have r2 : xv 2 = _ := hp.2.1
      clear hp
      simp only [putD, List.foldl_nil, List.foldl_cons, List.getD_cons_zero, List.getD_cons_succ, Act.put, List.setIfInBounds_toArray, List.set_cons_zero, List.set_cons_succ]
      refine OpGoal.plain ?_
      go_wp2_with fail
      exact ⟨rfl, Ext.refl _, rfl⟩
    case o4 => -- Op.load 73 (Operand.tmp 23)
      intro xv W hE hp
      have r3 : xv 3 = _ := hp.1
      clear hp
      obtain ⟨c0, c1, c2, c3, c4, c5⟩ := HQ.out W hE
      simp only [putD, List.foldl_nil, List.foldl_cons, List.getD_cons_zero, List.getD_cons_succ, Act.put, List.setIfInBounds_toArray, List.set_cons_zero, List.set_cons_succ]
      refine OpGoal.plain ?_
      go_wp2_with fail
      exact ⟨rfl, Ext.refl _, rfl⟩
    case o5 => -- Op.load 73 (Operand.tmp 5)
      intro xv W hE _
      obtain ⟨c0, c1, c2, c3, c4, c5⟩ := HQ.out W hE
      simp only [putD, List.foldl_nil, List.getD_cons_zero, List.getD_cons_succ]
      refine OpGoal.plain ?_
      go_wp2_with fail
      exact ⟨rfl, Ext.refl _, rfl⟩
    case o6 => -- Op.call { callee := Callee.value (Operand.tmp 20), args := #[Operand.tmp 24, Ope
      intro xv W hE hp
      have r0 : xv 0 = _ := hp.1
      have r4 : xv 4 = _ := hp.2.1
      have r5 : xv 5 = _ := hp.2.2.1
      clear hp
      simp only [putD, List.foldl_nil, List.foldl_cons, List.getD_cons_zero, List.getD_cons_succ, Act.put, List.setIfInBounds_toArray, List.set_cons_zero, List.set_cons_succ]
      refine OpGoal.plain ?_
      go_wp2_with fail
      refine (HC.out W).mono ?_
      rintro e w' ⟨rfl, hE'⟩
      go_wp2_with fail
      exact ⟨rfl, hE', rfl⟩
    case o7 => -- Op.binOp BinOp.gtr 3 (Operand.tmp 26) (Operand.const (Value.int IntKind.i64 0)) 
      intro xv W hE hp
      have r6 : xv 6 = _ := hp.1
      clear hp
      simp only [putD, List.foldl_nil, List.foldl_cons, List.getD_cons_zero, List.getD_cons_succ, Act.put, List.setIfInBounds_toArray, List.set_cons_zero, List.set_cons_succ]
      refine OpGoal.plain ?_
      go_wp2_with fail
      exact ⟨rfl, Ext.refl _, rfl⟩
    case last =>
      intro xv W hE hp
      have r0 : xv 0 = _ := hp.1
      have r1 : xv 1 = _ := hp.2.1
      have r2 : xv 2 = _ := hp.2.2.1
      have r3 : xv 3 = _ := hp.2.2.2.1
      have r4 : xv 4 = _ := hp.2.2.2.2.1
      have r5 : xv 5 = _ := hp.2.2.2.2.2.1
      have r6 : xv 6 = _ := hp.2.2.2.2.2.2.1
      have r7 : xv 7 = _ := hp.2.2.2.2.2.2.2.1
      clear hp
      simp only [putD, List.foldl_nil, List.foldl_cons, List.getD_cons_zero, List.getD_cons_succ, Act.put, List.length_cons, List.length_nil, List.range_succ, List.range_zero, List.nil_append, List.cons_append, List.setIfInBounds_toArray, List.set_cons_zero, List.set_cons_succ]
      have hX : Ext V W := Ext.trans (Ext.drew V) hE
      have B4 : W.heap[w.heap.size]? = _ := HB.out W hX 0 _ rfl
      have B5 : W.heap[w.heap.size + 1]? = _ := HB.out W hX 1 _ rfl
      have a0 := cells_of B5 0 (.int .i64 a.x) rfl
      have a1 := cells_of B5 1 (.int .i64 a.y) rfl
      have z0 := cells_of B4 0 (.int .i64 0) rfl
      have z1 := cells_of B4 1 (.int .i64 0) rfl
      have f4 := blk_free B4
      have f5 := blk_free B5
      obtain ⟨c0, c1, c2, c3, c4, c5⟩ := HQ.out W hE
      go_wp2_with fail
      rw [rounds_succ]
      go_wp2_with fail
      refine bodyPost_ret (v := _) (by simp only [results, Tryz.results232]; go_simp) rfl ⟨rfl, ?_⟩
      exact exs (exs (exs (exs (Ext.trans HE.out hX) (by omega)) (by omega)) (Nat.le_refl _)) (Nat.le_refl _)
end Go.Proofs.YtompfgofaplffaaGreatDoor

namespace Go.Proofs.YtompfgofaplffaaGreatDoor
open Go.RowKit Hach

theorem grownE {w w' : World} (h : Ext w w') (r : Option Nat) : w.grownBy w' r := ⟨Below.os h, Below.tape h, Below.output h, Below.size h, fun k hk _ => Below.block h k hk⟩
theorem below_rowE {w w' : World} {B : Nat} {r : Option Nat} (h : w.grownBy w' r) (hB : B ≤ w.heap.size) (hv : ∀ g, r = some g → B ≤ g) : Below B w w' :=
  ⟨h.os, h.tape, h.output, h.size, fun k hk => h.block k (by omega) fun e => by have := hv k e.symm; omega⟩
theorem grownE_trans {u v w : World} {r : Option Nat} (h : u.grownBy v r) (k : v.grownBy w r) : u.grownBy w r :=
  ⟨k.os.trans h.os, k.tape.trans h.tape, k.output.trans h.output, Nat.le_trans h.size k.size, fun j hj hne => (k.block j (Nat.lt_of_lt_of_le hj h.size) hne).trans (h.block j hj hne)⟩
theorem grownE_set (w : World) (b o : Nat) (v : Value) : w.grownBy (w.setCell ⟨b, o, none⟩ v) (some b) := by
  refine ⟨rfl, rfl, rfl, by simp [World.setCell], fun k _ hne => ?_⟩
  simp only [World.setCell, Array.getElem?_modify]
  rw [if_neg (fun e => hne (by rw [e]))]
theorem put_midE {T : TypeId} {b : Nat} : ∀ (new old pre post : List Value) (w : World), w.heap[b]? = some (.cells (pre ++ (old ++ post)).toArray T (0, 0)) → old.length = new.length →
    (w.setCells b pre.length new).heap[b]? = some (.cells (pre ++ (new ++ post)).toArray T (0, 0)) ∧ w.grownBy (w.setCells b pre.length new) (some b)
  | [], old, pre, post, w, h, hl => by
    obtain rfl : old = [] := List.length_eq_zero_iff.1 (by simpa using hl)
    exact ⟨h, grownE (Ext.refl _) _⟩
  | v :: new, [], pre, post, w, h, hl => by simp at hl
  | v :: new, o :: old, pre, post, w, h, hl => by
    have h1 : (w.setCell ⟨b, pre.length, none⟩ v).heap[b]? = some (.cells ((pre ++ [v]) ++ (old ++ post)).toArray T (0, 0)) := by
      simp only [World.setCell, Array.getElem?_modify, if_pos, h, Option.map_some]
      simp
    have ih := put_midE new old (pre ++ [v]) post (w.setCell ⟨b, pre.length, none⟩ v) h1 (by simpa using hl)
    rw [List.length_append, List.length_singleton] at ih
    rw [World.setCells]
    refine ⟨?_, grownE_trans (grownE_set w b pre.length v) ih.2⟩
    have := ih.1
    simpa using this

/- below B nothing changes; a block from B on stays, or goes from Z to X -/
def OnceS (B : Nat) (T : TypeId) (Z X : Array Value) (W W' : World) : Prop := Below B W W' ∧ ∀ k, B ≤ k → k < W.heap.size → W'.heap[k]? = W.heap[k]? ∨ (W.heap[k]? = some (.cells Z T (0, 0)) ∧ W'.heap[k]? = some (.cells X T (0, 0)))
theorem OnceS.refl (B : Nat) (T : TypeId) (Z X : Array Value) (W : World) : OnceS B T Z X W W := ⟨Below.refl _ W, fun _ _ _ => .inl rfl⟩
theorem OnceS.trans (B : Nat) (T : TypeId) (Z X : Array Value) {U V W : World} (h : OnceS B T Z X U V) (k : OnceS B T Z X V W) : OnceS B T Z X U W := by
  refine ⟨Below.trans h.1 k.1, fun j hj hl => ?_⟩
  have h1 := h.2 j hj hl
  have h2 := k.2 j hj (Nat.lt_of_lt_of_le hl h.1.size)
  rcases h1 with h1 | ⟨a1, b1⟩ <;> rcases h2 with h2 | ⟨a2, b2⟩
  · exact .inl (h2.trans h1)
  · exact .inr ⟨h1 ▸ a2, b2⟩
  · exact .inr ⟨a1, h2.trans b1⟩
  · exact .inr ⟨a1, b2⟩
theorem OnceS.sz {B : Nat} {T : TypeId} {Z X : Array Value} {U V : World} (h : OnceS B T Z X U V) : U.heap.size ≤ V.heap.size := h.1.size
theorem OnceS.ext {B : Nat} {T : TypeId} {Z X : Array Value} {W W' : World} (h : Ext W W') (hB : B ≤ W.heap.size) : OnceS B T Z X W W' :=
  ⟨below_rowE (grownE h none) hB (fun g e => by cases e), fun k _ hl => .inl (h.below.block k hl)⟩
theorem OnceS.put {B : Nat} {T : TypeId} {Z X : Array Value} {W W' : World} {g : Nat} (hB : B ≤ W.heap.size) (hg : B ≤ g) (h : W.heap[g]? = some (.cells Z T (0, 0)) ∨ W.heap[g]? = some (.cells X T (0, 0))) (hx : W'.heap[g]? = some (.cells X T (0, 0))) (hgr : W.grownBy W' (some g)) : OnceS B T Z X W W' := by
  refine ⟨below_rowE hgr hB (fun k e => by simp only [Option.some.injEq] at e; omega), fun k hk hl => ?_⟩
  by_cases e : k = g
  · subst e
    rcases h with h | h
    · exact .inr ⟨h, hx⟩
    · exact .inl (hx.trans h.symm)
  · exact .inl (hgr.block k hl (by simpa using e))
/- the new variable; the variable written -/
def newL (B : Nat) (T : TypeId) (Z X : Array Value) : SPl (OnceS B T Z X) := ⟨[], fun _ v W => ∃ g, v = .pointer (some ⟨g, 0, none⟩) ∧ B ≤ g ∧ (W.heap[g]? = some (.cells Z T (0, 0)) ∨ W.heap[g]? = some (.cells X T (0, 0))), fun h hE => by
  obtain ⟨g, e, h1, h2⟩ := h
  refine ⟨g, e, h1, ?_⟩
  rcases hE.2 g h1 (by rcases h2 with h | h <;> exact (Array.getElem?_eq_some_iff.1 h).1) with h | ⟨_, h⟩
  · rw [h]; exact h2
  · exact .inr h, fun _ h => h⟩
def putL (B : Nat) (T : TypeId) (Z X : Array Value) (i : Nat) : SPl (OnceS B T Z X) := ⟨[i], fun x _ W => ∃ g, x i = .pointer (some ⟨g, 0, none⟩) ∧ B ≤ g ∧ W.heap[g]? = some (.cells X T (0, 0)), fun h hE => by
  obtain ⟨g, e, h1, h2⟩ := h
  refine ⟨g, e, h1, ?_⟩
  rcases hE.2 g h1 (Array.getElem?_eq_some_iff.1 h2).1 with h | ⟨_, h⟩
  · exact h.trans h2
  · exact h, fun hx h => by
  obtain ⟨g, e, h1⟩ := h
  exact ⟨g, (hx _ (List.mem_singleton.2 rfl)).trans e, h1⟩⟩
theorem store_TE {P : Program} {ops : Array Oper} {rest : List Oper} {op : Oper} {a : Act} {w : World} {Q : Exit → Act → World → Prop} (T T' : TypeId) (g : Nat) (C cs : List Value) (h : w.heap[g]? = some (.cells C.toArray T' (0, 0))) (hC : C.length = cs.length) (hi : (P.info? T).map (·.size) = some cs.length) (h1 : ∀ v ∈ cs, v.oneCell' = true) (hgd : op.guard = none) (x y : Operand) (hop : op.op = .store T x y) (hx : a.eval x = .pointer (some ⟨g, 0, none⟩)) (hy : a.eval y = .agg cs.toArray)
    (hk : ∀ w', w'.heap[g]? = some (.cells cs.toArray T' (0, 0)) → w.grownBy w' (some g) → wpList P ops Q rest (a.put op.dst undef) w') : wpList P ops Q (op :: rest) a w := by
  have hp := put_midE cs C [] [] w (by simpa using h) hC
  refine wpList_store_mid hgd T x y hop g 0 cs.toArray hx hy (fun j hj => ?_) (by rw [hi]; simp) (all_oneCell_toArray h1) (hk _ (by have := hp.1; simp only [List.nil_append, List.append_nil, List.length_nil] at this; exact this) hp.2)
  have hj2 : j < C.length := by rw [hC]; simpa using hj
  refine ⟨?_, by simp [World.frozen?, h]⟩
  simp [World.cell?, h, hj2]
end Go.Proofs.YtompfgofaplffaaGreatDoor
