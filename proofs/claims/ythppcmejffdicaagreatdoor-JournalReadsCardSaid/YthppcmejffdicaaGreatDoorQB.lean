/- Contracts of the digests: four bytes of a number; the digest of a string, in the program and in the reference. -/
import Derived.Test.YthppcmejffdicaaGreatDoorRows
import Derived.Test.YthppcmejffdicaaGreatDoorQDc
import Derived.Test.YthppcmejffdicaaGreatDoorQShelf
import Derived.WalkKit
import Derived.WalkSpells
import Derived.WalkLawsBesides
import Derived.Lib.Hide
import Derived.Outline
import Derived.Test.YthppcmejffdicaaGreatDoorQJk
import Derived.Maps.AppendAt
import Derived.Deep.QuietTactic
import Derived.BigQuiet

set_option linter.unusedSimpArgs false
set_option linter.unusedVariables false
namespace Go.Proofs.YthppcmejffdicaaGreatDoor
open Go.RowKit Hach

/- 'string(..)' of four new bytes -/
theorem conv4 (a b c d : Nat) (w : World) :
    (convert 57 9 (.slice (some ⟨w.heap.size, 0, none⟩) 4 4)).run Tryz.prog (w.alloc (.cells #[.int .u8 (a : Nat), .int .u8 (b : Nat), .int .u8 (c : Nat), .int .u8 (d : Nat)] 5)) =
      .ok (.string ⟨#[UInt8.ofNat a, UInt8.ofNat b, UInt8.ofNat c, UInt8.ofNat d]⟩) (w.alloc (.cells #[.int .u8 (a : Nat), .int .u8 (b : Nat), .int .u8 (c : Nat), .int .u8 (d : Nat)] 5)) := by
  have h := run_convert_bytes_arg (P := Tryz.prog) (w.alloc (.cells #[.int .u8 (a : Nat), .int .u8 (b : Nat), .int .u8 (c : Nat), .int .u8 (d : Nat)] 5)) 57 5 Tryz.underlying57 Tryz.underlying5 w.heap.size 0 4 4 [(a : Int), b, c, d] rfl (by
    intro i hi
    rw [World.cell?_alloc_new]
    match i, hi with
    | 0, _ => rfl
    | 1, _ => rfl
    | 2, _ => rfl
    | 3, _ => rfl) 9 Tryz.underlying9
  rw [h]
  simp [strOfNums]
theorem ofNat_mod (x : Nat) : UInt8.ofNat (x % 256) = UInt8.ofNat x := UInt8.toNat_inj.1 (by simp)
theorem b4_mod (n : Nat) : (⟨#[UInt8.ofNat (n / 16777216), UInt8.ofNat (n / 65536 % 256), UInt8.ofNat (n / 256 % 256), UInt8.ofNat (n % 256)]⟩ : ByteArray) = b4 n := by
  rw [ofNat_mod, ofNat_mod, ofNat_mod]; rfl
set_option maxHeartbeats 400000 in
theorem bytes4_any (n : Nat) (w : World) (h : n < 4294967296) :
    Calls Tryz.prog 59 #[.int .i64 n] w fun e w' => e = .returned (.string (b4 n)) ∧ Below w.heap.size w w' := by
  have hc := conv4 (n / 16777216) (n / 65536 % 256) (n / 256 % 256) (n % 256) w
  rw [b4_mod n] at hc
  simp only [Int.natCast_ediv, Int.natCast_emod, Int.cast_ofNat_Int] at hc
  go_enter Tryz.func59, Tryz.ntmps59
  go_wp2
  go_ret
  exact ⟨rfl, below_alloc _ _⟩
set_option maxHeartbeats 400000 in
theorem clone_any (s : ByteArray) (w : World) (h : s.size < 4294967296) :
    Calls Tryz.prog 60 #[.string s] w fun e w' => e = .returned (.string s) ∧ Below w.heap.size w w' := by
  go_enter Tryz.func60, Tryz.ntmps60
  go_wp2_with fail
  refine (Tryz.stringslite_Clone _ _ (by omega)).mono ?_
  rintro e w1 ⟨rfl, hb1⟩
  go_wp2_with fail
  go_ret
  exact ⟨rfl, hb1⟩

set_option maxHeartbeats 400000 in
theorem text_any (l : List UInt8) (w : World) :
    Calls Tryz.prog 49 #[dgv l] w fun e w' => e = .returned (.string (dgs l)) ∧ Below w.heap.size w w' := by
  have hc := run_convert_bytes_arg (P := Tryz.prog) (w.alloc (.cells #[.int .u8 (dgb l 0 : Nat), .int .u8 (dgb l 1 : Nat), .int .u8 (dgb l 2 : Nat), .int .u8 (dgb l 3 : Nat), .int .u8 (dgb l 4 : Nat), .int .u8 (dgb l 5 : Nat), .int .u8 (dgb l 6 : Nat), .int .u8 (dgb l 7 : Nat)] 80)) 57 5 Tryz.underlying57 Tryz.underlying5 w.heap.size 0 8 8 [(dgb l 0 : Int), dgb l 1, dgb l 2, dgb l 3, dgb l 4, dgb l 5, dgb l 6, dgb l 7] rfl (by
    intro i hi
    rw [World.cell?_alloc_new]
    match i, hi with
    | 0, _ => rfl
    | 1, _ => rfl
    | 2, _ => rfl
    | 3, _ => rfl
    | 4, _ => rfl
    | 5, _ => rfl
    | 6, _ => rfl
    | 7, _ => rfl) 9 Tryz.underlying9
  have e : strOfNums [(dgb l 0 : Int), dgb l 1, dgb l 2, dgb l 3, dgb l 4, dgb l 5, dgb l 6, dgb l 7] = dgs l := by
    rw [← dgs_of]; simp [strOfNums]
  rw [e] at hc
  clear e
  unfold dgv
  go_enter Tryz.func49, Tryz.ntmps49
  go_wp2_with fail
  refine (clone_any _ _ (by rw [dgs_size]; omega)).mono ?_
  rintro e w1 ⟨rfl, hb1⟩
  go_wp2_with fail
  go_ret
  exact ⟨rfl, (below_alloc _ _).trans (hb1.mono (by simp))⟩

/- 'of' at a list that has just been written down -/
theorem of_lit (ss : List ByteArray) (n c : Nat) (cs : Array Value) (w : World) (hcs : cs = (ss.map Value.string).toArray) (hn : n = ss.length) (hl : ss.length < 4294967296) (hs : Sm ss) :
    Calls Tryz.prog 48 #[.slice (some ⟨w.heap.size, 0, none⟩) n c] (w.alloc (.cells cs 9)) fun e w' => e = .returned (dgv (cat ss)) ∧ Below w.heap.size w w' := by
  subst hn
  refine (of_any _ _ c ss _ (by rw [World.size_alloc]; exact Strs.new w ss _ _ cs hcs) hl hs).mono ?_
  rintro e w' ⟨he, hb⟩
  exact ⟨he, (below_alloc _ _).trans (hb.mono (by simp))⟩

set_option maxHeartbeats 400000 in
theorem Of_any (s : ByteArray) (w : World) (h : s.size < 4294967296) :
    Calls Tryz.prog 37 #[.string s] w fun e w' => e = .returned (.string (dg s)) ∧ Below w.heap.size w w' := by
  go_enter Tryz.func37, Tryz.ntmps37
  go_wp2_with fail
  refine (of_lit [s] _ _ _ w rfl rfl (by simp) (.cons h .nil)).mono ?_
  rintro e w1 ⟨rfl, hb1⟩
  go_wp2_with fail
  refine (text_any _ _).mono ?_
  rintro e w2 ⟨rfl, hb2⟩
  go_wp2_with fail
  go_ret
  exact ⟨by rw [cat_one]; rfl, hb1.trans (hb2.mono hb1.size)⟩

set_option maxHeartbeats 400000 in
theorem rOf_any (s : ByteArray) (w : World) (h : s.size < 4294967296) :
    Calls Tryz.prog 46 #[.string s] w fun e w' => e = .returned (.string (dg s)) ∧ Below w.heap.size w w' := by
  go_enter Tryz.func46, Tryz.ntmps46
  go_wp2_with fail
  go_loop [3, 4, 5] (fun x y i => ∃ j : Nat, j ≤ s.size ∧ i = .int .i64 j ∧ x = .int .i64 (rX (s.data.toList.take j)) ∧ y = .int .i64 (rY (s.data.toList.take j))) (fun _ _ i => s.size - (intOf i).toNat)
  case atStart => exact ⟨0, Nat.zero_le _, rfl, rfl, rfl⟩
  case round =>
    obtain ⟨j, hj, rfl, rfl, rfl⟩ := hrel
    have hx2 := rX_lt (s.data.toList.take j)
    have hy2 := rY_lt (s.data.toList.take j)
    by_cases hlt2 : j < s.size
    · have hx : s.data.toList.take (j + 1) = s.data.toList.take j ++ [s.data[j]'hlt2] := by
        rw [List.take_succ_eq_append_getElem (by simpa using hlt2)]; simp
      have HX := Lib.hid hx
      clear hx
      have hb8 : (s[j]'hlt2).toNat < 256 := UInt8.toNat_lt _
      go_wp2_with fail
      go_round
      case rel =>
        have hs1 : rX (s.data.toList.take (j + 1)) = (48271 * rX (s.data.toList.take j) + (s[j]'hlt2).toNat + 1) % 2147483647 := by rw [HX.out, rX_snoc]; rfl
        have hs2 : rY (s.data.toList.take (j + 1)) = (40692 * rY (s.data.toList.take j) + (s[j]'hlt2).toNat + 1) % 2147483629 := by rw [HX.out, rY_snoc]; rfl
        exact ⟨j + 1, by omega, by go_num, by rw [hs1]; go_num, by rw [hs2]; go_num⟩
      case measure => simp [intOf]; omega
    · go_wp2_with fail
      refine (bytes4_any _ _ (by omega)).mono ?_
      rintro e w1 ⟨rfl, hb1⟩
      go_wp2_with fail
      refine (bytes4_any _ _ (by omega)).mono ?_
      rintro e w2 ⟨rfl, hb2⟩
      go_wp2_with fail
      go_ret
      have e : s.data.toList.take j = s.data.toList := List.take_of_length_le (by simp; exact Nat.le_of_not_lt hlt2)
      exact ⟨by rw [e, dg_eq]; rfl, hb1.trans (hb2.mono hb1.size)⟩

end Go.Proofs.YthppcmejffdicaaGreatDoor

/- The contract of the reference's lines. -/
namespace Go.Proofs.YthppcmejffdicaaGreatDoor
open Go.RowKit Hach Num Jn

theorem ba_one (s : List UInt8) (k : Nat) (h : k < s.length) : (⟨s.toArray⟩ : ByteArray).extract k (k + 1) = ⟨[s.getD k 0].toArray⟩ := by
  apply ba_ext
  rw [ByteArray.data_extract]
  simp only [List.extract_toArray, List.extract_eq_take_drop]
  rw [List.drop_eq_getElem_cons h, Nat.add_sub_cancel_left]
  simp only [List.getD, List.getElem?_eq_getElem h, Option.getD_some]
  rfl
theorem dg_list (s : List UInt8) : dg ⟨s.toArray⟩ = ⟨(dgl s).toArray⟩ := by unfold dg; simp
/- what a line begins with -/
def begin_ (s : List UInt8) : List UInt8 := head s ++ 32 :: (hexl (dgl s) ++ [32])
theorem line_begin (s : List UInt8) : line s = begin_ s ++ (esc s ++ [10]) := by unfold line begin_; simp

set_option maxHeartbeats 1000000 in
theorem lineR_any (s : List UInt8) (hs : s.length < 16777216) (w : World) :
    Calls Tryz.prog 31 #[.string ⟨s.toArray⟩] w fun e w' => e = .returned (.string ⟨(line s).toArray⟩) ∧ Ext w w' := by
  have hsz := toArr_size s
  go_enter Tryz.func31, Tryz.ntmps31
  go_wp2_with fail
  refine (decimal_any s.length s.length (by omega) (by omega) ⟨by omega, by omega⟩ w).mono ?_
  rintro e w1 ⟨rfl, hE1⟩
  have hd := Lib.itoa_length_le (s.length : Int) (by omega) (by omega)
  have hd2 : (⟨(Lib.itoa (s.length : Int)).toArray⟩ : ByteArray).size ≤ 21 := by rw [toArr_size]; exact hd
  go_wp2_with fail
  refine (rOf_any ⟨s.toArray⟩ w1 (by rw [toArr_size]; omega)).mono ?_
  rintro e w2 ⟨rfl, hE2⟩
  rw [dg_list]
  go_wp2_with fail
  refine (hexR_any (dgl s) (by rw [dgl_length]; omega) w2).mono ?_
  rintro e w3 ⟨rfl, hE3⟩
  have hE := (hE1.trans hE2).trans hE3
  have hx : (hexl (dgl s)).length = 16 := by rw [hexl_len, dgl_length]
  have hP : ((⟨(Lib.itoa (s.length : Int)).toArray⟩ : ByteArray) ++ ⟨[32].toArray⟩ ++ ⟨(hexl (dgl s)).toArray⟩ ++ ⟨[32].toArray⟩) = ⟨(begin_ s).toArray⟩ := by
    rw [ba_append, ba_append, ba_append]; unfold begin_ head; simp
  have hpl : (begin_ s).length ≤ 40 := by unfold begin_ head; simp only [List.length_append, List.length_cons, List.length_nil, hx]; omega
  have hz1 : ((⟨(Lib.itoa (s.length : Int)).toArray⟩ : ByteArray) ++ ⟨[32].toArray⟩).size ≤ 22 := by rw [ba_append, toArr_size, List.length_append, List.length_singleton]; omega
  have hz2 : (⟨(hexl (dgl s)).toArray⟩ : ByteArray).size ≤ 16 := by rw [toArr_size, hx]; omega
  have hz3 : ((⟨(Lib.itoa (s.length : Int)).toArray⟩ : ByteArray) ++ ⟨[32].toArray⟩ ++ ⟨(hexl (dgl s)).toArray⟩).size ≤ 38 := by rw [ba_append, ba_append, toArr_size, List.length_append, List.length_append, List.length_singleton, hx]; omega
  have HP := Lib.hid hP
  clear hx hP hd
  generalize (⟨(Lib.itoa (s.length : Int)).toArray⟩ : ByteArray) = D at *
  generalize (⟨(hexl (dgl s)).toArray⟩ : ByteArray) = H at *
  go_wp2_with fail
  go_loopw [3, 4] (fun v i wr => ∃ k : Nat, k ≤ s.length ∧ i = .int .i64 k ∧ v = .string ⟨(begin_ s ++ esc (s.take k)).toArray⟩ ∧ Ext w wr) (fun _ i _ => s.length - (intOf i).toNat)
  case atStart => exact ⟨0, Nat.zero_le _, rfl, by rw [List.take_zero, show begin_ s ++ esc [] = begin_ s by simp [esc], ← HP.out], hE⟩
  case round =>
    obtain ⟨k, hk, rfl, rfl, hEr⟩ := hrel
    have hel := esc_len (s.take k)
    have hol : (⟨(begin_ s ++ esc (s.take k)).toArray⟩ : ByteArray).size ≤ 67108864 := by
      rw [toArr_size, List.length_append]; rw [List.length_take] at hel; omega
    by_cases hlt : k < s.length
    · have ht := esc_take s k hlt
      have hb := ba_get s k
      have h1 := ba_one s k hlt
      generalize s.getD k 0 = c at ht hb h1
      have HT : Hid (begin_ s ++ esc (s.take (k + 1)) = (begin_ s ++ esc (s.take k)) ++ tok c) := Lib.hid (by rw [ht, List.append_assoc])
      generalize begin_ s ++ esc (s.take k) = O at hol HT
      clear ht hel
      by_cases c1 : c = 92
      · subst c1
        have hs2 : (⟨#[92, 92]⟩ : ByteArray).size ≤ 2 := Nat.le_refl _
        clear h1
        go_wp2_with fail
        go_roundw
        case rel => exact ⟨k + 1, by omega, by go_num, by rw [HT.out, ← ba_append]; rfl, hEr⟩
        case measure => simp [intOf]; omega
      · by_cases c2 : c = 10
        · subst c2
          have hs2 : (⟨#[92, 110]⟩ : ByteArray).size ≤ 2 := Nat.le_refl _
          clear h1
          go_wp2_with fail
          go_roundw
          case rel => exact ⟨k + 1, by omega, by go_num, by rw [HT.out, ← ba_append]; rfl, hEr⟩
          case measure => simp [intOf]; omega
        · have t1 : ((c.toNat : Int) == 92) = false := by rw [beq_eq_false_iff_ne]; intro e; exact c1 (UInt8.toNat_inj.1 (by simpa using Int.ofNat_inj.1 e))
          have t2 : ((c.toNat : Int) == 10) = false := by rw [beq_eq_false_iff_ne]; intro e; exact c2 (UInt8.toNat_inj.1 (by simpa using Int.ofNat_inj.1 e))
          have htk : tok c = [c] := by unfold tok; rw [if_neg c1, if_neg c2]
          rw [htk] at HT
          obtain ⟨bx, hbx⟩ : ∃ a : ByteArray, a = ⟨[c].toArray⟩ := ⟨_, rfl⟩
          have hs2 : bx.size ≤ 1 := by rw [hbx]; exact Nat.le_refl _
          rw [← hbx] at h1
          have HB := Lib.hid hbx
          clear hbx c1 c2 htk
          go_wp2_with fail
          go_roundw
          case rel => exact ⟨k + 1, by omega, by go_num, by rw [HT.out, ← ba_append, ← HB.out], hEr⟩
          case measure => simp [intOf]; omega
    · obtain rfl : k = s.length := by omega
      rw [List.take_length] at hol ⊢
      have HL : Hid ((⟨(begin_ s ++ esc s).toArray⟩ : ByteArray) ++ ⟨[10].toArray⟩ = ⟨(line s).toArray⟩) := Lib.hid (by rw [line_begin, ba_append, List.append_assoc])
      generalize (⟨(begin_ s ++ esc s).toArray⟩ : ByteArray) = O at hol HL
      go_wp2_with fail
      go_ret
      exact ⟨by rw [← HL.out]; rfl, hEr⟩
end Go.Proofs.YthppcmejffdicaaGreatDoor

/- The contract of the reference's reading of a line. -/
namespace Go.Proofs.YthppcmejffdicaaGreatDoor
open Go.RowKit Hach Num Jn

theorem txt_eq {x y : List UInt8} (h : (⟨x.toArray⟩ : ByteArray) = ⟨y.toArray⟩) : x = y := by
  injection h with h
  simpa using congrArg Array.toList h
theorem txt_beq (x y : List UInt8) : ((⟨x.toArray⟩ : ByteArray).toList == (⟨y.toArray⟩ : ByteArray).toList) = decide (x = y) := by
  by_cases h : x = y
  · subst h; simp
  · rw [decide_eq_false h, beq_eq_false_iff_ne]
    intro e
    exact h (txt_eq (eq_of_toList e))
theorem byte_ne {c : UInt8} {n : Nat} (h : c.toNat ≠ n) : ((c.toNat : Int) == (n : Int)) = false := by rw [beq_eq_false_iff_ne]; omega

set_option maxHeartbeats 1000000 in
theorem recordR_any (x : List UInt8) (hx : x.length < 16777216) (w : World) :
    Calls Tryz.prog 47 #[.string ⟨x.toArray⟩] w fun e w' => e = .returned (.tuple #[.string ⟨(rdec 0 x).toArray⟩, .bool (decide (line (rdec 0 x) = x))]) ∧ Ext w w' := by
  have hsz := toArr_size x
  go_enter Tryz.func47, Tryz.ntmps47
  go_wp2_with fail
  go_loopw [4, 5, 6] (fun bv v i wr => ∃ (b k : Nat) (O : List UInt8), k ≤ x.length ∧ b ≤ k ∧ O.length ≤ k ∧ bv = .int .i64 b ∧ i = .int .i64 k ∧ v = .string ⟨O.toArray⟩ ∧ Hid (O ++ rdec b (x.drop k) = rdec 0 x) ∧ Ext w wr) (fun _ _ i _ => x.length - (intOf i).toNat)
  case atStart => exact ⟨0, 0, [], Nat.zero_le _, Nat.le_refl _, Nat.le_refl _, rfl, rfl, rfl, Lib.hid rfl, Ext.refl _⟩
  case round =>
    obtain ⟨b, k, O, hk, hbk, hO, rfl, rfl, rfl, HR, hE⟩ := hrel
    have hol : (⟨O.toArray⟩ : ByteArray).size ≤ 16777216 := by rw [toArr_size]; omega
    by_cases hlt : k + 1 < x.length
    · obtain ⟨c, hc⟩ : ∃ c, x.getD k 0 = c := ⟨_, rfl⟩
      obtain ⟨d, hd⟩ : ∃ d, x.getD (k + 1) 0 = d := ⟨_, rfl⟩
      obtain ⟨r, hr⟩ : ∃ r, x.drop (k + 2) = r := ⟨_, rfl⟩
      have hdr : x.drop k = c :: d :: r := by
        rw [List.drop_eq_getElem_cons (show k < x.length by omega), List.drop_eq_getElem_cons hlt, ← hc, ← hd, ← hr]
        simp [List.getD, List.getElem?_eq_getElem (show k < x.length by omega), List.getElem?_eq_getElem hlt]
      have hdr1 : x.drop (k + 1) = d :: r := by
        rw [List.drop_eq_getElem_cons hlt, ← hd, ← hr]
        simp [List.getD, List.getElem?_eq_getElem hlt]
      have hb1 := ba_get x k
      have hb2 := ba_get x (k + 1)
      have h1 := ba_one x k (by omega)
      have h2 := ba_one x (k + 1) hlt
      rw [hc] at hb1 h1
      rw [hd] at hb2 h2
      obtain ⟨bx, hbx⟩ : ∃ a : ByteArray, a = ⟨[c].toArray⟩ := ⟨_, rfl⟩
      obtain ⟨bY, hby⟩ : ∃ a : ByteArray, a = ⟨[d].toArray⟩ := ⟨_, rfl⟩
      have hs1 : bx.size ≤ 1 := by rw [hbx]; exact Nat.le_refl _
      have hs2 : bY.size ≤ 1 := by rw [hby]; exact Nat.le_refl _
      have hs3 : (⟨#[10]⟩ : ByteArray).size ≤ 1 := Nat.le_refl _
      rw [← hbx] at h1
      rw [← hby] at h2
      have HBX := Lib.hid hbx
      have HBY := Lib.hid hby
      have HR' := HR.out
      rw [hdr] at HR'
      have HD1 := Lib.hid hdr1
      have HD2 := Lib.hid hr
      clear hbx hby hc hd hr hdr hdr1 HR
      by_cases hb : b < 2
      · rw [rdec, if_pos hb] at HR'
        have tb : decide ((b : Int) < 2) = true := by rw [decide_eq_true_iff]; omega
        by_cases hc : c = 32
        · rw [if_pos hc] at HR'
          subst hc
          have HN := Lib.hid HR'
          clear HR' h1 h2
          go_wp2_with fail
          go_roundw
          case rel => exact ⟨b + 1, k + 1, O, by omega, by omega, by omega, by go_num, by go_num, rfl, Lib.hid (by rw [HD1.out]; exact HN.out), hE⟩
          case measure => simp [intOf]; omega
        · rw [if_neg hc] at HR'
          have t1 : ((c.toNat : Int) == 32) = false := byte_ne (fun e => hc (UInt8.toNat_inj.1 e))
          have HN := Lib.hid HR'
          clear HR' h1 h2 hc
          go_wp2_with fail
          go_roundw
          case rel => exact ⟨b, k + 1, O, by omega, by omega, by omega, rfl, by go_num, rfl, Lib.hid (by rw [HD1.out]; exact HN.out), hE⟩
          case measure => simp [intOf]; omega
      · rw [rdec, if_neg hb] at HR'
        have tb : decide ((b : Int) < 2) = false := by rw [decide_eq_false_iff_not]; omega
        by_cases hc : c = 92
        · rw [if_pos hc] at HR'
          subst hc
          by_cases hd : d = 110
          · rw [if_pos hd] at HR'
            subst hd
            have HN := Lib.hid HR'
            clear HR' h1 h2
            go_wp2_with fail
            go_roundw
            case rel => exact ⟨b, k + 2, O ++ [10], by omega, by omega, by rw [List.length_append, List.length_singleton]; omega, rfl, by go_num, by rw [← ba_append], Lib.hid (by rw [HD2.out, List.append_assoc]; exact HN.out), hE⟩
            case measure => simp [intOf]; omega
          · rw [if_neg hd] at HR'
            have t2 : ((d.toNat : Int) == 110) = false := byte_ne (fun e => hd (UInt8.toNat_inj.1 e))
            have HN := Lib.hid HR'
            clear HR' h1 hd
            go_wp2_with fail
            go_roundw
            case rel => exact ⟨b, k + 2, O ++ [d], by omega, by omega, by rw [List.length_append, List.length_singleton]; omega, rfl, by go_num, by rw [← ba_append, ← HBY.out], Lib.hid (by rw [HD2.out, List.append_assoc]; exact HN.out), hE⟩
            case measure => simp [intOf]; omega
        · rw [if_neg hc] at HR'
          have t1 : ((c.toNat : Int) != 92) = true := by rw [bne_iff_ne]; intro e; exact hc (UInt8.toNat_inj.1 (by simpa using Int.ofNat_inj.1 e))
          have HN := Lib.hid HR'
          clear HR' h2 hc
          go_wp2_with fail
          go_roundw
          case rel => exact ⟨b, k + 1, O ++ [c], by omega, by omega, by rw [List.length_append, List.length_singleton]; omega, rfl, by go_num, by rw [← ba_append, ← HBX.out], Lib.hid (by rw [HD1.out, List.append_assoc]; exact HN.out), hE⟩
          case measure => simp [intOf]; omega
    · have hfin : rdec b (x.drop k) = [] := by
        have hl : (x.drop k).length ≤ 1 := by rw [List.length_drop]; omega
        match h : x.drop k with
        | [] => rfl
        | [c] => rfl
        | c :: d :: r => rw [h] at hl; simp at hl
      have HR' := HR.out
      rw [hfin, List.append_nil] at HR'
      have HRH := Lib.hid HR'
      clear hfin HR HR'
      go_wp2_with fail
      have hl : Calls Tryz.prog 31 #[.string ⟨O.toArray⟩] wr _ := lineR_any O (Nat.lt_of_le_of_lt (Nat.le_trans hO hk) hx) wr
      refine hl.mono ?_
      rintro e w2 ⟨rfl, hE2⟩
      have tq := txt_beq (line O) x
      have HV : Hid (.tuple #[.string ⟨(rdec 0 x).toArray⟩, .bool (decide (line (rdec 0 x) = x))] = (.tuple #[.string ⟨O.toArray⟩, .bool (decide (line O = x))] : Value)) := Lib.hid (by rw [← HRH.out])
      obtain ⟨xb, hxb⟩ : ∃ a : ByteArray, (⟨x.toArray⟩ : ByteArray) = a := ⟨_, rfl⟩
      obtain ⟨lb, hlb⟩ : ∃ a : ByteArray, (⟨(line O).toArray⟩ : ByteArray) = a := ⟨_, rfl⟩
      rw [hxb, hlb] at tq
      rw [hxb, hlb]
      generalize decide (line O = x) = t at tq HV
      clear hxb hlb HRH
      go_wp2_with fail
      go_ret2
      refine ⟨?_, hE.trans hE2⟩
      rw [HV.out]
      rfl
end Go.Proofs.YthppcmejffdicaaGreatDoor

/- Lists of strings that a call makes; the contract of the reference's Records. -/
namespace Go.Proofs.YthppcmejffdicaaGreatDoor
open Go.RowKit Hach Num Jn

theorem infoS : (Tryz.prog.info? 9).map (fun i => (i.zero, i.size, i.bytes)) = some (some (.string ⟨#[]⟩), 1, 16) := by kernel_rfl
def txv (x : List UInt8) : Value := .string ⟨x.toArray⟩
def OwnT (w : World) (base : Nat) (v : Value) (xs : List (List UInt8)) : Prop := w.ownsRow base 9 1 v xs.length (xs.map txv)
theorem OwnT.nil (w : World) (base : Nat) : OwnT w base (.slice none 0 0) [] := World.ownsRow_nil w base _ 1
theorem OwnT.keep {w w' : World} {base : Nat} {v : Value} {xs : List (List UInt8)} {row : Option Nat} (h : OwnT w base v xs) (hg : w.grownBy w' row) (hne : v.ownBlock = none ∨ v.ownBlock ≠ row) : OwnT w' base v xs := World.ownsRow.kept h hg hne
theorem OwnT.ext {w w' : World} {base : Nat} {v : Value} {xs : List (List UInt8)} (h : OwnT w base v xs) (hE : Ext w w') : OwnT w' base v xs := h.keep (grown_ext hE none) (by cases v.ownBlock <;> simp)
theorem OwnT.lt {w : World} {base : Nat} {v : Value} {xs : List (List UInt8)} (h : OwnT w base v xs) : ∀ g, v.ownBlock = some g → base ≤ g ∧ g < w.heap.size := World.ownsRow.lt h
theorem OwnT.other {w w' : World} {base b : Nat} {v : Value} {xs : List (List UInt8)} (h : OwnT w base v xs) (hg : w.grownBy w' (some b)) (hb : b < base) : OwnT w' base v xs :=
  h.keep hg (by
    cases hv : v.ownBlock with
    | none => exact .inl rfl
    | some g => right; have := (h.lt g hv).1; intro e; simp only [Option.some.injEq] at e; omega)
theorem app_T {ops : Array Oper} {rest : List Oper} {o : Oper} {a : Act} {w : World} {Q : Exit → Act → World → Prop} (hgd : o.guard = none) (s x : Tmp)
    (ho : o.op = .call { callee := .builtin .append, args := #[.tmp s, .tmp x], argTypes := #[36, 36] }) (base : Nat) (v : Value) (ss : List (List UInt8)) (hs : a.eval (.tmp s) = v) (hown : OwnT w base v ss)
    (g : Nat) (t : (List UInt8)) (hx : a.eval (.tmp x) = .slice (some ⟨g, 0, none⟩) 1 1) (hc : w.cell? ⟨g, 0, none⟩ = some (txv t)) (hl : ss.length < 4294967296) (hbase : base ≤ w.heap.size)
    (h : ∀ v' w', OwnT w' base v' (ss ++ [t]) → w.grownBy w' v.ownBlock → wpList Tryz.prog ops Q rest (a.put o.dst v') w') : wpList Tryz.prog ops Q (o :: rest) a w := by
  obtain ⟨i0, hi, hz0, hz1, hz2⟩ := info_parts infoS
  refine wpList_append_own w hgd _ _ _ ho base 9 i0 (.string ⟨#[]⟩) 1 16 Tryz.underlying36 hi hz0 hz1 hz2 rfl (by decide) v ss.length (ss.map txv) hs hown ⟨g, 0, none⟩ 1 1 [txv t] hx rfl ?_ ?_ ?_ ?_ hbase ?_
  · intro j u hu
    match j, hu with
    | 0, hu => simp at hu; subst hu; simpa [Addr.add] using hc
    | j + 1, hu => simp at hu
  · intro u hu; simp at hu; subst hu; rfl
  · simp only [maxLen]; omega
  · omega
  · intro v' w' h2 h3 _
    refine h v' w' ?_ h3
    unfold OwnT
    simpa using h2
/- an argument's row -/
def RowT (w : World) (B : Nat) (A : Option Addr) (n : Nat) (xs : List (List UInt8)) : Prop :=
  xs.length = n ∧ (0 < n → ∃ b o : Nat, A = some ⟨b, o, none⟩ ∧ b < B ∧ ∀ j, j < n → w.cell? ⟨b, o + j, none⟩ = some (txv (xs.getD j [])))
theorem RowT.ext {w w' : World} {A : Option Addr} {n : Nat} {xs : List (List UInt8)} (h : RowT w w.heap.size A n xs) (hE : Ext w w') : RowT w' w'.heap.size A n xs :=
  ⟨h.1, fun h0 => by
    obtain ⟨b, o, e, hb, hc⟩ := h.2 h0
    exact ⟨b, o, e, Nat.lt_of_lt_of_le hb hE.sz, fun j hj => (hE.old (p := ⟨b, o + j, none⟩) hb).trans (hc j hj)⟩⟩
theorem OwnT.form {w : World} {base : Nat} {v : Value} {xs : List (List UInt8)} (h : OwnT w base v xs) : ∃ A c, v = .slice A xs.length c ∧ RowT w w.heap.size A xs.length xs := by
  rcases h.2 with ⟨rfl, hn⟩ | ⟨g, cap, cur, rfl, hb, hg, r⟩
  · refine ⟨none, 0, by rw [hn], ?_⟩
    rw [hn]
    exact ⟨hn, fun h => absurd h (by omega)⟩
  · refine ⟨_, _, rfl, rfl, fun _ => ⟨g, 0, rfl, (Array.getElem?_eq_some_iff.1 hg).1, fun j hj => ?_⟩⟩
    have := World.ownsRow.cells h (g := g) rfl j (txv (xs.getD j [])) (by simp [List.getD, List.getElem?_eq_getElem hj])
    simpa [Addr.add_lit] using this

theorem ba_part (s : List UInt8) (a b : Nat) : (⟨s.toArray⟩ : ByteArray).extract a b = ⟨((s.drop a).take (b - a)).toArray⟩ := by
  apply ba_ext
  rw [ByteArray.data_extract]
  simp only [List.extract_toArray, List.extract_eq_take_drop]
set_option maxHeartbeats 1000000 in
theorem recordsR_any (s : List UInt8) (hs : s.length < 16777216) (w : World) :
    Calls Tryz.prog 34 #[.string ⟨s.toArray⟩] w fun e w' => ∃ v, e = .returned v ∧ OwnT w' w.heap.size v (recs s) ∧ Ext w w' := by
  have hsz := toArr_size s
  go_enter Tryz.func34, Tryz.ntmps34
  go_wp2_with fail
  go_loopw [3, 4, 5] (fun v fv i wr => ∃ (f k : Nat) (O : List (List UInt8)), f ≤ k ∧ k ≤ s.length ∧ O.length ≤ k ∧ OwnT wr w.heap.size v O ∧ fv = .int .i64 f ∧ i = .int .i64 k ∧ Hid ((10 : UInt8) ∉ (s.drop f).take (k - f)) ∧ Hid (recs s = O ++ recs (s.drop f)) ∧ Ext w wr) (fun _ _ i _ => s.length - (intOf i).toNat)
  case atStart => exact ⟨0, 0, [], Nat.le_refl _, Nat.zero_le _, Nat.le_refl _, OwnT.nil _ _, rfl, rfl, Lib.hid (by simp), Lib.hid (by simp), Ext.refl _⟩
  case round =>
    obtain ⟨f, k, O, hfk, hk, hOl, hO, rfl, rfl, HN, HR, hE⟩ := hrel
    by_cases hlt : k < s.length
    · obtain ⟨c, hc⟩ : ∃ c, s.getD k 0 = c := ⟨_, rfl⟩
      have hb := ba_get s k
      rw [hc] at hb
      have hseg : (s.drop f).take (k + 1 - f) = (s.drop f).take (k - f) ++ [c] := by
        rw [show k + 1 - f = (k - f) + 1 by omega, List.take_succ_eq_append_getElem (by rw [List.length_drop]; omega), ← hc]
        simp [List.getD, List.getElem?_eq_getElem hlt, show f + (k - f) = k by omega]
      have hdrop : s.drop f = (s.drop f).take (k - f) ++ c :: s.drop (k + 1) := by
        have h1 := (List.take_append_drop (k - f) (s.drop f)).symm
        rw [List.drop_drop, show f + (k - f) = k by omega, List.drop_eq_getElem_cons hlt] at h1
        have h2 : s[k] = c := by rw [← hc]; simp [List.getD, List.getElem?_eq_getElem hlt]
        rw [h2] at h1; exact h1
      have HS := Lib.hid hseg
      have HD := Lib.hid hdrop
      clear hc hseg hdrop
      by_cases hc : c = 10
      · subst hc
        have hp := ba_part s f (k + 1)
        rw [HS.out] at hp
        obtain ⟨sg, hsg⟩ : ∃ sg, (s.drop f).take (k - f) = sg := ⟨_, rfl⟩
        have hsl : (sg ++ [10]).length < 16777216 := by rw [← hsg, List.length_append, List.length_take, List.length_drop, List.length_singleton]; omega
        have HD' := HD.out
        have HN' := HN.out
        rw [hsg] at hp HD' HN'
        have hrec : recs (s.drop f) = (match recOf (sg ++ [10]) with | some r => [r] | none => []) ++ recs (s.drop (k + 1)) := by
          conv => lhs; rw [HD']
          exact recs_piece HN' _
        rw [recOf_rdec] at hrec
        have HREC := Lib.hid hrec
        clear hsg HD' HN' hrec HS HD HN
        generalize sg ++ [10] = p at hp hsl HREC
        go_wp2_with fail
        refine (recordR_any p hsl wr).mono ?_
        rintro e w2 ⟨rfl, hE2⟩
        have hO2 := hO.ext hE2
        have hz2 := (hE.trans hE2).sz
        generalize rdec 0 p = r at HREC
        by_cases ht : line r = p
        · have hd : decide (line r = p) = true := decide_eq_true ht
          rw [hd]
          have HR2 : Hid (recs s = (O ++ [r]) ++ recs (s.drop (k + 1))) := Lib.hid (by rw [HR.out, HREC.out, if_pos ht]; simp)
          have hbase : ∀ o : Obj, w.heap.size ≤ (w2.alloc o).heap.size := fun o => by rw [World.size_alloc]; omega
          clear ht hd HREC HR
          go_wp2_with (at_builtin; refine app_T rfl 28 30 rfl w.heap.size u3 O rfl (hO2.ext (Ext.alloc _ _)) w2.heap.size r rfl ((World.cell?_alloc_new _ _ _ _).trans rfl) (by omega) (hbase _) ?_; intro v' w5 hO' hg')
          have hE5 : Ext w w5 := ((hE.trans hE2).trans (Ext.alloc _ _)).below.grown hg' (hbase _) (fun g hg => (OwnT.lt hO2 g hg).1)
          go_roundw
          case rel => exact ⟨k + 1, k + 1, O ++ [r], Nat.le_refl _, by omega, by rw [List.length_append, List.length_singleton]; omega, hO', by go_num, by go_num, Lib.hid (by simp), HR2, hE5⟩
          case measure => simp [intOf]; omega
        · have hd : decide (line r = p) = false := decide_eq_false ht
          rw [hd]
          have HR2 : Hid (recs s = O ++ recs (s.drop (k + 1))) := Lib.hid (by rw [HR.out, HREC.out, if_neg ht]; simp)
          clear ht hd HREC HR
          go_wp2_with fail
          go_roundw
          case rel => exact ⟨k + 1, k + 1, O, Nat.le_refl _, by omega, by omega, hO2, by go_num, by go_num, Lib.hid (by simp), HR2, hE.trans hE2⟩
          case measure => simp [intOf]; omega
      · have t1 : ((c.toNat : Int) != 10) = true := by rw [bne_iff_ne]; intro e; exact hc (UInt8.toNat_inj.1 (by simpa using Int.ofNat_inj.1 e))
        have HN2 : Hid ((10 : UInt8) ∉ (s.drop f).take (k + 1 - f)) := Lib.hid (by
          rw [HS.out]; simp only [List.mem_append, List.mem_singleton, not_or]; exact ⟨HN.out, fun e => hc e.symm⟩)
        clear hc
        go_wp2_with fail
        go_roundw
        case rel => exact ⟨f, k + 1, O, by omega, by omega, by omega, hO, rfl, by go_num, HN2, HR, hE⟩
        case measure => simp [intOf]; omega
    · obtain rfl : k = s.length := by omega
      have hrs : recs s = O := by
        have h1 := HN.out
        rw [List.take_of_length_le (by rw [List.length_drop]; omega)] at h1
        rw [HR.out, recs_part h1, List.append_nil]
      have HRS := Lib.hid hrs
      clear hrs
      go_wp2_with fail
      go_ret
      exact ⟨_, rfl, by rw [HRS.out]; exact hO, hE⟩
end Go.Proofs.YthppcmejffdicaaGreatDoor

/- Contracts of the reference's Same, and of Count. -/
namespace Go.Proofs.YthppcmejffdicaaGreatDoor
open Go.RowKit Hach Num Jn

theorem ext_drewN (w : World) (k : Nat) : Ext w (w.drewN k) := ⟨rfl, rfl, rfl, Nat.le_refl _, fun _ _ => rfl⟩
set_option maxHeartbeats 400000 in
theorem same_T (A1 A2 : Option Addr) (n m c1 c2 : Nat) (xs ys : List (List UInt8)) (w : World) (hX : RowT w w.heap.size A1 n xs) (hY : RowT w w.heap.size A2 m ys) (hn : n < 9223372036854775808) (hm : m < 9223372036854775808) :
    Calls Tryz.prog 24 #[.slice A1 n c1, .slice A2 m c2] w fun e w' => e = .returned (.bool (decide (xs = ys))) ∧ Ext w w' := by
  have hxl := hX.1
  have hyl := hY.1
  by_cases hnm : n = m
  · subst hnm
    have tn : ((n : Int) != n) = false := by simp
    go_enter Tryz.func24, Tryz.ntmps24
    go_wp2_with fail
    go_loopw [5] (fun i wr => ∃ k : Nat, k ≤ n ∧ i = .int .i64 k ∧ Hid (xs.take k = ys.take k) ∧ Ext w wr) (fun i _ => n - (intOf i).toNat)
    case atStart => exact ⟨0, Nat.zero_le _, rfl, rfl, Ext.refl _⟩
    case round =>
      obtain ⟨k, hk, rfl, HAB, hE⟩ := hrel
      by_cases hlt : k < n
      · obtain ⟨b1, o1, rfl, hb1, hc1⟩ := hX.2 (by omega)
        obtain ⟨b2, o2, rfl, hb2, hc2⟩ := hY.2 (by omega)
        have hx1 : wr.cell? ⟨b1, o1 + k, none⟩ = some (txv (xs.getD k [])) := (hE.old (p := ⟨b1, o1 + k, none⟩) hb1).trans (hc1 k hlt)
        have hx2 : wr.cell? ⟨b2, o2 + k, none⟩ = some (txv (ys.getD k [])) := (hE.old (p := ⟨b2, o2 + k, none⟩) hb2).trans (hc2 k hlt)
        have H1 := Lib.hid (show xs.take (k + 1) = xs.take k ++ [xs.getD k []] from by
          rw [List.take_succ_eq_append_getElem (show k < xs.length by omega)]; simp [List.getD, List.getElem?_eq_getElem (show k < xs.length by omega)])
        have H2 := Lib.hid (show ys.take (k + 1) = ys.take k ++ [ys.getD k []] from by
          rw [List.take_succ_eq_append_getElem (show k < ys.length by omega)]; simp [List.getD, List.getElem?_eq_getElem (show k < ys.length by omega)])
        clear hc1 hc2
        generalize xs.getD k [] = x at hx1 H1
        generalize ys.getD k [] = y at hx2 H2
        unfold txv at hx1 hx2
        obtain ⟨xv, hxv⟩ : ∃ xv : ByteArray, (⟨x.toArray⟩ : ByteArray) = xv := ⟨_, rfl⟩
        obtain ⟨yv, hyv⟩ : ∃ yv : ByteArray, (⟨y.toArray⟩ : ByteArray) = yv := ⟨_, rfl⟩
        rw [hxv] at hx1
        rw [hyv] at hx2
        by_cases hxy : x = y
        · have t1 : (xv.toList == yv.toList) = true := by rw [← hxv, ← hyv, hxy]; simp
          have t2 : (xv.toList != yv.toList) = false := by rw [← hxv, ← hyv, hxy]; simp
          have HXY := Lib.hid hxy
          clear hxy
          go_wp2_with fail
          go_quiet (fail)
          go_wp2_with fail
          go_roundw
          case rel => exact ⟨k + 1, by omega, by go_num, Lib.hid (by rw [H1.out, H2.out, HAB.out, HXY.out]), hE.trans (ext_drewN _ _)⟩
          case measure => simp [intOf]; omega
        · have t1 : (xv.toList == yv.toList) = false := by rw [beq_eq_false_iff_ne]; intro e; have e2 := eq_of_toList e; rw [← hxv, ← hyv] at e2; exact hxy (txt_eq e2)
          have t2 : (xv.toList != yv.toList) = true := by rw [bne, t1]; rfl
          have HXY := Lib.hid hxy
          clear hxy
          go_wp2_with fail
          go_quiet (fail)
          go_wp2_with fail
          go_ret
          refine ⟨?_, hE.trans (ext_drewN _ _)⟩
          show Ending.returned (.bool false) = _
          rw [decide_eq_false_iff_not.2]
          intro e
          have h1 := H1.out
          rw [HAB.out, e, H2.out] at h1
          have := List.append_cancel_left h1
          simp at this
          exact HXY.out this.symm
      · obtain rfl : k = n := by omega
        have HF : decide (xs = ys) = true := by
          rw [decide_eq_true_iff]
          have h := HAB.out
          rwa [List.take_of_length_le (by omega), List.take_of_length_le (by omega)] at h
        have HF := Lib.hid HF
        go_wp2_with fail
        go_ret
        rw [HF.out]
        exact ⟨rfl, hE⟩
  · have tn : ((n : Int) != m) = true := by rw [bne_iff_ne]; omega
    have HF : decide (xs = ys) = false := by
      rw [decide_eq_false_iff_not]
      intro e
      rw [e] at hxl
      omega
    rw [HF]
    clear hnm
    go_enter Tryz.func24, Tryz.ntmps24
    go_wp2_with fail
    go_ret
    exact ⟨rfl, Ext.refl _⟩

/- a log in memory -/
def LgAt (T : TypeId) (w : World) (b : Nat) (d : Option Nat) (n : Nat) (broken : Bool) : Prop := w.heap[b]? = some (.cells #[.pointer (d.map fun x => ⟨x, 0, none⟩), .int .i64 (n : Nat), .bool broken] T (0, 0))
theorem LgAt.cell {T : TypeId} {w : World} {b n : Nat} {d : Option Nat} {br : Bool} (h : LgAt T w b d n br) : w.cell? ⟨b, 0, none⟩ = some (.pointer (d.map fun x => ⟨x, 0, none⟩)) ∧ w.cell? ⟨b, 1, none⟩ = some (.int .i64 (n : Nat)) ∧ w.cell? ⟨b, 2, none⟩ = some (.bool br) := by
  have h' : w.heap[b]? = _ := h
  exact ⟨by simp [World.cell?, h'], by simp [World.cell?, h'], by simp [World.cell?, h']⟩
theorem LgAt.free {T : TypeId} {w : World} {b n : Nat} {d : Option Nat} {br : Bool} (h : LgAt T w b d n br) (o : Nat) : w.frozen? ⟨b, o, none⟩ = false := by simp [World.frozen?, show w.heap[b]? = _ from h]
theorem LgAt.lt {T : TypeId} {w : World} {b n : Nat} {d : Option Nat} {br : Bool} (h : LgAt T w b d n br) : b < w.heap.size := (Array.getElem?_eq_some_iff.1 h).1
theorem LgAt.ext {T : TypeId} {w w' : World} {b n : Nat} {d : Option Nat} {br : Bool} (h : LgAt T w b d n br) (hE : Ext w w') : LgAt T w' b d n br := (hE.below.block b h.lt).trans h
theorem LgAt.own {T : TypeId} {w w' : World} {b n : Nat} {d : Option Nat} {br : Bool} {r : Option Nat} (h : LgAt T w b d n br) (hg : w.grownBy w' r) (hb : some b ≠ r) : LgAt T w' b d n br := (hg.block b h.lt hb).trans h
theorem count_p (b n : Nat) (d : Option Nat) (br : Bool) (w : World) (h : LgAt 62 w b d n br) : Calls Tryz.prog 29 #[.pointer (some ⟨b, 0, none⟩)] w fun e w' => e = .returned (.int .i64 (n : Nat)) ∧ w' = w := by
  obtain ⟨_, c1, _⟩ := h.cell
  go_enter Tryz.func29, Tryz.ntmps29
  go_wp2_with fail
  go_ret
  exact ⟨rfl, rfl⟩
theorem count_nil_p (w : World) : Calls Tryz.prog 29 #[.pointer none] w fun e w' => e = .returned (.int .i64 0) ∧ w' = w := by
  go_enter Tryz.func29, Tryz.ntmps29
  go_wp2_with fail
  go_ret
  exact ⟨rfl, rfl⟩
theorem count_r (b n : Nat) (d : Option Nat) (br : Bool) (w : World) (h : LgAt 75 w b d n br) : Calls Tryz.prog 30 #[.pointer (some ⟨b, 0, none⟩)] w fun e w' => e = .returned (.int .i64 (n : Nat)) ∧ w' = w := by
  obtain ⟨_, c1, _⟩ := h.cell
  go_enter Tryz.func30, Tryz.ntmps30
  go_wp2_with fail
  go_ret
  exact ⟨rfl, rfl⟩
theorem count_nil_r (w : World) : Calls Tryz.prog 30 #[.pointer none] w fun e w' => e = .returned (.int .i64 0) ∧ w' = w := by
  go_enter Tryz.func30, Tryz.ntmps30
  go_wp2_with fail
  go_ret
  exact ⟨rfl, rfl⟩
end Go.Proofs.YthppcmejffdicaaGreatDoor

/- The contract of the reference's Append. -/
namespace Go.Proofs.YthppcmejffdicaaGreatDoor
open Go.RowKit Hach Num Jn

/- all blocks but those of S stay -/
structure KB (S : List Nat) (w w' : World) : Prop where
  os : w'.os = w.os
  tape : w'.tape = w.tape
  output : w'.output = w.output
  size : w.heap.size ≤ w'.heap.size
  block : ∀ k, k < w.heap.size → k ∉ S → w'.heap[k]? = w.heap[k]?
theorem KB.refl (S : List Nat) (w : World) : KB S w w := ⟨rfl, rfl, rfl, Nat.le_refl _, fun _ _ _ => rfl⟩
theorem KB.trans {S : List Nat} {u v w : World} (h : KB S u v) (k : KB S v w) : KB S u w :=
  ⟨k.os.trans h.os, k.tape.trans h.tape, k.output.trans h.output, Nat.le_trans h.size k.size, fun i hi hS => (k.block i (Nat.lt_of_lt_of_le hi h.size) hS).trans (h.block i hi hS)⟩
theorem KB.ext {S : List Nat} {w w' : World} (h : Ext w w') : KB S w w' := ⟨h.os, h.tape, h.output, h.size, fun k hk _ => h.block k hk⟩
theorem KB.grown {S : List Nat} {w w' : World} {b : Nat} (h : w.grownBy w' (some b)) (hb : b ∈ S) : KB S w w' :=
  ⟨h.os, h.tape, h.output, h.size, fun k hk hS => h.block k hk (fun e => hS (by simp only [Option.some.injEq] at e; rw [e]; exact hb))⟩

theorem write_ok {d : Dk} (h : DkOk d) {s : List UInt8} (hs : d.text.length + s.length < 281474976710656) : DkOk (d.write s).2 := by
  obtain ⟨t1, t2, _⟩ := works_cases d
  have hw := works_ok h
  unfold Dk.write
  split
  · exact ⟨by have := hw.pend; simp; omega, by simp; rw [t1]; exact hs, hw.lo, hw.hi, hw.go⟩
  · exact hw
/- what Append comes to: the answer, the disk, the count, whether the log is broken -/
def appRes (d : Dk) (n : Nat) (br : Bool) (ln : List UInt8) : Int × Dk × Nat × Bool :=
  if br then (63, d, n, true) else if 262144 < d.text.length + ln.length then (2, d, n, false) else if (d.put ln).1 then (0, (d.put ln).2, n + 1, false) else (63, (d.put ln).2, n, true)

set_option maxHeartbeats 1000000 in
theorem appendR_any (b bd n : Nat) (d : Dk) (br : Bool) (s : List UInt8) (w : World) (hL : LgAt 75 w b (some bd) n br) (hD : DkAt 68 w bd d) (hne : b ≠ bd) (hk : DkOk d) (hs : s.length < 16777216) (ht : d.text.length < 1073741824) (hn : n < 1073741824) :
    Calls Tryz.prog 26 #[.pointer (some ⟨b, 0, none⟩), .string ⟨s.toArray⟩] w fun e w' => e = .returned (.int .i64 (appRes d n br (line s)).1) ∧ DkAt 68 w' bd (appRes d n br (line s)).2.1 ∧ LgAt 75 w' b (some bd) (appRes d n br (line s)).2.2.1 (appRes d n br (line s)).2.2.2 ∧ KB [b, bd] w w' := by
  obtain ⟨c0, c1, c2⟩ := hL.cell
  simp only [Option.map_some] at c0
  cases br with
  | true =>
    go_enter Tryz.func26, Tryz.ntmps26
    go_wp2_with fail
    go_ret
    exact ⟨rfl, hD, hL, KB.refl _ _⟩
  | false =>
    have hll : (line s).length < 67108864 := by
      have h1 := esc_len s
      have h2 := head_len (s := s) (by omega)
      have h3 : (hexl (dgl s)).length = 16 := by rw [hexl_len, dgl_length]
      unfold line
      simp only [List.length_append, List.length_cons, List.length_nil, h3]; omega
    go_enter Tryz.func26, Tryz.ntmps26
    go_wp2_with fail
    refine (lineR_any s hs w).mono ?_
    rintro e w1 ⟨rfl, hE1⟩
    have hL1 := hL.ext hE1
    have hD1 := hD.ext hE1
    obtain ⟨k0, k1, k2⟩ := hL1.cell
    simp only [Option.map_some] at k0
    obtain ⟨d0, _, _, _, _⟩ := hD1.cell
    have hz1 := toArr_size d.text
    have hz2 := toArr_size (line s)
    obtain ⟨ln, hln⟩ : ∃ ln, line s = ln := ⟨_, rfl⟩
    rw [hln] at hll hz2
    rw [hln]
    have HLN := Lib.hid hln
    clear hln
    by_cases hbig : 262144 < d.text.length + ln.length
    · have hr : appRes d n false ln = (2, d, n, false) := by unfold appRes; simp [hbig]
      have tb : decide ((262144 : Int) < (d.text.length : Int) + (ln.length : Nat)) = true := by rw [decide_eq_true_iff]; omega
      have HR := Lib.hid hr
      clear hbig hr
      go_wp2_with fail
      go_ret
      rw [HLN.out, HR.out]
      exact ⟨rfl, hD1, hL1, KB.ext hE1⟩
    · have tb : decide ((262144 : Int) < (d.text.length : Int) + (ln.length : Nat)) = false := by rw [decide_eq_false_iff_not]; omega
      have hwk := write_ok (s := ln) hk (by omega)
      have hr : appRes d n false ln = if (d.write ln).1 then (if ((d.write ln).2.sync).1 then (0, (d.write ln).2.sync.2, n + 1, false) else (63, (d.write ln).2.sync.2, n, true)) else (63, (d.write ln).2, n, true) := by
        unfold appRes Dk.put
        simp only [Bool.false_eq_true, if_false, if_neg hbig]
        split <;> rfl
      clear hbig
      have hwr := write_r bd d ln w1 hD1 hk (by omega)
      obtain ⟨ok, d2, he⟩ : ∃ ok d2, d.write ln = (ok, d2) := ⟨_, _, rfl⟩
      rw [he] at hwr hwk hr
      simp only at hwr hwk hr
      have HW := Lib.hid hwr
      have HR := Lib.hid hr
      clear he hwr hr
      go_wp2_with fail
      refine HW.out.mono ?_
      rintro e w2 ⟨rfl, hD2, hg2⟩
      have hL2 := hL1.own hg2 (by simp; exact hne)
      obtain ⟨l0, l1, l2⟩ := hL2.cell
      simp only [Option.map_some] at l0
      have f1 := hL2.free 1
      have f2 := hL2.free 2
      have hkb2 : KB [b, bd] w w2 := (KB.ext hE1).trans (KB.grown hg2 (by simp))
      cases ok with
      | false =>
        go_wp2_with fail
        go_ret
        rw [HLN.out, HR.out]
        exact ⟨rfl, hD2.own (grown_set w2 b 2 _) (by simp; exact fun e => hne e.symm), heap_setCell_same w2 b 2 _ _ (.bool true) hL2, hkb2.trans (KB.grown (grown_set w2 b 2 _) (by simp))⟩
      | true =>
        have hr := HR.out
        simp only [if_true] at hr
        have hsy := sync_r bd d2 w2 hD2 hwk
        obtain ⟨ok3, d3, he⟩ : ∃ ok3 d3, d2.sync = (ok3, d3) := ⟨_, _, rfl⟩
        rw [he] at hsy hr
        simp only at hsy hr
        have HS := Lib.hid hsy
        have HR3 := Lib.hid hr
        clear he hsy hr HR
        go_wp2_with fail
        refine HS.out.mono ?_
        rintro e w3 ⟨rfl, hD3, hg3⟩
        have hL3 := hL2.own hg3 (by simp; exact hne)
        obtain ⟨m0, m1, m2⟩ := hL3.cell
        simp only [Option.map_some] at m0
        have g1 := hL3.free 1
        have g2 := hL3.free 2
        have hkb3 := hkb2.trans (KB.grown hg3 (by simp))
        cases ok3 with
        | false =>
          go_wp2_with fail
          go_ret
          rw [HLN.out, HR3.out]
          exact ⟨rfl, hD3.own (grown_set w3 b 2 _) (by simp; exact fun e => hne e.symm), heap_setCell_same w3 b 2 _ _ (.bool true) hL3, hkb3.trans (KB.grown (grown_set w3 b 2 _) (by simp))⟩
        | true =>
          go_wp2_with fail
          go_ret
          rw [HLN.out, HR3.out]
          exact ⟨rfl, hD3.own (grown_set w3 b 1 _) (by simp; exact fun e => hne e.symm), heap_setCell_same w3 b 1 _ _ (.int .i64 ((n : Int) + 1)) hL3, hkb3.trans (KB.grown (grown_set w3 b 1 _) (by simp))⟩
end Go.Proofs.YthppcmejffdicaaGreatDoor
