/- Contracts of the digests' functions, in the program and in the reference. -/
import Derived.Test.YtncdnopnjdbleaaDb
import Derived.Test.YtncdnopnjdbleaaDc
import Derived.Test.YtncdnopnjdbleaaShelf
namespace Go.Proofs.Ytncdnopnjdbleaa
open Go.RowKit Hach

set_option maxHeartbeats 400000 in
theorem clone_any (s : ByteArray) (w : World) (h : s.size < 4294967296) :
    Calls Try.prog 40 #[.string s] w fun e w' => e = .returned (.string s) ∧ Below w.heap.size w w' := by
  go_enter Try.func40, Try.ntmps40
  go_wp2_with fail
  refine (Try.stringslite_Clone _ _ (by omega)).mono ?_
  rintro e w1 ⟨rfl, hb1⟩
  go_wp2_with fail
  go_ret
  exact ⟨rfl, hb1⟩

set_option maxHeartbeats 400000 in
theorem text_any (l : List UInt8) (w : World) :
    Calls Try.prog 32 #[dgv l] w fun e w' => e = .returned (.string (dgs l)) ∧ Below w.heap.size w w' := by
  have hc := run_convert_bytes_arg (P := Try.prog) (w.alloc (.cells #[.int .u8 (dgb l 0 : Nat), .int .u8 (dgb l 1 : Nat), .int .u8 (dgb l 2 : Nat), .int .u8 (dgb l 3 : Nat), .int .u8 (dgb l 4 : Nat), .int .u8 (dgb l 5 : Nat), .int .u8 (dgb l 6 : Nat), .int .u8 (dgb l 7 : Nat)] 52)) 32 5 Try.underlying32 Try.underlying5 w.heap.size 0 8 8 [(dgb l 0 : Int), dgb l 1, dgb l 2, dgb l 3, dgb l 4, dgb l 5, dgb l 6, dgb l 7] rfl (by
    intro i hi
    rw [World.cell?_alloc_new]
    match i, hi with
    | 0, _ => rfl
    | 1, _ => rfl
    | 2, _ => rfl
    | 3, _ => rfl
    | 4, _ => rfl
    | 5, _ => rfl
    | 6, _ => rfl
    | 7, _ => rfl) 9 Try.underlying9
  have e : strOfNums [(dgb l 0 : Int), dgb l 1, dgb l 2, dgb l 3, dgb l 4, dgb l 5, dgb l 6, dgb l 7] = dgs l := by
    rw [← dgs_of]; simp [strOfNums]
  rw [e] at hc
  clear e
  unfold dgv
  go_enter Try.func32, Try.ntmps32
  go_wp2_with fail
  refine (clone_any _ _ (by rw [dgs_size]; omega)).mono ?_
  rintro e w1 ⟨rfl, hb1⟩
  go_wp2_with fail
  go_ret
  exact ⟨rfl, (below_alloc _ _).trans (hb1.mono (by simp))⟩

/- 'of' at a list that has just been written down -/
theorem of_lit (ss : List ByteArray) (n c : Nat) (cs : Array Value) (w : World) (hcs : cs = (ss.map Value.string).toArray) (hn : n = ss.length) (hl : ss.length < 4294967296) (hs : Sm ss) :
    Calls Try.prog 31 #[.slice (some ⟨w.heap.size, 0, none⟩) n c] (w.alloc (.cells cs 9)) fun e w' => e = .returned (dgv (cat ss)) ∧ Below w.heap.size w w' := by
  subst hn
  refine (of_any _ _ c ss _ (by rw [World.size_alloc]; exact Strs.new w ss _ _ cs hcs) hl hs).mono ?_
  rintro e w' ⟨he, hb⟩
  exact ⟨he, (below_alloc _ _).trans (hb.mono (by simp))⟩

set_option maxHeartbeats 400000 in
theorem Of_any (s : ByteArray) (w : World) (h : s.size < 4294967296) :
    Calls Try.prog 12 #[.string s] w fun e w' => e = .returned (.string (dg s)) ∧ Below w.heap.size w w' := by
  go_enter Try.func12, Try.ntmps12
  go_wp2_with fail
  refine (of_lit [s] _ _ _ w rfl rfl (by simp) (.cons h .nil)).mono ?_
  rintro e w1 ⟨rfl, hb1⟩
  go_wp2_with fail
  refine (text_any _ _).mono ?_
  rintro e w2 ⟨rfl, hb2⟩
  go_wp2_with fail
  go_ret
  exact ⟨by rw [cat_one]; rfl, hb1.trans (hb2.mono hb1.size)⟩

set_option maxHeartbeats 400000 in
theorem Chain_any (b s : ByteArray) (w : World) (h : b.size < 4294967296) (h2 : s.size < 4294967296) :
    Calls Try.prog 14 #[.string b, .string s] w fun e w' => e = .returned (.string (chn b s)) ∧ Below w.heap.size w w' := by
  go_enter Try.func14, Try.ntmps14
  go_wp2_with fail
  refine (length_any _ _ h).mono ?_
  rintro e w1 ⟨rfl, hb1⟩
  go_wp2_with fail
  refine (of_lit [⟨#[1]⟩, b4 b.size, b, s] _ _ _ w1 rfl rfl (by simp) (.cons (Nat.lt_of_sub_pos (by decide)) (.cons (by rw [b4_size]; omega) (.cons h (.cons h2 .nil))))).mono ?_
  rintro e w2 ⟨rfl, hb2⟩
  go_wp2_with fail
  refine (text_any _ _).mono ?_
  rintro e w3 ⟨rfl, hb3⟩
  go_wp2_with fail
  go_ret
  have h12 := hb1.trans (hb2.mono hb1.size)
  exact ⟨by rw [chn_cat]; rfl, h12.trans (hb3.mono h12.size)⟩

set_option maxHeartbeats 400000 in
theorem marked_any (k m : ByteArray) (w : World) (h : k.size < 4294967296) (h2 : m.size < 4294967296) :
    Calls Try.prog 35 #[.string k, .string m] w fun e w' => e = .returned (dgv (cat [⟨#[2]⟩, b4 k.size, k, m, k])) ∧ Below w.heap.size w w' := by
  go_enter Try.func35, Try.ntmps35
  go_wp2_with fail
  refine (length_any _ _ h).mono ?_
  rintro e w1 ⟨rfl, hb1⟩
  have hz1 : w.heap.size < w1.heap.size := by have := hb1.size; simp at this; omega
  go_wp2_with fail
  refine (of_lit [⟨#[2]⟩, b4 k.size, k, m, k] _ _ _ w1 rfl rfl (by simp) (.cons (Nat.lt_of_sub_pos (by decide)) (.cons (by rw [b4_size]; omega) (.cons h (.cons h2 (.cons h .nil)))))).mono ?_
  rintro e w2 ⟨rfl, hb2⟩
  have h12 := hb1.trans (hb2.mono hb1.size)
  have hz : w.heap.size < w2.heap.size := by have := hb2.size; omega
  have hw0 : w2.heap[w.heap.size]? = some zero8 := (h12.block w.heap.size (by simp)).trans (heap_alloc_new w _)
  have hB : Below w.heap.size w w2 := (below_alloc w zero8).trans (h12.mono (by simp))
  clear h12 hb1 hb2
  generalize hL : cat [⟨#[2]⟩, b4 k.size, k, m, k] = L
  have HL := Lib.hid hL
  clear hL
  unfold dgv
  have hcz : ∀ (j : Nat), j < 8 → w2.cell? ⟨w.heap.size, j, none⟩ = some (.int .u8 0) := fun j hj => zero8_cell hw0 hj
  have hfz : ∀ (j : Nat), w2.frozen? ⟨w.heap.size, j, none⟩ = false := fun j => zero8_free hw0 j
  have q0 := hcz 0 (by omega)
  have q1 := hcz 1 (by omega)
  have q2 := hcz 2 (by omega)
  have q3 := hcz 3 (by omega)
  have q4 := hcz 4 (by omega)
  have q5 := hcz 5 (by omega)
  have q6 := hcz 6 (by omega)
  have q7 := hcz 7 (by omega)
  clear hcz hw0
  go_wp2_with fail
  refine bodyPost_ret (v := dgv L) (by simp only [results, Try.results35, dgv]; go_simp) rfl ⟨by rw [HL.out], ?_⟩
  exact ((((((((hB.setCell (p := ⟨w.heap.size, 0, none⟩) (Nat.le_refl _) _).setCell (p := ⟨w.heap.size, 1, none⟩) (Nat.le_refl _) _).setCell (p := ⟨w.heap.size, 2, none⟩) (Nat.le_refl _) _).setCell (p := ⟨w.heap.size, 3, none⟩) (Nat.le_refl _) _).setCell (p := ⟨w.heap.size, 4, none⟩) (Nat.le_refl _) _).setCell (p := ⟨w.heap.size, 5, none⟩) (Nat.le_refl _) _).setCell (p := ⟨w.heap.size, 6, none⟩) (Nat.le_refl _) _).setCell (p := ⟨w.heap.size, 7, none⟩) (Nat.le_refl _) _)

set_option maxHeartbeats 400000 in
theorem Mark_any (k m : ByteArray) (w : World) (h : k.size < 4294967296) (h2 : m.size < 4294967296) :
    Calls Try.prog 20 #[.string k, .string m] w fun e w' => e = .returned (.string (mrk k m)) ∧ Below w.heap.size w w' := by
  go_enter Try.func20, Try.ntmps20
  go_wp2_with fail
  refine (marked_any _ _ _ h h2).mono ?_
  rintro e w1 ⟨rfl, hb1⟩
  go_wp2_with fail
  refine (text_any _ _).mono ?_
  rintro e w2 ⟨rfl, hb2⟩
  go_wp2_with fail
  go_ret
  exact ⟨by rw [mrk_cat]; rfl, hb1.trans (hb2.mono hb1.size)⟩

/- ### the reference -/
set_option maxHeartbeats 400000 in
theorem rOf_any (s : ByteArray) (w : World) (h : s.size < 4294967296) :
    Calls Try.prog 13 #[.string s] w fun e w' => e = .returned (.string (dg s)) ∧ Below w.heap.size w w' := by
  go_enter Try.func13, Try.ntmps13
  go_wp2_with fail
  go_loop [3, 4, 5] (fun x y i => ∃ j : Nat, j ≤ s.size ∧ i = .int .i64 j ∧ x = .int .i64 (rX (s.data.toList.take j)) ∧ y = .int .i64 (rY (s.data.toList.take j))) (fun _ _ i => s.size - (intOf i).toNat)
  case atStart => exact ⟨0, Nat.zero_le _, rfl, rfl, rfl⟩
  case round =>
    obtain ⟨j, hj, rfl, rfl, rfl⟩ := hrel
    have hx2 := rX_lt (s.data.toList.take j)
    have hy2 := rY_lt (s.data.toList.take j)
    by_cases hlt2 : j < s.size
    · have hx : s.data.toList.take (j + 1) = s.data.toList.take j ++ [s.data[j]'hlt2] := by
        rw [List.take_succ_eq_append_getElem (by simpa using hlt2)]; simp
      have HX := Lib.hid hx
      clear hx
      have hb8 : (s[j]'hlt2).toNat < 256 := UInt8.toNat_lt _
      go_wp2_with fail
      go_round
      case rel =>
        have hs1 : rX (s.data.toList.take (j + 1)) = (48271 * rX (s.data.toList.take j) + (s[j]'hlt2).toNat + 1) % 2147483647 := by rw [HX.out, rX_snoc]; rfl
        have hs2 : rY (s.data.toList.take (j + 1)) = (40692 * rY (s.data.toList.take j) + (s[j]'hlt2).toNat + 1) % 2147483629 := by rw [HX.out, rY_snoc]; rfl
        exact ⟨j + 1, by omega, by go_num, by rw [hs1]; go_num, by rw [hs2]; go_num⟩
      case measure => simp [intOf]; omega
    · go_wp2_with fail
      refine (bytes4_any _ _ (by omega)).mono ?_
      rintro e w1 ⟨rfl, hb1⟩
      go_wp2_with fail
      refine (bytes4_any _ _ (by omega)).mono ?_
      rintro e w2 ⟨rfl, hb2⟩
      go_wp2_with fail
      go_ret
      have e : s.data.toList.take j = s.data.toList := List.take_of_length_le (by simp; exact Nat.le_of_not_lt hlt2)
      exact ⟨by rw [e, dg_eq]; rfl, hb1.trans (hb2.mono hb1.size)⟩

set_option maxHeartbeats 400000 in
theorem rChain_any (b s : ByteArray) (w : World) (h : b.size < 429496729) (h2 : s.size < 429496729) :
    Calls Try.prog 15 #[.string b, .string s] w fun e w' => e = .returned (.string (chn b s)) ∧ Below w.heap.size w w' := by
  have hz4 := b4_size b.size
  go_enter Try.func15, Try.ntmps15
  go_wp2_with fail
  refine (bytes4_any _ _ (by omega)).mono ?_
  rintro e w1 ⟨rfl, hb1⟩
  go_wp2_with fail
  refine (rOf_any _ _ (by rw [ByteArray.size_append, ByteArray.size_append, ByteArray.size_append, b4_size]; have : (⟨#[1]⟩ : ByteArray).size = 1 := rfl; omega)).mono ?_
  rintro e w2 ⟨rfl, hb2⟩
  go_wp2_with fail
  go_ret
  exact ⟨rfl, hb1.trans (hb2.mono hb1.size)⟩

set_option maxHeartbeats 400000 in
theorem rMark_any (k m : ByteArray) (w : World) (h : k.size < 429496729) (h2 : m.size < 429496729) :
    Calls Try.prog 16 #[.string k, .string m] w fun e w' => e = .returned (.string (mrk k m)) ∧ Below w.heap.size w w' := by
  have hz4 := b4_size k.size
  go_enter Try.func16, Try.ntmps16
  go_wp2_with fail
  refine (bytes4_any _ _ (by omega)).mono ?_
  rintro e w1 ⟨rfl, hb1⟩
  go_wp2_with fail
  refine (rOf_any _ _ (by rw [ByteArray.size_append, ByteArray.size_append, ByteArray.size_append, ByteArray.size_append, b4_size]; have : (⟨#[2]⟩ : ByteArray).size = 1 := rfl; omega)).mono ?_
  rintro e w2 ⟨rfl, hb2⟩
  go_wp2_with fail
  go_ret
  exact ⟨rfl, hb1.trans (hb2.mono hb1.size)⟩

set_option maxHeartbeats 400000 in
theorem rLeaf_any (s : ByteArray) (w : World) (h : s.size < 429496729) :
    Calls Try.prog 30 #[.string s] w fun e w' => e = .returned (.string (lf s)) ∧ Below w.heap.size w w' := by
  go_enter Try.func30, Try.ntmps30
  go_wp2_with fail
  refine (rOf_any _ _ (by simp only [ByteArray.size_append]; have : (⟨#[3]⟩ : ByteArray).size = 1 := rfl; omega)).mono ?_
  rintro e w2 ⟨rfl, hb2⟩
  go_wp2_with fail
  go_ret
  exact ⟨rfl, hb2⟩

/- Check, in the reference -/
set_option maxHeartbeats 400000 in
theorem rCheck_any (k m x : ByteArray) (w : World) (h : k.size < 429496729) (h2 : m.size < 429496729) :
    Calls Try.prog 19 #[.string k, .string m, .string x] w fun e w' => e = .returned (.bool (chk k m x)) ∧ Below w.heap.size w w' := by
  by_cases hk : k.toList = []
  · have hk2 : (!k.toList.isEmpty) = false := by rw [hk]; rfl
    go_enter Try.func19, Try.ntmps19
    go_wp2_with fail
    go_ret
    exact ⟨by simp [chk, hk], Below.refl _ _⟩
  · have hk2 : (!k.toList.isEmpty) = true := by simp [hk]
    go_enter Try.func19, Try.ntmps19
    go_wp2_with fail
    refine (rMark_any _ _ _ h h2).mono ?_
    rintro e w1 ⟨rfl, hb1⟩
    go_wp2_with fail
    go_ret
    exact ⟨by simp [chk, hk], hb1⟩
end Go.Proofs.Ytncdnopnjdbleaa
