/- The contract of strings.Builder's WriteByte, laid by hand; the contract of the program's digits. -/
import Derived.Test.YthppcmejffdicaaGreatDoorQB
import Derived.Lib.AppendIntMem
import Derived.Test.YthppcmejffdicaaGreatDoorQA
import Derived.Lib.IndexMore
import Derived.Lib.Split

set_option linter.unusedSimpArgs false
set_option linter.unusedVariables false
namespace Go.Proofs.YthppcmejffdicaaGreatDoor
open Go.RowKit Hach Num Jn

def sh167_ren : Go.Shelf.Ren := ⟨fun | 167 => 67 | 240 => 78 | 276 => 90 | n => n, fun | 0 => 0 | 3 => 3 | 4 => 4 | 5 => 5 | 9 => 9 | 20 => 20 | 37 => 57 | 70 => 90 | 72 => 92 | 75 => 94 | 80 => 32 | 164 => 129 | n => n, fun | n => n⟩
theorem sh167 : Go.Proofs.Lays.n167 Tryz.prog sh167_ren := {
  mixed := by kernel_rfl
  f167 := Tryz.func67.trans (congrArg some (by kernel_rfl))
  f240 := Tryz.func78.trans (congrArg some (by kernel_rfl))
  f276 := Tryz.func90.trans (congrArg some (by kernel_rfl))
  t0 := Tryz.underlying0
  a0 := Tryz.isAgg0
  z0 := Tryz.sizeOf0
  v0 := Tryz.zeroValue0
  t4 := Tryz.underlying4
  a4 := Tryz.isAgg4
  z4 := Tryz.sizeOf4
  v4 := Tryz.zeroValue4
  t5 := Tryz.underlying5
  a5 := Tryz.isAgg5
  z5 := Tryz.sizeOf5
  v5 := Tryz.zeroValue5
  t9 := Tryz.underlying9
  a9 := Tryz.isAgg9
  z9 := Tryz.sizeOf9
  v9 := Tryz.zeroValue9
  t20 := Tryz.underlying20
  a20 := Tryz.isAgg20
  z20 := Tryz.sizeOf20
  v20 := Tryz.zeroValue20
  t37 := Tryz.underlying57
  a37 := Tryz.isAgg57
  z37 := Tryz.sizeOf57
  v37 := Tryz.zeroValue57
  t70 := Tryz.underlying90
  a70 := Tryz.isAgg90
  z70 := Tryz.sizeOf90
  v70 := Tryz.zeroValue90
  t72 := Tryz.underlying92
  a72 := Tryz.isAgg92
  z72 := Tryz.sizeOf92
  v72 := Tryz.zeroValue92
  t75 := Tryz.underlying94
  a75 := Tryz.isAgg94
  z75 := Tryz.sizeOf94
  v75 := Tryz.zeroValue94
  t164 := Tryz.underlying129
  a164 := Tryz.isAgg129
  z164 := Tryz.sizeOf129
  v164 := Tryz.zeroValue129 }
theorem sh167x : Builder.Extra Tryz.prog sh167_ren := {
  sizeBuilder := by kernel_rfl
  liesBuilder := by kernel_rfl
  t5 := Tryz.underlying5
  a5 := Tryz.isAgg5
  z5 := Tryz.sizeOf5
  v5 := Tryz.zeroValue5
  infoByte := by kernel_rfl
  cellsByte := by kernel_rfl
  sizeByte := by kernel_rfl
  neB5 := by decide }
theorem writeByte (B b : Nat) (bs : List Value) (c : Int) (w : World) (h : Lib.IsBuilder 92 5 B b bs w) (hlen : bs.length + 1 ≤ 140737488355328) (hBw : B ≤ w.heap.size) :
    Calls Tryz.prog 67 #[.pointer (some ⟨b, 0, none⟩), .int .u8 c] w fun e w' => e = .returned .nilIface ∧ Lib.BuilderAt 92 5 B b (.pointer (some ⟨b, 0, none⟩)) (bs ++ [.int .u8 c]) w' ∧ Below B w w' :=
  Any.Builder_WriteByte sh167 sh167x B b bs c w h hlen hBw
theorem bytes_length (l : List UInt8) : (Lib.byteCells l).length = l.length := by simp [Lib.byteCells]
theorem builder_ext {T e : TypeId} {B b : Nat} {p : Value} {bs : List Value} {w w' : World} (h : Lib.BuilderAt T e B b p bs w) (hE : Ext w w') : Lib.BuilderAt T e B b p bs w' := by
  obtain ⟨hB, v, hb, ho, hn⟩ := h
  exact ⟨hB, v, (hE.below.block b (Array.getElem?_eq_some_iff.1 hb).1).trans hb, World.ownsRow.kept ho (grown_ext hE none) (by cases v.ownBlock <;> simp), hn⟩

theorem hexs_get : ∀ i : Nat, i < 16 → ∀ h : i < (⟨#[48, 49, 50, 51, 52, 53, 54, 55, 56, 57, 97, 98, 99, 100, 101, 102]⟩ : ByteArray).size, (⟨#[48, 49, 50, 51, 52, 53, 54, 55, 56, 57, 97, 98, 99, 100, 101, 102]⟩ : ByteArray)[i]'h = hexd i := by decide
theorem and15 : ∀ n : Nat, n < 256 → bits .and .u8 (n : Int) 15 = ((n % 16 : Nat) : Int) := by decide +kernel
set_option maxHeartbeats 1000000 in
theorem hexP_any (s : List UInt8) (hs : s.length < 1073741824) (w : World) :
    Calls Tryz.prog 57 #[.string ⟨s.toArray⟩] w fun e w' => e = .returned (.string ⟨(hexl s).toArray⟩) ∧ Ext w w' := by
  have hsz := toArr_size s
  go_enter Tryz.func57, Tryz.ntmps57
  go_wp2_with fail
  go_loopw [7] (fun i wr => ∃ k : Nat, k ≤ s.length ∧ i = .int .i64 k ∧ Lib.IsBuilder 92 5 w.heap.size w.heap.size (Lib.byteCells (hexl (s.take k))) wr ∧ Ext w wr) (fun i _ => s.length - (intOf i).toNat)
  case atStart => exact ⟨0, Nat.zero_le _, rfl, .inl ⟨Nat.le_refl _, .slice none 0 0, heap_alloc_new _ _, World.ownsRow_nil _ _ _ 1, by simp [Value.ownBlock]⟩, Ext.alloc _ _⟩
  case round =>
    obtain ⟨k, hk, rfl, hBd, hE⟩ := hrel
    by_cases hlt : k < s.length
    · have ht := hexl_take s k hlt
      have hb := ba_get s k
      generalize s.getD k 0 = c at ht hb
      have hl := hexl_len (s.take k)
      rw [List.length_take] at hl
      have hc := UInt8.toNat_lt c
      have g1 := hexs_get (c.toNat / 16) (by omega)
      have g2 := hexs_get (c.toNat % 16) (by omega)
      have q1 : bits .and .u8 (c.toNat : Int) 15 = ((c.toNat % 16 : Nat) : Int) := and15 _ hc
      have HT := Lib.hid ht
      have hbl : (Lib.byteCells (hexl (s.take k))).length ≤ 2147483648 := by rw [bytes_length, hl]; omega
      clear ht hl
      go_wp2_with fail
      refine (writeByte w.heap.size w.heap.size _ ((hexd (c.toNat / 16)).toNat : Nat) wr hBd (by omega) hE.sz).mono ?_
      rintro e w1 ⟨rfl, hB1, hb1⟩
      have hE1 := Below.trans hE hb1
      go_wp2_with fail
      refine (writeByte w.heap.size w.heap.size _ ((hexd (c.toNat % 16)).toNat : Nat) w1 (.inr hB1) (by rw [List.length_append, List.length_singleton]; omega) (Ext.sz hE1)).mono ?_
      rintro e w2 ⟨rfl, hB2, hb2⟩
      go_wp2_with fail
      go_roundw
      case rel => exact ⟨k + 1, by omega, by go_num, .inr (by rw [HT.out]; simpa [Lib.byteCells] using hB2), Below.trans hE1 hb2⟩
      case measure => simp [intOf]; omega
    · obtain rfl : k = s.length := by omega
      rw [List.take_length] at hBd
      go_wp2_with fail
      refine (Tryz.Builder_String_any w.heap.size w.heap.size _ wr hBd hE.sz).mono ?_
      rintro e w3 ⟨rfl, hb3⟩
      go_wp2_with fail
      go_ret
      exact ⟨rfl, Below.trans hE hb3⟩
end Go.Proofs.YthppcmejffdicaaGreatDoor

/- The contract of the program's put. -/
namespace Go.Proofs.YthppcmejffdicaaGreatDoor
open Go.RowKit Hach Num Jn

set_option maxHeartbeats 400000 in
theorem putP_any (b bd n : Nat) (d : Dk) (br : Bool) (s : List UInt8) (w : World) (hL : LgAt 62 w b (some bd) n br) (hD : DkAt 65 w bd d) (hne : b ≠ bd) (hk : DkOk d) (hs : d.text.length + s.length < 281474976710656) :
    Calls Tryz.prog 42 #[.pointer (some ⟨b, 0, none⟩), .string ⟨s.toArray⟩] w fun e w' => e = .returned (.bool (d.put s).1) ∧ DkAt 65 w' bd (d.put s).2 ∧ w.grownBy w' (some bd) := by
  obtain ⟨c0, c1, c2⟩ := hL.cell
  simp only [Option.map_some] at c0
  have hwk := write_ok (s := s) hk hs
  have hwr := write_p bd d s w hD hk hs
  obtain ⟨ok, d2, he⟩ : ∃ ok d2, d.write s = (ok, d2) := ⟨_, _, rfl⟩
  have hp : d.put s = if ok then d2.sync else (false, d2) := by unfold Dk.put; rw [he]
  rw [hp]
  rw [he] at hwr hwk
  simp only at hwr hwk
  have HW := Lib.hid hwr
  clear he hwr hp
  cases ok with
  | false =>
    go_enter Tryz.func42, Tryz.ntmps42
    go_wp2_with fail
    refine HW.out.mono ?_
    rintro e w2 ⟨rfl, hD2, hg2⟩
    go_wp2_with fail
    go_ret
    exact ⟨rfl, hD2, hg2⟩
  | true =>
    simp only [if_true]
    obtain ⟨ok3, d3, he⟩ : ∃ ok3 d3, d2.sync = (ok3, d3) := ⟨_, _, rfl⟩
    have hsy := fun (w2 : World) (h : DkAt 65 w2 bd d2) => sync_p bd d2 w2 h hwk
    rw [he] at hsy ⊢
    simp only at hsy
    have HS := Lib.hid hsy
    clear he hsy
    go_enter Tryz.func42, Tryz.ntmps42
    go_wp2_with fail
    refine HW.out.mono ?_
    rintro e w2 ⟨rfl, hD2, hg2⟩
    have hL2 := hL.own hg2 (by simp; exact hne)
    obtain ⟨l0, l1, l2⟩ := hL2.cell
    simp only [Option.map_some] at l0
    go_wp2_with fail
    refine (HS.out w2 hD2).mono ?_
    rintro e w3 ⟨rfl, hD3, hg3⟩
    go_wp2_with fail
    go_ret
    exact ⟨rfl, hD3, hg2.trans hg3⟩
end Go.Proofs.YthppcmejffdicaaGreatDoor

/- Nil disks; nil and zero logs. -/
namespace Go.Proofs.YthppcmejffdicaaGreatDoor
open Go.RowKit Hach Num Jn

theorem works_nil_p (w : World) : Calls Tryz.prog 39 #[.pointer none] w fun e w' => e = .returned (.bool false) ∧ w' = w := by
  go_enter Tryz.func39, Tryz.ntmps39
  go_wp2_with fail
  go_ret
  exact ⟨rfl, rfl⟩
theorem write_nil_p (t : ByteArray) (w : World) : Calls Tryz.prog 14 #[.pointer none, .string t] w fun e w' => e = .returned (.bool false) ∧ w' = w := by
  go_enter Tryz.func14, Tryz.ntmps14
  go_wp2_with fail
  refine (works_nil_p w).mono ?_
  rintro e w1 ⟨rfl, rfl⟩
  go_wp2_with fail
  go_ret
  exact ⟨rfl, rfl⟩
theorem sync_nil_p (w : World) : Calls Tryz.prog 16 #[.pointer none] w fun e w' => e = .returned (.bool false) ∧ w' = w := by
  go_enter Tryz.func16, Tryz.ntmps16
  go_wp2_with fail
  refine (works_nil_p w).mono ?_
  rintro e w1 ⟨rfl, rfl⟩
  go_wp2_with fail
  go_ret
  exact ⟨rfl, rfl⟩
theorem read_nil_p (w : World) : Calls Tryz.prog 27 #[.pointer none] w fun e w' => e = .returned (.string ⟨#[]⟩) ∧ w' = w := by
  go_enter Tryz.func27, Tryz.ntmps27
  go_wp2_with fail
  go_ret
  exact ⟨rfl, rfl⟩
theorem fail_nil_p (n : Int) (w : World) : Calls Tryz.prog 18 #[.pointer none, .int .i64 n] w fun e w' => e = .returned (.tuple #[]) ∧ w' = w := by
  go_enter Tryz.func18, Tryz.ntmps18
  go_wp2_with fail
  go_end0
  exact ⟨rfl, rfl⟩
theorem crash_nil_p (n : Int) (w : World) : Calls Tryz.prog 20 #[.pointer none, .int .i64 n] w fun e w' => e = .returned (.tuple #[]) ∧ w' = w := by
  go_enter Tryz.func20, Tryz.ntmps20
  go_wp2_with fail
  first | go_end0 | refine bodyPost_ret (results_none rfl _ _ _) rfl ?_
  exact ⟨rfl, rfl⟩
theorem open_nil_p (w : World) : Calls Tryz.prog 22 #[.pointer none] w fun e w' => e = .returned (.tuple #[.pointer none, .slice none 0 0]) ∧ w' = w := by
  go_enter Tryz.func22, Tryz.ntmps22
  go_wp2_with fail
  go_ret2
  exact ⟨rfl, rfl⟩
theorem append_nil_p (t : ByteArray) (w : World) : Calls Tryz.prog 25 #[.pointer none, .string t] w fun e w' => e = .returned (.int .i64 1) ∧ w' = w := by
  go_enter Tryz.func25, Tryz.ntmps25
  go_wp2_with fail
  go_ret
  exact ⟨rfl, rfl⟩
theorem append_zero_p (b n : Nat) (br : Bool) (t : ByteArray) (w : World) (h : LgAt 62 w b none n br) : Calls Tryz.prog 25 #[.pointer (some ⟨b, 0, none⟩), .string t] w fun e w' => e = .returned (.int .i64 1) ∧ w' = w := by
  obtain ⟨c0, _, _⟩ := h.cell
  simp only [Option.map_none] at c0
  go_enter Tryz.func25, Tryz.ntmps25
  go_wp2_with fail
  go_ret
  exact ⟨rfl, rfl⟩
theorem works_nil_r (w : World) : Calls Tryz.prog 40 #[.pointer none] w fun e w' => e = .returned (.bool false) ∧ w' = w := by
  go_enter Tryz.func40, Tryz.ntmps40
  go_wp2_with fail
  go_ret
  exact ⟨rfl, rfl⟩
theorem write_nil_r (t : ByteArray) (w : World) : Calls Tryz.prog 15 #[.pointer none, .string t] w fun e w' => e = .returned (.bool false) ∧ w' = w := by
  go_enter Tryz.func15, Tryz.ntmps15
  go_wp2_with fail
  refine (works_nil_r w).mono ?_
  rintro e w1 ⟨rfl, rfl⟩
  go_wp2_with fail
  go_ret
  exact ⟨rfl, rfl⟩
theorem sync_nil_r (w : World) : Calls Tryz.prog 17 #[.pointer none] w fun e w' => e = .returned (.bool false) ∧ w' = w := by
  go_enter Tryz.func17, Tryz.ntmps17
  go_wp2_with fail
  refine (works_nil_r w).mono ?_
  rintro e w1 ⟨rfl, rfl⟩
  go_wp2_with fail
  go_ret
  exact ⟨rfl, rfl⟩
theorem read_nil_r (w : World) : Calls Tryz.prog 28 #[.pointer none] w fun e w' => e = .returned (.string ⟨#[]⟩) ∧ w' = w := by
  go_enter Tryz.func28, Tryz.ntmps28
  go_wp2_with fail
  go_ret
  exact ⟨rfl, rfl⟩
theorem fail_nil_r (n : Int) (w : World) : Calls Tryz.prog 19 #[.pointer none, .int .i64 n] w fun e w' => e = .returned (.tuple #[]) ∧ w' = w := by
  go_enter Tryz.func19, Tryz.ntmps19
  go_wp2_with fail
  go_end0
  exact ⟨rfl, rfl⟩
theorem crash_nil_r (n : Int) (w : World) : Calls Tryz.prog 21 #[.pointer none, .int .i64 n] w fun e w' => e = .returned (.tuple #[]) ∧ w' = w := by
  go_enter Tryz.func21, Tryz.ntmps21
  go_wp2_with fail
  first | go_end0 | refine bodyPost_ret (results_none rfl _ _ _) rfl ?_
  exact ⟨rfl, rfl⟩
theorem open_nil_r (w : World) : Calls Tryz.prog 23 #[.pointer none] w fun e w' => e = .returned (.tuple #[.pointer none, .slice none 0 0]) ∧ w' = w := by
  go_enter Tryz.func23, Tryz.ntmps23
  go_wp2_with fail
  go_ret2
  exact ⟨rfl, rfl⟩
theorem append_nil_r (t : ByteArray) (w : World) : Calls Tryz.prog 26 #[.pointer none, .string t] w fun e w' => e = .returned (.int .i64 1) ∧ w' = w := by
  go_enter Tryz.func26, Tryz.ntmps26
  go_wp2_with fail
  go_ret
  exact ⟨rfl, rfl⟩
theorem append_zero_r (b n : Nat) (br : Bool) (t : ByteArray) (w : World) (h : LgAt 75 w b none n br) : Calls Tryz.prog 26 #[.pointer (some ⟨b, 0, none⟩), .string t] w fun e w' => e = .returned (.int .i64 1) ∧ w' = w := by
  obtain ⟨c0, _, _⟩ := h.cell
  simp only [Option.map_none] at c0
  go_enter Tryz.func26, Tryz.ntmps26
  go_wp2_with fail
  go_ret
  exact ⟨rfl, rfl⟩
end Go.Proofs.YthppcmejffdicaaGreatDoor

/- The words of a line, as strings.SplitN parts it. Plain, nothing of the program. -/
namespace Go.Proofs.YthppcmejffdicaaGreatDoor.Jn
open Go.Lib Hach Num

theorem cut32_some {l a b : List UInt8} (h : cut32 l = some (a, b)) : l = a ++ 32 :: b ∧ (32 : UInt8) ∉ a := by
  induction l generalizing a b with
  | nil => cases h
  | cons x l ih =>
    unfold cut32 at h
    split at h
    · rename_i e
      simp only [Option.some.injEq, Prod.mk.injEq] at h
      obtain ⟨rfl, rfl⟩ := h
      subst e
      exact ⟨rfl, by simp⟩
    · rename_i e
      match h' : cut32 l with
      | none => rw [h'] at h; cases h
      | some (a', b') =>
        rw [h'] at h
        simp only [Option.map_some, Option.some.injEq, Prod.mk.injEq] at h
        obtain ⟨rfl, rfl⟩ := h
        obtain ⟨h1, h2⟩ := ih h'
        subst h1
        refine ⟨rfl, fun hm => ?_⟩
        rcases List.mem_cons.1 hm with hm | hm
        · exact e hm.symm
        · exact h2 hm
theorem cut32_none {l : List UInt8} (h : cut32 l = none) : (32 : UInt8) ∉ l := by
  induction l with
  | nil => simp
  | cons x l ih =>
    unfold cut32 at h
    split at h
    · cases h
    · rename_i e
      simp only [Option.map_eq_none_iff] at h
      simp only [List.mem_cons, not_or]
      exact ⟨fun e' => e e'.symm, ih h⟩
theorem index_some {l a b : List UInt8} (h : cut32 l = some (a, b)) : index l [32] = a.length := by
  obtain ⟨rfl, hn⟩ := cut32_some h
  refine index_first (by simp) (by simp [occAt]) (fun j hj => ?_)
  unfold occAt
  rw [List.drop_append_of_le_length (by omega)]
  have : a.drop j = a[j] :: a.drop (j + 1) := List.drop_eq_getElem_cons hj
  rw [this]
  simp only [List.cons_append, List.isPrefixOf, Bool.and_true, beq_eq_false_iff_ne]
  intro e
  exact hn (by rw [e]; exact List.getElem_mem hj)
theorem index_none' {l : List UInt8} (h : cut32 l = none) : index l [32] = -1 := by
  have hn := cut32_none h
  refine index_none (fun j hj => ?_)
  unfold occAt
  match h' : l.drop j with
  | [] => rfl
  | x :: r =>
    simp only [List.isPrefixOf, Bool.and_true, beq_eq_false_iff_ne]
    intro e
    subst e
    exact hn (List.mem_of_mem_drop (by rw [h']; exact List.mem_cons_self))
/- the words: at most three -/
theorem words_none (y : List UInt8) (k : Nat) (h : cut32 y = none) : splitK [32] 0 k y = [y] := by
  cases k with
  | zero => rfl
  | succ k => unfold splitK; rw [index_none' h]; rfl
theorem words_some (y a b : List UInt8) (k : Nat) (h : cut32 y = some (a, b)) : splitK [32] 0 (k + 1) y = a :: splitK [32] 0 k b := by
  have h1 := index_some h
  obtain ⟨rfl, _⟩ := cut32_some h
  rw [splitK, h1, if_neg (by simp)]
  simp
theorem words3 (y : List UInt8) : match (cut32 y).bind fun p => cut32 p.2 with
    | some q => ∃ a b, splitK [32] 0 (min 3 (y.length + 1) - 1) y = [a, b, q.2]
    | none => (splitK [32] 0 (min 3 (y.length + 1) - 1) y).length < 3 := by
  match h : cut32 y with
  | none => simp only [Option.bind_none]; rw [words_none y _ h]; simp
  | some (a, b) =>
    simp only [Option.bind_some]
    have hy := (cut32_some h).1
    match h2 : cut32 b with
    | none =>
      simp only
      have : ∃ k, min 3 (y.length + 1) - 1 = k + 1 := by rw [hy]; exact ⟨min 3 ((a ++ 32 :: b).length + 1) - 2, by simp; omega⟩
      obtain ⟨k, hk⟩ := this
      rw [hk, words_some y a b k h, words_none b k h2]; simp
    | some (a2, b2) =>
      simp only
      have hb := (cut32_some h2).1
      have : min 3 (y.length + 1) - 1 = 0 + 1 + 1 := by rw [hy, hb]; simp; omega
      rw [this, words_some y a b _ h, words_some b a2 b2 0 h2]
      exact ⟨a, a2, rfl⟩
theorem suffix_nl (s : List UInt8) : hasSuffix s [10] = decide (s.getLast? = some 10) := by
  unfold hasSuffix
  rw [Bool.eq_iff_iff]
  simp only [List.isSuffixOf_iff_suffix, decide_eq_true_eq]
  constructor
  · rintro ⟨t, rfl⟩; simp
  · intro h; obtain ⟨t, rfl⟩ := List.getLast?_eq_some_iff.1 h; exact ⟨t, rfl⟩
theorem trim_nl (a : List UInt8) : trimSuffix (a ++ [10]) [10] = a := by
  unfold trimSuffix
  rw [suffix_nl, if_pos (by simp)]
  simp
end Go.Proofs.YthppcmejffdicaaGreatDoor.Jn

/- The words of a line, as bytes arrays. Plain, nothing of the program. -/
namespace Go.Proofs.YthppcmejffdicaaGreatDoor.Jn
open Go.Lib Hach Num

theorem splitB_lists : ∀ (k : Nat) (y : List UInt8), splitB ⟨#[32]⟩ 0 k ⟨y.toArray⟩ = (splitK [32] 0 k y).map fun l => (⟨l.toArray⟩ : ByteArray)
  | 0, y => rfl
  | k + 1, y => by
    have hi : indexB ⟨y.toArray⟩ ⟨#[32]⟩ = index y [32] := by unfold indexB; simp
    match h : cut32 y with
    | none =>
      rw [words_none y _ h, splitB_miss _ _ _ _ (hi.trans (index_none' h))]
      rfl
    | some (a, b) =>
      rw [words_some y a b k h, splitB_hit _ _ _ _ a.length (hi.trans (index_some h)), List.map_cons, ← splitB_lists k b]
      have hy := (cut32_some h).1
      have e1 : (⟨y.toArray⟩ : ByteArray).extract 0 (a.length + 0) = ⟨a.toArray⟩ := by
        apply ba_ext
        rw [ByteArray.data_extract]
        simp [hy]
      have e2 : (⟨y.toArray⟩ : ByteArray).extract (a.length + (⟨#[32]⟩ : ByteArray).size) (⟨y.toArray⟩ : ByteArray).size = ⟨b.toArray⟩ := by
        apply ba_ext
        rw [ByteArray.data_extract]
        show ((y.toArray).extract (a.length + 1) y.toArray.size).toList = _
        simp only [List.extract_toArray, List.extract_eq_take_drop, List.size_toArray]
        rw [hy]
        simp [List.drop_append]
        rw [List.drop_eq_nil_of_le (by omega), List.nil_append, show a.length + (b.length + 1) - (a.length + 1) = b.length by omega, List.take_length]
      rw [e1, e2]
end Go.Proofs.YthppcmejffdicaaGreatDoor.Jn

/- The first end of a line. Plain, nothing of the program. -/
namespace Go.Proofs.YthppcmejffdicaaGreatDoor.Jn
open Go.Lib Hach Num

theorem indexByte_not : ∀ {l : List UInt8} {c : UInt8}, c ∉ l → indexByte l c = -1
  | [], _, _ => rfl
  | b :: l, c, h => by
    simp only [List.mem_cons, not_or] at h
    have h1 : (b == c) = false := by rw [beq_eq_false_iff_ne]; exact fun e => h.1 e.symm
    rw [indexByte, h1, indexByte_not h.2]
    rfl
theorem indexByte_at : ∀ (a : List UInt8) (c : UInt8) (b : List UInt8), c ∉ a → indexByte (a ++ c :: b) c = a.length
  | [], c, b, _ => by simp [indexByte]
  | x :: a, c, b, h => by
    simp only [List.mem_cons, not_or] at h
    have h1 : (x == c) = false := by rw [beq_eq_false_iff_ne]; exact fun e => h.1 e.symm
    rw [List.cons_append, indexByte, h1, indexByte_at a c b h.2]
    have h2 : (((a.length : Nat) : Int) == -1) = false := by rw [beq_eq_false_iff_ne]; omega
    rw [h2]
    simp
/- where a line ends, or that none does -/
theorem first_nl (l : List UInt8) : (10 : UInt8) ∉ l ∧ indexByte l 10 = -1 ∧ pcs l = ([], l) ∨ ∃ a b, l = a ++ 10 :: b ∧ (10 : UInt8) ∉ a ∧ indexByte l 10 = a.length ∧ pcs l = ((a ++ [10]) :: (pcs b).1, (pcs b).2) := by
  by_cases h : (10 : UInt8) ∈ l
  · right
    have : ∃ a b, l = a ++ 10 :: b ∧ (10 : UInt8) ∉ a := by
      induction l with
      | nil => cases h
      | cons c l ih =>
        by_cases hc : c = 10
        · subst hc; exact ⟨[], l, rfl, by simp⟩
        · have h' : (10 : UInt8) ∈ l := by
            rcases List.mem_cons.1 h with h | h
            · exact absurd h.symm hc
            · exact h
          obtain ⟨a, b, e, hn⟩ := ih h'
          exact ⟨c :: a, b, by rw [e]; rfl, by simp only [List.mem_cons, not_or]; exact ⟨fun e => hc e.symm, hn⟩⟩
    obtain ⟨a, b, rfl, hn⟩ := this
    exact ⟨a, b, rfl, hn, indexByte_at a 10 b hn, pcs_append a b hn⟩
  · exact .inl ⟨h, indexByte_not h, pcs_none l h⟩
/- what comes of the pieces: a piece that is no line gives nothing -/
theorem recOf_rest {x : List UInt8} (h : (10 : UInt8) ∉ x) : recOf x = none := by
  match h' : recOf x with
  | none => rfl
  | some r =>
    have e := recOf_some h'
    exact absurd (by rw [e, line_front]; simp) h
/- all pieces, the rest with them -/
def pieces (s : List UInt8) : List (List UInt8) := (pcs s).1 ++ [(pcs s).2]
theorem recs_pieces (s : List UInt8) : recs s = (pieces s).filterMap recOf := by
  unfold recs pieces
  rw [List.filterMap_append]
  simp only [List.filterMap_cons, List.filterMap_nil, recOf_rest (pcs_rest s), List.append_nil]
end Go.Proofs.YthppcmejffdicaaGreatDoor.Jn

/- (Under way) The contract of strings.byteStringReplacer's Replace, where it hides the bytes that end lines. -/
namespace Go.Proofs.YthppcmejffdicaaGreatDoor
open Go.RowKit Hach Num Jn

/- a replacer of two bytes in memory -/
structure Bsr (w : World) (g : Nat) : Prop where
  lt : g < w.heap.size
  nil : ∀ c : Nat, c < 256 → c ≠ 10 → c ≠ 92 → w.cell? ⟨g, c, none⟩ = some (.slice none 0 0)
  c10 : ∃ h cap, h < w.heap.size ∧ w.cell? ⟨g, 10, none⟩ = some (.slice (some ⟨h, 0, none⟩) 2 cap) ∧ w.cell? ⟨h, 0, none⟩ = some (.int .u8 92) ∧ w.cell? ⟨h, 1, none⟩ = some (.int .u8 110)
  c92 : ∃ h cap, h < w.heap.size ∧ w.cell? ⟨g, 92, none⟩ = some (.slice (some ⟨h, 0, none⟩) 2 cap) ∧ w.cell? ⟨h, 0, none⟩ = some (.int .u8 92) ∧ w.cell? ⟨h, 1, none⟩ = some (.int .u8 92)
  rep : ∃ t cap, t < w.heap.size ∧ w.cell? ⟨g, 256, none⟩ = some (.slice (some ⟨t, 0, none⟩) 2 cap) ∧ w.cell? ⟨t, 0, none⟩ = some (.string ⟨#[10]⟩) ∧ w.cell? ⟨t, 1, none⟩ = some (.string ⟨#[92]⟩)
theorem Bsr.ext {w w' : World} {g : Nat} (h : Bsr w g) (hE : Ext w w') : Bsr w' g := by
  obtain ⟨hl, h0, ⟨a, ac, ha, a1, a2, a3⟩, ⟨b, bc, hb, b1, b2, b3⟩, ⟨t, tc, ht, t1, t2, t3⟩⟩ := h
  refine ⟨Nat.lt_of_lt_of_le hl hE.sz, fun c h1 h2 h3 => (hE.old (p := ⟨g, c, none⟩) hl).trans (h0 c h1 h2 h3), ⟨a, ac, Nat.lt_of_lt_of_le ha hE.sz, (hE.old (p := ⟨g, 10, none⟩) hl).trans a1, (hE.old (p := ⟨a, 0, none⟩) ha).trans a2, (hE.old (p := ⟨a, 1, none⟩) ha).trans a3⟩,
    ⟨b, bc, Nat.lt_of_lt_of_le hb hE.sz, (hE.old (p := ⟨g, 92, none⟩) hl).trans b1, (hE.old (p := ⟨b, 0, none⟩) hb).trans b2, (hE.old (p := ⟨b, 1, none⟩) hb).trans b3⟩,
    ⟨t, tc, Nat.lt_of_lt_of_le ht hE.sz, (hE.old (p := ⟨g, 256, none⟩) hl).trans t1, (hE.old (p := ⟨t, 0, none⟩) ht).trans t2, (hE.old (p := ⟨t, 1, none⟩) ht).trans t3⟩⟩
theorem count_take (s : List UInt8) (k : Nat) (x : UInt8) (h : k < s.length) : (s.take (k + 1)).count x = (s.take k).count x + if s.getD k 0 = x then 1 else 0 := by
  rw [List.take_succ_eq_append_getElem h, List.count_append]
  simp [List.getD, List.getElem?_eq_getElem h, List.count_cons]
end Go.Proofs.YthppcmejffdicaaGreatDoor
