/- The law JournalNothing: its walk. -/
import Derived.Test.YthppcmejffdicaaGreatDoorQG
import Derived.LoopN

set_option linter.unusedSimpArgs false
set_option linter.unusedVariables false
namespace Go.Proofs.YthppcmejffdicaaGreatDoor
open Go.RowKit Hach Num Jn

set_option maxRecDepth 100000 in
set_option maxHeartbeats 4000000 in
theorem JournalNothing_any (S : ByteArray) (n : Int) (W : World) (hT : Tabs W) : Calls Tryz.prog 8 #[.string S, .int .i64 n] W fun e w' => e = .returned (.bool true) ∧ Ext W w' := by
  go_enter Tryz.func8, Tryz.ntmps8
  go_wp2_with fail
  refine (sanity_any W hT).mono ?_
  rintro e w1 ⟨rfl, hE1⟩
  go_wp2_with fail
  refine (fail_nil_p n w1).mono ?_
  rintro e w1' ⟨rfl, rfl⟩
  rename World => w1
  go_wp2_with fail
  refine (crash_nil_p n w1).mono ?_
  rintro e w1' ⟨rfl, rfl⟩
  rename World => w1
  go_wp2_with fail
  refine (open_nil_p w1).mono ?_
  rintro e w1' ⟨rfl, rfl⟩
  rename World => w1
  go_wp2_with fail
  refine (write_nil_p S w1).mono ?_
  rintro e w1' ⟨rfl, rfl⟩
  rename World => w1
  go_wp2_with fail
  refine (sync_nil_p w1).mono ?_
  rintro e w1' ⟨rfl, rfl⟩
  rename World => w1
  go_wp2_with fail
  refine (read_nil_p w1).mono ?_
  rintro e w1' ⟨rfl, rfl⟩
  rename World => w1
  go_wp2_with fail
  have hE2 : Ext w1 ((w1.alloc (.cells #[.pointer none, .int .i64 0, .bool false] 62)).alloc (.cells #[.pointer none, .pointer (some ⟨w1.heap.size, 0, none⟩)] 28)) := (Ext.alloc _ _).trans (Ext.alloc _ _)
  have hL2 : LgAt 62 ((w1.alloc (.cells #[.pointer none, .int .i64 0, .bool false] 62)).alloc (.cells #[.pointer none, .pointer (some ⟨w1.heap.size, 0, none⟩)] 28)) w1.heap.size none 0 false := LgAt.ext (heap_alloc_new _ _) (Ext.alloc _ _)
  have hc0 := heap_alloc_new (w1.alloc (.cells #[.pointer none, .int .i64 0, .bool false] 62)) (.cells #[.pointer none, .pointer (some ⟨w1.heap.size, 0, none⟩)] 28)
  have hsz : (w1.alloc (.cells #[.pointer none, .int .i64 0, .bool false] 62)).heap.size = w1.heap.size + 1 := Array.size_push _
  rw [hsz] at hc0
  generalize hw2 : (w1.alloc (.cells #[.pointer none, .int .i64 0, .bool false] 62)).alloc (.cells #[.pointer none, .pointer (some ⟨w1.heap.size, 0, none⟩)] 28) = w2 at *
  have c0 : w2.cell? ⟨w1.heap.size + 1, 0, none⟩ = some (.pointer none) := by simp [World.cell?, hc0]
  have c1 : w2.cell? ⟨w1.heap.size + 1, 1, none⟩ = some (.pointer (some ⟨w1.heap.size, 0, none⟩)) := by simp [World.cell?, hc0]
  clear hw2 hc0
  refine wp_loop_rounds 3 ?_
  rw [rounds_succ]
  go_wp2_with fail
  refine (append_nil_p S w2).mono ?_
  rintro e w2' ⟨rfl, rfl⟩
  rename World => w2
  go_wp2_with fail
  refine (count_nil_p w2).mono ?_
  rintro e w2' ⟨rfl, rfl⟩
  rename World => w2
  go_wp2_with fail
  rw [rounds_succ]
  go_wp2_with fail
  refine (append_zero_p _ 0 false S w2 hL2).mono ?_
  rintro e w2' ⟨rfl, rfl⟩
  rename World => w2
  go_wp2_with fail
  refine (count_p _ 0 none false w2 hL2).mono ?_
  rintro e w2' ⟨rfl, rfl⟩
  rename World => w2
  go_wp2_with fail
  rw [rounds_succ]
  go_wp2_with fail
  have hBs : (S.extract 0 (min (S.size : Int) 100).toNat).size ≤ 100 := by rw [ByteArray.size_extract]; omega
  generalize S.extract 0 (min (S.size : Int) 100).toNat = B at hBs ⊢
  obtain ⟨x, rfl⟩ : ∃ x : List UInt8, B = ⟨x.toArray⟩ := ⟨B.data.toList, by cases B; simp⟩
  have hx : x.length ≤ 100 := by rw [toArr_size] at hBs; exact hBs
  have hDz : DkAt 65 (w2.alloc (.cells #[.string ⟨#[]⟩, .int .i64 0, .bool false, .bool false, .int .i64 0] 65)) w2.heap.size Dk.new := heap_alloc_new _ _
  have hE3 : Ext w2 (w2.alloc (.cells #[.string ⟨#[]⟩, .int .i64 0, .bool false, .bool false, .int .i64 0] 65)) := Ext.alloc _ _
  obtain ⟨b, hb⟩ : ∃ b, b = w2.heap.size := ⟨_, rfl⟩
  rw [← hb] at hDz ⊢
  generalize w2.alloc (.cells #[.string ⟨#[]⟩, .int .i64 0, .bool false, .bool false, .int .i64 0] 65) = w3 at hDz hE3 ⊢
  have HB := Lib.hid hb
  clear hb
  have G1 : Dk.new.write x = (true, ⟨x, x.length, false, false, 0⟩) := by unfold Dk.write; rw [works_calm ⟨rfl, rfl⟩]; simp [Dk.new]
  have G2 : (⟨x, x.length, false, false, 0⟩ : Dk).sync = (true, ⟨x, 0, false, false, 0⟩) := by unfold Dk.sync; rw [works_calm ⟨rfl, rfl⟩]; simp
  have G3 : (⟨x, 0, false, false, 0⟩ : Dk).crash n.toNat = ⟨x, 0, false, false, 0⟩ := by unfold Dk.crash; simp
  have O1 : DkOk ⟨x, x.length, false, false, 0⟩ := ⟨Nat.le_refl _, by show x.length < _; omega, by simp, by simp, fun _ => by simp⟩
  have O2 : DkOk ⟨x, 0, false, false, 0⟩ := ⟨Nat.zero_le _, by show x.length < _; omega, by simp, by simp, fun _ => by simp⟩
  have A1 := write_p b Dk.new x w3 hDz new_ok (by show 0 + x.length < _; omega)
  rw [G1] at A1
  refine A1.mono ?_
  rintro e w4 ⟨rfl, hD4, hg4⟩
  have A2 := sync_p b _ w4 hD4 O1
  rw [G2] at A2
  clear A1 hDz
  have HA2 := Lib.hid A2
  clear A2
  go_wp2_with fail
  refine HA2.out.mono ?_
  rintro e w5 ⟨rfl, hD5, hg5⟩
  clear HA2 hD4
  go_wp2_with fail
  refine (read_p b _ w5 hD5).mono ?_
  rintro e w5' ⟨rfl, rfl⟩
  rename World => w5
  go_wp2_with fail
  have A3 := crash_p b _ n w5 hD5 O2
  rw [G3] at A3
  refine A3.mono ?_
  rintro e w6 ⟨rfl, hD6, hg6⟩
  clear A3 hD5
  go_wp2_with fail
  refine (read_p b _ w6 hD6).mono ?_
  rintro e w6' ⟨rfl, rfl⟩
  rename World => w6
  go_wp2_with fail
  go_ret
  refine ⟨by simp, ?_⟩
  have a := ((KB.grown (S := [b]) hg4 (by simp)).trans (KB.grown (S := [b]) hg5 (by simp))).trans (KB.grown (S := [b]) hg6 (by simp))
  have hb := HB.out
  have s1 : W.heap.size ≤ w1.heap.size := hE1.size
  have s2 : w1.heap.size ≤ w2.heap.size := hE2.size
  have s3 : w2.heap.size ≤ w3.heap.size := hE3.size
  exact Below.trans (Ext.trans hE1 (Ext.trans hE2 hE3)) (a.below (by omega) (by intro k hk; simp at hk; omega))
end Go.Proofs.YthppcmejffdicaaGreatDoor
