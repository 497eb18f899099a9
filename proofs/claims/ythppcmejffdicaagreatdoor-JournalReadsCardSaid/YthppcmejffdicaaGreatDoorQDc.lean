/- The contract of digest.of: the digest of strings, one after the other. -/
import Derived.Test.YthppcmejffdicaaGreatDoorRows
import Derived.Test.YthppcmejffdicaaGreatDoorQA
import Derived.WalkKit
import Derived.WalkSpells
import Derived.WalkLawsBesides
import Derived.Lib.Hide
import Derived.Outline
import Derived.BigQuiet
import Derived.Deep.QuietTactic

set_option linter.unusedSimpArgs false
set_option linter.unusedVariables false
namespace Go.Proofs.YthppcmejffdicaaGreatDoor
open Go.RowKit Hach

/- eight zeros: the variable of a digest -/
def zero8 : Obj := .cells #[.int .u8 0, .int .u8 0, .int .u8 0, .int .u8 0, .int .u8 0, .int .u8 0, .int .u8 0, .int .u8 0] 80

theorem zero8_cell {w : World} {g : Nat} (h : w.heap[g]? = some zero8) {j : Nat} (hj : j < 8) : w.cell? ⟨g, j, none⟩ = some (.int .u8 0) := by
  simp only [World.cell?, h, zero8]
  match j, hj with
  | 0, _ => rfl
  | 1, _ => rfl
  | 2, _ => rfl
  | 3, _ => rfl
  | 4, _ => rfl
  | 5, _ => rfl
  | 6, _ => rfl
  | 7, _ => rfl
theorem zero8_free {w : World} {g : Nat} (h : w.heap[g]? = some zero8) (j : Nat) : w.frozen? ⟨g, j, none⟩ = false := by simp [World.frozen?, h, zero8]

set_option maxHeartbeats 400000 in
theorem of_any (A : Option Addr) (n c : Nat) (ss : List ByteArray) (w : World) (hS : Strs w w.heap.size A n ss) (hn : n < 4294967296) (hsm : Sm ss) :
    Calls Tryz.prog 48 #[.slice A n c] w fun e w' => e = .returned (dgv (cat ss)) ∧ Below w.heap.size w w' := by
  have hs : ∀ k, (ss.getD k ByteArray.empty).size < 4294967296 := hsm
  have hconv := fun (wx : World) (s : ByteArray) => run_bytes_of_string (P := Tryz.prog) wx 9 57 5 s Tryz.underlying9 Tryz.underlying57 Tryz.underlying5
  go_enter Tryz.func48, Tryz.ntmps48
  go_wp2_with fail
  go_loopw [3, 4, 13] (fun x y i wr => ∃ k : Nat, k ≤ n ∧ i = .int .i64 k ∧ x = .int .u64 (rX (cat (ss.take k))) ∧ y = .int .u64 (rY (cat (ss.take k))) ∧ Below (w.heap.size + 1) (w.alloc zero8) wr) (fun _ _ i _ => n - (intOf i).toNat)
  case atStart => exact ⟨0, Nat.zero_le _, rfl, rfl, rfl, Below.refl _ _⟩
  case round =>
    obtain ⟨k, hk, rfl, rfl, rfl, hb⟩ := hrel
    have hx := rX_lt (cat (ss.take k))
    have hy := rY_lt (cat (ss.take k))
    by_cases hlt : k < n
    · obtain ⟨b, o, rfl, hbl, hc0⟩ := hS.at_ hlt
      have hc : wr.cell? ⟨b, o + k, none⟩ = some (.string (ss.getD k ByteArray.empty)) := by
        rw [hb.cell (p := ⟨b, o + k, none⟩) (by show b < _; omega), World.cell?_alloc_lt _ _ _ (by exact hbl)]
        exact hc0 k hlt
      have hsz := hs k
      clear hc0
      have hes : ss[k]'(by rw [hS.len]; exact hlt) = ss.getD k ByteArray.empty := by simp [List.getD, List.getElem?_eq_getElem (show k < ss.length by rw [hS.len]; exact hlt)]
      have hkl : k < ss.length := by rw [hS.len]; exact hlt
      generalize ss.getD k ByteArray.empty = s at hc hsz hes
      have ht : cat (ss.take (k + 1)) = cat (ss.take k) ++ s.data.toList := by
        rw [List.take_succ_eq_append_getElem hkl, cat_snoc, hes]
      have HT := Lib.hid ht
      clear hes ht
      generalize cat (ss.take k) = L at hx hy HT
      go_wp2_with fail
      go_loop [3, 4, 20] (fun x y i => ∃ j : Nat, j ≤ s.size ∧ i = .int .i64 j ∧ x = .int .u64 (rX (L ++ s.data.toList.take j)) ∧ y = .int .u64 (rY (L ++ s.data.toList.take j))) (fun _ _ i => s.size - (intOf i).toNat)
      case atStart => exact ⟨0, Nat.zero_le _, rfl, by simp, by simp⟩
      case round =>
        obtain ⟨j, hj, rfl, rfl, rfl⟩ := hrel
        have hx2 := rX_lt (L ++ s.data.toList.take j)
        have hy2 := rY_lt (L ++ s.data.toList.take j)
        by_cases hlt2 : j < s.size
        · have hcell : ∀ wx : World, (wx.alloc (Obj.cells (bytesRow s (grownCap wr s.size 0 5)) 5 ((bytesRow s (grownCap wr s.size 0 5)).size, (bytesRow s (grownCap wr s.size 0 5)).size + 1))).cell? ⟨wx.heap.size, j, none⟩ = some (.int .u8 ((s.data[j]'hlt2).toNat : Int)) := fun wx => by
            rw [World.cell?_alloc_mark]; exact bytesRow_at s _ j hlt2
          have HX : Hid (L ++ s.data.toList.take (j + 1) = (L ++ s.data.toList.take j) ++ [s.data[j]'hlt2]) := by
            rw [List.take_succ_eq_append_getElem (by simpa using hlt2)]; simp [Hid]
          have hb8 : (s.data[j]'hlt2).toNat < 256 := UInt8.toNat_lt _
          generalize s.data[j]'hlt2 = ch at hcell HX hb8
          go_wp2_with fail
          go_round
          case rel =>
            refine ⟨j + 1, by omega, by go_num, ?_, ?_⟩
            · rw [HX.out, rX_snoc]; unfold stp; go_num
            · rw [HX.out, rY_snoc]; unfold stp; go_num
          case measure => simp [intOf]; omega
        · go_wp2_with fail
          go_roundw
          case rel =>
            have e : s.data.toList.take j = s.data.toList := List.take_of_length_le (by simp; exact Nat.le_of_not_lt hlt2)
            rw [e]
            exact ⟨k + 1, by omega, by go_num, by rw [HT.out], by rw [HT.out], (hb.alloc (by have := hb.size; simpa using this) _).drew⟩
          case measure => simp [intOf]; omega
    · obtain rfl : k = n := by omega
      have e : ss.take k = ss := List.take_of_length_le (by rw [hS.len]; exact Nat.le_refl _)
      rw [e] at hx hy ⊢
      clear e
      have hw0 : wr.heap[w.heap.size]? = some zero8 := (hb.block w.heap.size (by omega)).trans (heap_alloc_new w _)
      have hz : w.heap.size < wr.heap.size := by have := hb.size; simp at this; omega
      have hB : Below w.heap.size w wr := (below_alloc w zero8).trans (hb.mono (Nat.le_succ _))
      have hcz : ∀ (j : Nat), j < 8 → wr.cell? ⟨w.heap.size, j, none⟩ = some (.int .u8 0) := fun j hj => zero8_cell hw0 hj
      have hfz : ∀ (j : Nat), wr.frozen? ⟨w.heap.size, j, none⟩ = false := fun j => zero8_free hw0 j
      have q0 := hcz 0 (by omega)
      have q1 := hcz 1 (by omega)
      have q2 := hcz 2 (by omega)
      have q3 := hcz 3 (by omega)
      have q4 := hcz 4 (by omega)
      have q5 := hcz 5 (by omega)
      have q6 := hcz 6 (by omega)
      have q7 := hcz 7 (by omega)
      clear hcz hw0
      generalize hL : cat ss = L at hx hy ⊢
      have HL := Lib.hid hL
      clear hL
      go_wp2_with fail
      refine wp_loop_rounds 5 ?_
      rw [rounds_succ]
      go_wp2
      go_region
      go_wp2
      rw [rounds_succ]
      go_wp2
      go_region
      go_wp2
      rw [rounds_succ]
      go_wp2
      go_region
      go_wp2
      rw [rounds_succ]
      go_wp2
      go_region
      go_wp2
      rw [rounds_succ]
      go_wp2
      refine bodyPost_ret (v := .agg #[.int .u8 ((rX L : Int) / 16777216), .int .u8 ((rX L : Int) / 65536 % 256), .int .u8 ((rX L : Int) / 256 % 256), .int .u8 ((rX L : Int) % 256), .int .u8 ((rY L : Int) / 16777216), .int .u8 ((rY L : Int) / 65536 % 256), .int .u8 ((rY L : Int) / 256 % 256), .int .u8 ((rY L : Int) % 256)]) (by simp only [results, Tryz.results48]; go_simp) rfl ⟨?_, ?_⟩
      · rw [dgv_eq, HL.out]
      · exact (((((((((hB.setCell (p := ⟨w.heap.size, 0, none⟩) (Nat.le_refl _) _).setCell (p := ⟨w.heap.size, 1, none⟩) (Nat.le_refl _) _).setCell (p := ⟨w.heap.size, 2, none⟩) (Nat.le_refl _) _).setCell (p := ⟨w.heap.size, 3, none⟩) (Nat.le_refl _) _).setCell (p := ⟨w.heap.size, 4, none⟩) (Nat.le_refl _) _).setCell (p := ⟨w.heap.size, 5, none⟩) (Nat.le_refl _) _).setCell (p := ⟨w.heap.size, 6, none⟩) (Nat.le_refl _) _).setCell (p := ⟨w.heap.size, 7, none⟩) (Nat.le_refl _) _).alloc (by simp only [World.size_setCell]; omega) _).drew.drew.drew.drew
end Go.Proofs.YthppcmejffdicaaGreatDoor
