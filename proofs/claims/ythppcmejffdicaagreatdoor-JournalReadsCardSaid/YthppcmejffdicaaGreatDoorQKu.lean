/- Strings among the arguments. -/
import Derived.Test.YthppcmejffdicaaGreatDoorQKh
import Derived.ChangeSlices
import Derived.SliceStrings

set_option linter.unusedSimpArgs false
set_option linter.unusedVariables false
namespace Go.Proofs.YthppcmejffdicaaGreatDoor
open Go.RowKit Hach Num
open Go.ChangeShapes Go.WideShapes Go.ChangeAt

theorem texts_open {H : Type} {enc : TypeId × Value → H} {W : World} {fuel : Nat} {A : Option Addr} {n c : Nat} {x : DataW H × List MemPlace} (h : DataW.trod enc Tryz.prog W 0 (fun _ => true) true fuel 36 (Value.slice A n c).cells.toList = some x) :
    ∃ xs : List (List UInt8), RowT W W.heap.size A n xs ∧ n < 9223372036854775808 ∧ n ≤ c ∧ ∀ k, (xs.getD k []).length < 9223372036854775808 := by
  rcases open_strings Tryz.underlying36 Tryz.underlying9 (show Tryz.prog.cellsOf 9 = 1 by kernel_rfl) h with ⟨hcs, _⟩ | ⟨a, len, cap, ss, hcs, _, hl, hm, hz, _, hcell, hws⟩
  · simp [Value.cells] at hcs
    obtain ⟨rfl, rfl, rfl⟩ := hcs
    exact ⟨[], ⟨rfl, fun h => absurd h (by omega)⟩, by decide, Nat.le_refl _, fun k => by simp⟩
  · simp [Value.cells] at hcs
    obtain ⟨rfl, rfl, rfl⟩ := hcs
    have hz' : ss.length = c := by simpa using hz
    have hm' : c < 9223372036854775808 := by simp only [maxLen] at hm; omega
    refine ⟨(ss.take n).map (·.data.toList), ⟨by rw [List.length_map, List.length_take, hz']; omega, fun h0 => ?_⟩, by omega, hl, fun k => ?_⟩
    · obtain ⟨b, o, spot⟩ := a
      have hspot : spot = none := by simpa [Addr.add] using World.cell?_spot (hcell 0 (by omega))
      subst hspot
      have hb : b < W.heap.size := World.block_lt_of_cell? W _ (hcell 0 (by omega))
      refine ⟨b, o, rfl, hb, fun j hj => ?_⟩
      have := hcell j (by omega)
      rw [Go.WideShapes.add_plain] at this
      rw [this]
      have hjs : j < ss.length := by omega
      simp [List.getD, hj, hjs, txv]
    · by_cases hk : k < n
      · have hks : k < ss.length := by omega
        have := hws ss[k] (List.getElem_mem hks)
        simp only [maxLen] at this
        have e : (((ss.take n).map (·.data.toList)).getD k []) = ss[k].data.toList := by simp [List.getD, hk, hks]
        rw [e, Array.length_toList]
        exact Nat.lt_of_le_of_lt this (by decide)
      · have e : (((ss.take n).map (·.data.toList)).getD k []) = [] := by simp [List.getD, List.getElem?_take, hk]
        rw [e]; decide
end Go.Proofs.YthppcmejffdicaaGreatDoor
