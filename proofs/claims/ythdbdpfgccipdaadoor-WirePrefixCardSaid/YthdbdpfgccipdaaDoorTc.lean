/- The plain law of WirePrefix: serializations are equal exactly if the values are, and none is a proper prefix of the other. -/
import Derived.Test.YthdbdpfgccipdaaDoorTa
namespace Go.Proofs.YthdbdpfgccipdaaDoor
open Go.RowKit Hach Num

theorem Num.Twin.law {α : Type} {f : List UInt8 → Option (α × List UInt8)} {g : α → List UInt8} {V : α → Prop} (T : Num.Twin f g V) {v u : α} (hv : V v) (hu : V u) :
    (g v = g u ↔ v = u) ∧ ((g v).take (min (g v).length (g u).length) = (g u).take (min (g v).length (g u).length) ↔ v = u) := by
  refine ⟨⟨fun h => (T.begins (q := []) hv hu (by simpa using h)).1, fun h => by rw [h]⟩, ⟨fun h => ?_, fun h => by rw [h]⟩⟩
  rcases Nat.le_total (g v).length (g u).length with hl | hl
  · rw [Nat.min_eq_left hl, List.take_of_length_le (Nat.le_refl _)] at h
    exact ((T.begins (q := (g u).drop (g v).length) hu hv ((List.take_append_drop (g v).length (g u)).symm.trans (congrArg (· ++ (g u).drop (g v).length) h.symm))).1).symm
  · rw [Nat.min_eq_right hl, List.take_of_length_le (l := g u) (Nat.le_refl _)] at h
    exact (T.begins (q := (g v).drop (g u).length) hv hu ((List.take_append_drop (g u).length (g v)).symm.trans (congrArg (· ++ (g v).drop (g u).length) h))).1

def eqs (z : Nat) (n1 n2 : Int) (s1 s2 : List UInt8) (x1 x2 : List Int) (t1 t2 : List (List UInt8)) : Bool := match z with
  | 0 => decide (n1 = n2)
  | 1 => decide (s1 = s2)
  | 2 => decide (x1 = x2)
  | _ => decide (t1 = t2)

theorem ser_law {z : Nat} (hz : z < 4) {n1 n2 : Int} {s1 s2 : List UInt8} {x1 x2 : List Int} {t1 t2 : List (List UInt8)} (hn1 : InI n1) (hs1 : s1.length ≤ 100) (hV1 : ∀ x ∈ x1, InI x) (hT1 : ∀ t ∈ t1, t.length ≤ 100)
    (hn2 : InI n2) (hs2 : s2.length ≤ 100) (hV2 : ∀ x ∈ x2, InI x) (hT2 : ∀ t ∈ t2, t.length ≤ 100) :
    ∃ e : Bool, eqs z n1 n2 s1 s2 x1 x2 t1 t2 = e ∧ decide (ser z n1 s1 x1 t1 = ser z n2 s2 x2 t2) = e ∧
      decide ((ser z n1 s1 x1 t1).take (min (ser z n1 s1 x1 t1).length (ser z n2 s2 x2 t2).length) = (ser z n2 s2 x2 t2).take (min (ser z n1 s1 x1 t1).length (ser z n2 s2 x2 t2).length)) = e := by
  refine ⟨_, rfl, ?_⟩
  have hI1 : InI (s1.length : Int) := ⟨by omega, by omega⟩
  have hI2 : InI (s2.length : Int) := ⟨by omega, by omega⟩
  have hJ1 : ∀ t ∈ t1, InI (t.length : Int) := fun t ht => by have := hT1 t ht; exact ⟨by omega, by omega⟩
  have hJ2 : ∀ t ∈ t2, InI (t.length : Int) := fun t ht => by have := hT2 t ht; exact ⟨by omega, by omega⟩
  match z, hz with
  | 0, _ => exact ⟨decide_eq_decide.2 (twinInt.law hn1 hn2).1, decide_eq_decide.2 (twinInt.law hn1 hn2).2⟩
  | 1, _ => exact ⟨decide_eq_decide.2 (twinText.law hI1 hI2).1, decide_eq_decide.2 (twinText.law hI1 hI2).2⟩
  | 2, _ => exact ⟨decide_eq_decide.2 ((twinList twinInt).law hV1 hV2).1, decide_eq_decide.2 ((twinList twinInt).law hV1 hV2).2⟩
  | 3, _ => exact ⟨decide_eq_decide.2 ((twinList twinText).law hJ1 hJ2).1, decide_eq_decide.2 ((twinList twinText).law hJ1 hJ2).2⟩

/- the address of a string -/
def adAt (z : Nat) (x : ByteArray) : SP := ⟨fun v W => ∃ g, v = .pointer (some ⟨g, z, none⟩) ∧ g < W.heap.size ∧ W.cell? ⟨g, z, none⟩ = some (.string x), fun h hE => by
  obtain ⟨g, e, hg, h0⟩ := h
  exact ⟨g, e, Nat.lt_of_lt_of_le hg hE.sz, (hE.old (p := ⟨g, z, none⟩) hg).trans h0⟩⟩
end Go.Proofs.YthdbdpfgccipdaaDoor
