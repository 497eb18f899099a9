/- What a scan for the end of a numeral finds; plain, of no program. -/
import Derived.Test.YthdbdpfgccipdaaDoorWb
namespace Go.Proofs.YthdbdpfgccipdaaDoor.Num
open Go.Lib

theorem not_mem_of {c : UInt8} {q : List UInt8} (h : ∀ i, i < q.length → q.getD i 0 ≠ c) : c ∉ q := by
  intro hm
  obtain ⟨i, hi, e⟩ := List.getElem_of_mem hm
  exact h i hi (by simp [List.getD, List.getElem?_eq_getElem hi, e])
theorem scan_end {c : UInt8} {q : List UInt8} {j : Nat} (h : ∀ i, i < j → q.getD i 0 ≠ c) (hj : j = q.length) : rdNum c q = none := by
  subst hj
  unfold rdNum
  rw [cutB_none.2 (not_mem_of h)]
theorem scan_at {c : UInt8} {q : List UInt8} {j : Nat} (h : ∀ i, i < j → q.getD i 0 ≠ c) (hj : j < q.length) (hc : q.getD j 0 = c) : rdNum c q = (num (q.take j)).map fun v => (v, q.drop (j + 1)) := by
  have e : q = q.take j ++ c :: q.drop (j + 1) := by
    have h1 : q[j] = c := by rw [← hc]; simp [List.getD, List.getElem?_eq_getElem hj]
    rw [← h1, ← List.drop_eq_getElem_cons hj, List.take_append_drop]
  have hn : c ∉ q.take j := not_mem_of fun i hi => by
    have hi' : i < j := by simp at hi; omega
    have := h i hi'
    rw [List.getD, List.getElem?_take_of_lt hi']
    exact this
  unfold rdNum
  have hcut := cutB_at (q.take j) (q.drop (j + 1)) hn
  rw [← e] at hcut
  rw [hcut]
theorem scan_far {c : UInt8} {q : List UInt8} (h : ∀ i, i < 22 → q.getD i 0 ≠ c) : rdNum c q = none := by
  unfold rdNum
  match hc : cutB c q with
  | none => rfl
  | some (d, r) =>
    obtain ⟨e, _⟩ := cutB_some hc
    have hd : 22 ≤ d.length := by
      rcases Nat.lt_or_ge d.length 22 with hl | hl
      · exact absurd (by rw [e]; simp [List.getD]) (h d.length hl)
      · exact hl
    match hn : num d with
    | none => simp [hn]
    | some v => have := num_length hn; omega

/- the digits gone through, from the left -/
theorem negs_step {d : List UInt8} {i : Nat} {acc : Int} (hi : i < d.length) : negs acc (d.drop i) = (if ((d.getD i 0).toNat : Int) - 48 < 0 ∨ 9 < ((d.getD i 0).toNat : Int) - 48 ∨ acc < -922337203685477580 ∨ (acc = -922337203685477580 ∧ 8 < ((d.getD i 0).toNat : Int) - 48) then none else negs (10 * acc - (((d.getD i 0).toNat : Int) - 48)) (d.drop (i + 1))) := by
  have e : d.getD i 0 = d[i] := by simp [List.getD, List.getElem?_eq_getElem hi]
  rw [e, List.drop_eq_getElem_cons hi]
  rfl
theorem rnum_neg {d : List UInt8} (h : d.head? = some 45) : rnum d = match negs 0 (d.drop 1) with | none => none | some n => if itoa n = d then some n else none := by
  unfold rnum
  rw [if_pos h, List.drop_one]
  cases negs 0 d.tail with
  | none => rfl
  | some n => simp only; rw [if_pos h]
theorem rnum_pos {d : List UInt8} (h : ¬ d.head? = some 45) : rnum d = match negs 0 (d.drop 0) with | none => none | some n => if n = -9223372036854775808 then none else if itoa (-n) = d then some (-n) else none := by
  unfold rnum
  rw [if_neg h, List.drop_zero]
  cases negs 0 d with
  | none => rfl
  | some n => simp only; rw [if_neg h]
end Go.Proofs.YthdbdpfgccipdaaDoor.Num
