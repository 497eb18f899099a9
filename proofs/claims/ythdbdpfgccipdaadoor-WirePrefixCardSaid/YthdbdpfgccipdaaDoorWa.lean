/- Numerals: what is read of a numeral, by either side; plain, of no program. -/
import Derived.Lib.AtoiAllCases
import Derived.Lib.ItoaLen
import Derived.Lib.ItoaMem
namespace Go.Proofs.YthdbdpfgccipdaaDoor.Num
open Go.Lib

def InI (v : Int) : Prop := -9223372036854775808 ≤ v ∧ v ≤ 9223372036854775807

theorem dig_toNat {i : Nat} (h : i < 10) : (UInt8.ofNat (48 + i)).toNat = 48 + i := by
  rw [UInt8.toNat_ofNat']; omega
theorem dec_ne_nil (u : Nat) : decDigits u ≠ [] := by
  rw [decDigits]; split <;> simp
theorem dec_digits : ∀ (u : Nat), ∀ c ∈ decDigits u, 48 ≤ c.toNat ∧ c.toNat ≤ 57 := by
  intro u
  induction u using Nat.strongRecOn with
  | _ u ih =>
    intro c hc
    rw [decDigits] at hc
    split at hc
    · rename_i h
      simp only [List.mem_singleton] at hc
      subst hc
      rw [dig_toNat h]; omega
    · rename_i h
      rcases List.mem_append.1 hc with hc | hc
      · exact ih (u / 10) (by omega) c hc
      · simp only [List.mem_singleton] at hc
        subst hc
        rw [dig_toNat (by omega)]; omega

/- parsing, from the left -/
theorem parse_append : ∀ (l r : List UInt8) (acc : Nat), parseUint10 acc (l ++ r) = match parseUint10 acc l with | .ok u => parseUint10 u r | e => e
  | [], r, acc => rfl
  | c :: l, r, acc => by
    simp only [List.cons_append, parseUint10]
    split
    · split
      · rfl
      · split
        · rfl
        · exact parse_append l r _
    · rfl
theorem parse_dec (u : Nat) (h : u < 18446744073709551616) : parseUint10 0 (decDigits u) = .ok u := by
  induction u using Nat.strongRecOn with
  | _ u ih =>
    rw [decDigits]
    split
    · rename_i h1
      simp only [parseUint10, dig_toNat h1]
      rw [if_pos (by omega), if_neg (by omega), if_neg (by omega)]
      congr 1; omega
    · rename_i h1
      rw [parse_append, ih (u / 10) (by omega) (by omega)]
      simp only [parseUint10, dig_toNat (show u % 10 < 10 by omega)]
      rw [if_pos (by omega), if_neg (by omega), if_neg (by omega)]
      congr 1; omega
theorem parseMag_dec (u : Nat) (h : u < 18446744073709551616) : parseMag (decDigits u) = .ok u := by
  unfold parseMag
  rw [if_neg (dec_ne_nil u), parse_dec u h]
theorem head_dec (u : Nat) : ∃ c r, decDigits u = c :: r ∧ 48 ≤ c.toNat ∧ c.toNat ≤ 57 := by
  match h : decDigits u with
  | [] => exact absurd h (dec_ne_nil u)
  | c :: r => exact ⟨c, r, rfl, dec_digits u c (by rw [h]; exact List.mem_cons_self)⟩
theorem atoi_itoa {v : Int} (h : InI v) : atoiAll (itoa v) = .ok v := by
  obtain ⟨h0, h1⟩ := h
  unfold itoa
  split
  · rename_i hn
    simp only [atoiAll]
    rw [show (45 : UInt8).toNat = 45 from rfl]
    simp only [or_true, if_true, parseMag_dec v.natAbs (by omega)]
    rw [if_neg (by simp), if_neg (by omega)]
    congr 1; omega
  · rename_i hn
    obtain ⟨c, r, e, k0, k1⟩ := head_dec v.toNat
    have hp := parseMag_dec v.toNat (by omega)
    rw [e] at hp ⊢
    simp only [atoiAll]
    rw [if_neg (by omega), hp]
    simp only
    rw [if_neg (by omega), if_neg (by omega), if_neg (by omega)]
    congr 1; omega

/- what a numeral says: of the given program -/
def num (d : List UInt8) : Option Int := match atoiAll d with | .ok v => if itoa v = d then some v else none | _ => none
theorem num_itoa {v : Int} (h : InI v) : num (itoa v) = some v := by
  unfold num; rw [atoi_itoa h]; simp
theorem num_some {d : List UInt8} {v : Int} (h : num d = some v) : itoa v = d ∧ InI v := by
  unfold num at h
  split at h
  · rename_i u hu
    split at h
    · rename_i hd
      simp only [Option.some.injEq] at h
      subst h
      exact ⟨hd, atoiAll_bounds hu⟩
    · cases h
  · cases h

/- of the reference: it computes with negative numbers -/
def negs (acc : Int) : List UInt8 → Option Int
  | [] => some acc
  | c :: r => if (c.toNat : Int) - 48 < 0 ∨ 9 < (c.toNat : Int) - 48 ∨ acc < -922337203685477580 ∨ (acc = -922337203685477580 ∧ 8 < (c.toNat : Int) - 48) then none else negs (10 * acc - ((c.toNat : Int) - 48)) r
theorem negs_append : ∀ (l r : List UInt8) (acc : Int), negs acc (l ++ r) = match negs acc l with | some u => negs u r | none => none
  | [], r, acc => rfl
  | c :: l, r, acc => by
    simp only [List.cons_append, negs]
    split
    · rfl
    · exact negs_append l r _
theorem negs_bounds : ∀ (l : List UInt8) (acc v : Int), -9223372036854775808 ≤ acc → acc ≤ 0 → negs acc l = some v → -9223372036854775808 ≤ v ∧ v ≤ 0
  | [], acc, v, h0, h1, h => by
    simp only [negs, Option.some.injEq] at h
    omega
  | c :: r, acc, v, h0, h1, h => by
    simp only [negs] at h
    split at h
    · cases h
    · exact negs_bounds r _ v (by omega) (by omega) h
theorem negs_dec (u : Nat) (h : u ≤ 9223372036854775808) : negs 0 (decDigits u) = some (-(u : Int)) := by
  induction u using Nat.strongRecOn with
  | _ u ih =>
    rw [decDigits]
    split
    · rename_i h1
      simp only [negs, dig_toNat h1]
      rw [if_neg (by omega)]
      congr 1; omega
    · rename_i h1
      rw [negs_append, ih (u / 10) (by omega) (by omega)]
      simp only [negs, dig_toNat (show u % 10 < 10 by omega)]
      rw [if_neg (by omega)]
      congr 1; omega
def rnum (d : List UInt8) : Option Int :=
  match negs 0 (if d.head? = some 45 then d.tail else d) with
  | none => none
  | some n => if d.head? = some 45 then (if itoa n = d then some n else none) else (if n = -9223372036854775808 then none else if itoa (-n) = d then some (-n) else none)
theorem rnum_some {d : List UInt8} {v : Int} (h : rnum d = some v) : itoa v = d ∧ InI v := by
  unfold rnum at h
  split at h
  · cases h
  · rename_i n hn
    have hb := negs_bounds _ 0 n (by omega) (by omega) hn
    split at h
    · split at h
      · rename_i he
        simp only [Option.some.injEq] at h
        subst h
        exact ⟨he, by unfold InI; omega⟩
      · cases h
    · split at h
      · cases h
      · split at h
        · rename_i he
          simp only [Option.some.injEq] at h
          subst h
          exact ⟨he, by unfold InI; omega⟩
        · cases h
theorem rnum_itoa {v : Int} (h : InI v) : rnum (itoa v) = some v := by
  obtain ⟨h0, h1⟩ := h
  by_cases hn : v < 0
  · have e : itoa v = 45 :: decDigits v.natAbs := by unfold itoa; rw [if_pos hn]
    unfold rnum
    rw [e]
    simp only [List.head?_cons, if_true, List.tail_cons]
    rw [negs_dec _ (by omega)]
    simp only
    have e2 : -((v.natAbs : Nat) : Int) = v := by omega
    rw [e2, e, if_pos rfl]
  · obtain ⟨c, r, e, k0, k1⟩ := head_dec v.toNat
    have e1 : itoa v = decDigits v.toNat := by unfold itoa; rw [if_neg hn]
    have hc : ¬ ((c :: r).head? = some (45 : UInt8)) := by
      intro hc
      simp only [List.head?_cons, Option.some.injEq] at hc
      subst hc
      exact absurd k0 (by decide)
    have hneg := negs_dec v.toNat (by omega)
    have e2 : - -((v.toNat : Nat) : Int) = v := by omega
    unfold rnum
    rw [e1, e]
    rw [e] at hneg
    rw [if_neg hc, hneg]
    simp only
    rw [if_neg hc, if_neg (by omega), e2, if_pos (e1.trans e)]
/- both sides read the same -/
theorem rnum_eq (d : List UInt8) : rnum d = num d := by
  match h : rnum d with
  | some v => obtain ⟨e, hv⟩ := rnum_some h; rw [← e, num_itoa hv]
  | none =>
    match h' : num d with
    | none => rfl
    | some v => obtain ⟨e, hv⟩ := num_some h'; rw [← e, rnum_itoa hv] at h; cases h
theorem num_length {d : List UInt8} {v : Int} (h : num d = some v) : d.length ≤ 21 := by
  obtain ⟨e, hv⟩ := num_some h
  rw [← e]; exact itoa_length_le v hv.1 hv.2
theorem itoa_inj {a b : Int} (ha : InI a) (hb : InI b) (h : itoa a = itoa b) : a = b := by
  have := num_itoa ha
  rw [h, num_itoa hb] at this
  simpa using this.symm
/- no sign of an end is in a numeral -/
theorem itoa_mem {v : Int} {c : UInt8} (h : c ∈ itoa v) : c.toNat = 45 ∨ (48 ≤ c.toNat ∧ c.toNat ≤ 57) := by
  unfold itoa at h
  split at h
  · rcases List.mem_cons.1 h with rfl | h
    · exact .inl rfl
    · exact .inr (dec_digits _ _ h)
  · exact .inr (dec_digits _ _ h)
theorem itoa_ne_nil (v : Int) : itoa v ≠ [] := by
  unfold itoa; split
  · simp
  · exact dec_ne_nil _
end Go.Proofs.YthdbdpfgccipdaaDoor.Num
