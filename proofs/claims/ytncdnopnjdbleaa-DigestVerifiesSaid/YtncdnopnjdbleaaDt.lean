/- Trees of digests, in plain words. -/
import Derived.Test.YtncdnopnjdbleaaDa
namespace Hach
open Go Go.RowKit

/- the length of a slice -/
def lenOf : Value → Nat
  | .slice _ n _ => n
  | _ => 0
/- the least power of two that is not less than n -/
def IsP2 (n c : Nat) : Prop := ∃ j, c = 2 ^ j ∧ n ≤ c ∧ (j = 0 ∨ 2 ^ (j - 1) < n)
theorem IsP2.one {n c d : Nat} (h : IsP2 n c) (k : IsP2 n d) : c = d := by
  obtain ⟨i, rfl, h1, h2⟩ := h
  obtain ⟨j, rfl, k1, k2⟩ := k
  have key : ∀ a b : Nat, n ≤ 2 ^ a → (b = 0 ∨ 2 ^ (b - 1) < n) → b ≤ a := fun a b ha hb => by
    rcases hb with rfl | hb
    · omega
    · rcases Nat.lt_or_ge a b with h | h
      · have : 2 ^ a ≤ 2 ^ (b - 1) := Nat.pow_le_pow_right (by omega) (by omega)
        omega
      · exact h
  have := key i j h1 k2
  have := key j i k1 h2
  rw [show i = j by omega]
def p2f : Nat → Nat → Nat
  | 0, _ => 1
  | f + 1, n => if n ≤ 1 then 1 else 2 * p2f f ((n + 1) / 2)
theorem p2f_is : ∀ f n : Nat, n ≤ f → IsP2 n (p2f f n)
  | 0, n, h => ⟨0, rfl, by simp [p2f]; omega, .inl rfl⟩
  | f + 1, n, hf => by
    unfold p2f
    by_cases h : n ≤ 1
    · rw [if_pos h]; exact ⟨0, rfl, h, .inl rfl⟩
    · rw [if_neg h]
      obtain ⟨j, e, h1, h2⟩ := p2f_is f ((n + 1) / 2) (by omega)
      rw [e] at h1 ⊢
      refine ⟨j + 1, by rw [Nat.pow_succ]; omega, by omega, .inr ?_⟩
      rw [Nat.add_sub_cancel]
      rcases h2 with rfl | h2
      · simp; omega
      · by_cases hj : j = 0
        · subst hj; simp; omega
        · have e : 2 ^ j = 2 ^ (j - 1) * 2 := by rw [← Nat.pow_succ]; congr 1; omega
          rw [e]
          omega
def p2 (n : Nat) : Nat := p2f n n
theorem p2_is (n : Nat) : IsP2 n (p2 n) := p2f_is n n (Nat.le_refl _)
theorem p2_of {n c : Nat} (h : IsP2 n c) : p2 n = c := (p2_is n).one h
theorem p2_ge (n : Nat) : n ≤ p2 n := by obtain ⟨_, _, h, _⟩ := p2_is n; exact h
theorem p2_le {n m : Nat} (hn : 1 ≤ m) (h : n ≤ m) : p2 n < 2 * m := by
  obtain ⟨j, e, _, h2⟩ := p2_is n
  rcases h2 with rfl | h2
  · rw [e]; simp; omega
  · by_cases hj : j = 0
    · subst hj; rw [e]; simp; omega
    · have : 2 ^ j = 2 ^ (j - 1) * 2 := by rw [← Nat.pow_succ]; congr 1; omega
      rw [e]; omega
theorem p2_pos (n : Nat) : 1 ≤ p2 n := by obtain ⟨j, e, _, _⟩ := p2_is n; rw [e]; exact Nat.one_le_two_pow

/- the digest of what is missing; level 0; the next level -/
def mis : ByteArray := dg ⟨#[5]⟩
theorem mis_size : mis.size = 8 := rfl
theorem mis_cat : dgs (cat [⟨#[5]⟩]) = mis := by rw [mis, dg_dgs]; simp [cat]
def fill (l : List ByteArray) (c : Nat) : List ByteArray := l ++ List.replicate (c - l.length) mis
theorem fill_length (l : List ByteArray) (c : Nat) (h : l.length ≤ c) : (fill l c).length = c := by simp [fill]; omega
def lvs (ss : List ByteArray) : List ByteArray := fill (ss.map lf) (p2 ss.length)
theorem lvs_length (ss : List ByteArray) : (lvs ss).length = p2 ss.length := fill_length _ _ (by simpa using p2_ge ss.length)
theorem fill_self (l : List ByteArray) : fill l l.length = l := by simp [fill]
theorem fill_succ (l : List ByteArray) (k : Nat) (h : l.length ≤ k) : fill l (k + 1) = fill l k ++ [mis] := by
  unfold fill
  rw [show k + 1 - l.length = (k - l.length) + 1 by omega, List.replicate_succ', List.append_assoc]
/- a power of two on the way up -/
def Half (n c : Nat) : Prop := ∃ j, c = 2 ^ j ∧ (j = 0 ∨ 2 ^ (j - 1) < n)
theorem Half.one (n : Nat) : Half n 1 := ⟨0, rfl, .inl rfl⟩
theorem Half.two {n c : Nat} (h : Half n c) (hc : c < n) : Half n (2 * c) := by
  obtain ⟨j, rfl, _⟩ := h
  exact ⟨j + 1, by rw [Nat.pow_succ]; omega, .inr (by rw [Nat.add_sub_cancel]; exact hc)⟩
theorem Half.p2 {n c : Nat} (h : Half n c) (hc : n ≤ c) : p2 n = c := by
  obtain ⟨j, rfl, h2⟩ := h
  exact p2_of ⟨j, rfl, hc, h2⟩
def abv : List ByteArray → List ByteArray
  | a :: b :: l => node a b :: abv l
  | _ => []
theorem abv_length : ∀ l : List ByteArray, (abv l).length = l.length / 2
  | [] => rfl
  | [_] => by simp [abv]
  | a :: b :: l => by simp only [abv, List.length_cons, abv_length l]; omega
theorem abv_get : ∀ (l : List ByteArray) (k : Nat), 2 * k + 1 < l.length → (abv l).getD k ByteArray.empty = node (l.getD (2 * k) ByteArray.empty) (l.getD (2 * k + 1) ByteArray.empty)
  | [], k, h => by simp at h
  | [_], k, h => by simp at h
  | a :: b :: l, 0, _ => rfl
  | a :: b :: l, k + 1, h => by
    simp only [List.length_cons] at h
    have := abv_get l k (by omega)
    simp only [abv, List.getD_cons_succ]
    rw [this, show 2 * (k + 1) = 2 * k + 1 + 1 by omega]
    rfl
theorem abv_take_succ (l : List ByteArray) (k : Nat) (h : 2 * k + 1 < l.length) : (abv l).take (k + 1) = (abv l).take k ++ [node (l.getD (2 * k) ByteArray.empty) (l.getD (2 * k + 1) ByteArray.empty)] := by
  have hl : k < (abv l).length := by rw [abv_length]; omega
  rw [List.take_succ_eq_append_getElem hl, ← abv_get l k h]
  simp [List.getD, List.getElem?_eq_getElem hl]

/- all are digests -/
def Dgs (l : List ByteArray) : Prop := ∀ s ∈ l, s.size = 8
theorem Dgs.sm {l : List ByteArray} (h : Dgs l) : Sm l := fun k => by
  by_cases hk : k < l.length
  · simp only [List.getD, List.getElem?_eq_getElem hk, Option.getD_some]
    rw [h _ (List.getElem_mem hk)]; omega
  · simp only [List.getD, List.getElem?_eq_none (Nat.le_of_not_lt hk), Option.getD_none]
    exact Nat.zero_lt_succ _
theorem Dgs.at_ {l : List ByteArray} (h : Dgs l) {k : Nat} (hk : k < l.length) : (l.getD k ByteArray.empty).size = 8 := by
  simp only [List.getD, List.getElem?_eq_getElem hk, Option.getD_some]
  exact h _ (List.getElem_mem hk)
theorem dgs_abv : ∀ l : List ByteArray, Dgs (abv l)
  | [] => fun s h => by cases h
  | [_] => fun s h => by cases h
  | a :: b :: l => fun s h => by
    simp only [abv, List.mem_cons] at h
    rcases h with rfl | h
    · rfl
    · exact dgs_abv l s h
theorem dgs_lvs (ss : List ByteArray) : Dgs (lvs ss) := fun s h => by
  simp only [lvs, fill, List.mem_append, List.mem_map, List.mem_replicate] at h
  rcases h with ⟨x, _, rfl⟩ | ⟨_, rfl⟩ <;> rfl

/- the root, and a proof, of a level -/
def rootF : Nat → List ByteArray → ByteArray
  | 0, l => l.getD 0 ByteArray.empty
  | f + 1, l => if 1 < l.length then rootF f (abv l) else l.getD 0 ByteArray.empty
theorem rootF_fuel : ∀ (f : Nat) (l : List ByteArray), l.length ≤ f → rootF f l = rootF l.length l
  | 0, l, h => by rw [show l.length = 0 by omega]
  | f + 1, l, h => by
    by_cases h1 : 1 < l.length
    · obtain ⟨m, hm⟩ : ∃ m, l.length = m + 1 := ⟨l.length - 1, by omega⟩
      have ha := abv_length l
      rw [hm]
      simp only [rootF, if_pos h1]
      rw [rootF_fuel f (abv l) (by omega)]
      by_cases hfm : m = f
      · subst hfm; rw [rootF_fuel m (abv l) (by omega)]
      · rw [rootF_fuel m (abv l) (by omega)]
    · by_cases h0 : l.length = 0
      · rw [h0]; simp only [rootF, if_neg h1]
      · rw [show l.length = 1 by omega]; simp only [rootF, if_neg h1]
def rootL (l : List ByteArray) : ByteArray := rootF l.length l
theorem rootL_one {l : List ByteArray} (h : ¬ 1 < l.length) : rootL l = l.getD 0 ByteArray.empty := by
  unfold rootL
  by_cases h0 : l.length = 0
  · rw [h0]; rfl
  · rw [show l.length = 1 by omega]; simp only [rootF, if_neg h]
theorem rootL_abv {l : List ByteArray} (h : 1 < l.length) : rootL l = rootL (abv l) := by
  unfold rootL
  obtain ⟨m, hm⟩ : ∃ m, l.length = m + 1 := ⟨l.length - 1, by omega⟩
  rw [hm]
  simp only [rootF, if_pos h]
  exact rootF_fuel m _ (by rw [abv_length]; omega)
def prvF : Nat → List ByteArray → Nat → List ByteArray
  | 0, _, _ => []
  | f + 1, l, i => if 1 < l.length then l.getD (nbr i) ByteArray.empty :: prvF f (abv l) (i / 2) else []
theorem prvF_fuel : ∀ (f : Nat) (l : List ByteArray) (i : Nat), l.length ≤ f → prvF f l i = prvF l.length l i
  | 0, l, i, h => by rw [show l.length = 0 by omega]
  | f + 1, l, i, h => by
    by_cases h1 : 1 < l.length
    · obtain ⟨m, hm⟩ : ∃ m, l.length = m + 1 := ⟨l.length - 1, by omega⟩
      have ha := abv_length l
      rw [hm]
      simp only [prvF, if_pos h1]
      rw [prvF_fuel f (abv l) _ (by omega)]
      by_cases hfm : m = f
      · subst hfm; rw [prvF_fuel m (abv l) _ (by omega)]
      · rw [prvF_fuel m (abv l) _ (by omega)]
    · by_cases h0 : l.length = 0
      · rw [h0]; simp only [prvF, if_neg h1]
      · rw [show l.length = 1 by omega]; simp only [prvF, if_neg h1]
def prvL (l : List ByteArray) (i : Nat) : List ByteArray := prvF l.length l i
theorem prvL_one {l : List ByteArray} (i : Nat) (h : ¬ 1 < l.length) : prvL l i = [] := by
  unfold prvL
  by_cases h0 : l.length = 0
  · rw [h0]; rfl
  · rw [show l.length = 1 by omega]; simp only [prvF, if_neg h]
theorem prvL_abv {l : List ByteArray} (i : Nat) (h : 1 < l.length) : prvL l i = l.getD (nbr i) ByteArray.empty :: prvL (abv l) (i / 2) := by
  unfold prvL
  obtain ⟨m, hm⟩ : ∃ m, l.length = m + 1 := ⟨l.length - 1, by omega⟩
  rw [hm]
  simp only [prvF, if_pos h]
  rw [prvF_fuel m _ _ (by rw [abv_length]; omega)]
def rootS (ss : List ByteArray) : ByteArray := rootL (lvs ss)
def prvS (ss : List ByteArray) (i : Nat) : List ByteArray := prvL (lvs ss) i
theorem up_size : ∀ (ps : List ByteArray) (d : ByteArray) (i : Nat) (e : ByteArray), d.size = 8 → up ps d i = some e → e.size = 8
  | [], d, i, e, h, hu => by simp [up] at hu; rw [← hu]; exact h
  | p :: ps, d, i, e, h, hu => by
    simp only [up] at hu
    split at hu
    · refine up_size ps _ _ e ?_ hu
      split <;> rfl
    · cases hu
theorem ver_size {r x : ByteArray} {i : Int} {ps : List ByteArray} (h : ¬ r.size = 8) : ver r x i ps = false := by
  unfold ver
  cases hu : upF (lf x) i ps with
  | none => rfl
  | some d =>
    have hd : d.size = 8 := by
      unfold upF at hu
      split at hu
      · exact up_size ps _ _ d rfl hu
      · cases hu
    show (d.toList == r.toList) = false
    rw [beq_eq_false_iff_ne, ByteArray.toList_eq, ByteArray.toList_eq]
    intro e
    rw [ba_ext e] at hd
    exact h hd
theorem ver_neg {r x : ByteArray} {i : Int} {ps : List ByteArray} (h : upOk i ps.length = false) : ver r x i ps = false := by
  unfold ver
  rw [upF_neg h]
theorem ver_pos {r x : ByteArray} {i : Nat} {ps : List ByteArray} (h : upOk i ps.length = true) : ver r x i ps = match up ps (lf x) i with | some d => d.toList == r.toList | none => false := by
  unfold ver
  rw [upF_pos h]
  rfl
/- levels of powers of two -/
def Pow2 (n : Nat) : Prop := ∃ j, n = 2 ^ j
theorem pow2_p2 (n : Nat) : Pow2 (p2 n) := by obtain ⟨j, e, _⟩ := p2_is n; exact ⟨j, e⟩
theorem Pow2.half {n : Nat} (h : Pow2 n) (h1 : 1 < n) : Pow2 (n / 2) ∧ n = 2 * (n / 2) := by
  obtain ⟨j, rfl⟩ := h
  cases j with
  | zero => simp at h1
  | succ j => exact ⟨⟨j, by rw [Nat.pow_succ]; omega⟩, by rw [Nat.pow_succ]; omega⟩
theorem nbr_lt {n i : Nat} (h : Pow2 n) (h1 : 1 < n) (hi : i < n) : nbr i < n := by
  have := (h.half h1).2
  unfold nbr
  split <;> omega
theorem rootL_size : ∀ (f : Nat) (l : List ByteArray), l.length ≤ f → 0 < l.length → Dgs l → (rootL l).size = 8
  | 0, l, h, h0, _ => by omega
  | f + 1, l, h, h0, hd => by
    by_cases h1 : 1 < l.length
    · rw [rootL_abv h1]
      exact rootL_size f (abv l) (by rw [abv_length]; omega) (by rw [abv_length]; omega) (dgs_abv l)
    · rw [rootL_one h1]; exact hd.at_ h0
theorem rootS_size (ss : List ByteArray) : (rootS ss).size = 8 := rootL_size _ _ (Nat.le_refl _) (by rw [lvs_length]; exact p2_pos _) (dgs_lvs ss)
end Hach
