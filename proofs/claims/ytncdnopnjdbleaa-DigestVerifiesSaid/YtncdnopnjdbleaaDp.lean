/- The levels of a tree as lists of what their digests are digests of; plain. -/
import Derived.Test.YtncdnopnjdbleaaDt
namespace Hach
open Go Go.RowKit

def lfP (s : ByteArray) : List UInt8 := cat [⟨#[3]⟩, s]
def misP : List UInt8 := cat [⟨#[5]⟩]
def fillP (l : List (List UInt8)) (c : Nat) : List (List UInt8) := l ++ List.replicate (c - l.length) misP
theorem fillP_length (l : List (List UInt8)) (c : Nat) (h : l.length ≤ c) : (fillP l c).length = c := by simp [fillP]; omega
theorem fillP_self (l : List (List UInt8)) : fillP l l.length = l := by simp [fillP]
theorem fillP_succ (l : List (List UInt8)) (k : Nat) (h : l.length ≤ k) : fillP l (k + 1) = fillP l k ++ [misP] := by
  unfold fillP
  rw [show k + 1 - l.length = (k - l.length) + 1 by omega, List.replicate_succ', List.append_assoc]
def lvsP (ss : List ByteArray) : List (List UInt8) := fillP (ss.map lfP) (p2 ss.length)
theorem lvsP_length (ss : List ByteArray) : (lvsP ss).length = p2 ss.length := fillP_length _ _ (by simpa using p2_ge ss.length)
theorem lvsP_dgs (ss : List ByteArray) : (lvsP ss).map dgs = lvs ss := by
  unfold lvsP lvs fillP fill
  rw [List.map_append, List.map_map, List.map_replicate]
  have e : (dgs ∘ lfP) = lf := by funext s; exact lf_cat s
  rw [e, show dgs misP = mis from mis_cat]
  simp
def ndP (a b : List UInt8) : List UInt8 := cat [⟨#[4]⟩, dgs a, dgs b]
def abvP : List (List UInt8) → List (List UInt8)
  | a :: b :: l => ndP a b :: abvP l
  | _ => []
theorem abvP_length : ∀ l : List (List UInt8), (abvP l).length = l.length / 2
  | [] => rfl
  | [_] => by simp [abvP]
  | a :: b :: l => by simp only [abvP, List.length_cons, abvP_length l]; omega
theorem abvP_dgs : ∀ l : List (List UInt8), (abvP l).map dgs = abv (l.map dgs)
  | [] => rfl
  | [_] => rfl
  | a :: b :: l => by
    simp only [abvP, List.map_cons, abv, abvP_dgs l]
    rw [show dgs (ndP a b) = node (dgs a) (dgs b) from node_cat _ _]
theorem abvP_get : ∀ (l : List (List UInt8)) (k : Nat), 2 * k + 1 < l.length → (abvP l).getD k [] = ndP (l.getD (2 * k) []) (l.getD (2 * k + 1) [])
  | [], k, h => by simp at h
  | [_], k, h => by simp at h
  | a :: b :: l, 0, _ => rfl
  | a :: b :: l, k + 1, h => by
    simp only [List.length_cons] at h
    have := abvP_get l k (by omega)
    simp only [abvP, List.getD_cons_succ]
    rw [this, show 2 * (k + 1) = 2 * k + 1 + 1 by omega]
    rfl

/- all levels, from the level l on -/
def allF : Nat → List (List UInt8) → List (List (List UInt8))
  | 0, l => [l]
  | f + 1, l => if 1 < l.length then l :: allF f (abvP l) else [l]
theorem allF_fuel : ∀ (f : Nat) (l : List (List UInt8)), l.length ≤ f → allF f l = allF l.length l
  | 0, l, h => by rw [show l.length = 0 by omega]
  | f + 1, l, h => by
    by_cases h1 : 1 < l.length
    · obtain ⟨m, hm⟩ : ∃ m, l.length = m + 1 := ⟨l.length - 1, by omega⟩
      have ha := abvP_length l
      rw [hm]
      simp only [allF, if_pos h1]
      rw [allF_fuel f (abvP l) (by omega)]
      by_cases hfm : m = f
      · subst hfm; rw [allF_fuel m (abvP l) (by omega)]
      · rw [allF_fuel m (abvP l) (by omega)]
    · by_cases h0 : l.length = 0
      · rw [h0]; simp only [allF, if_neg h1]
      · rw [show l.length = 1 by omega]; simp only [allF, if_neg h1]
def allL (l : List (List UInt8)) : List (List (List UInt8)) := allF l.length l
theorem allL_one {l : List (List UInt8)} (h : ¬ 1 < l.length) : allL l = [l] := by
  unfold allL
  by_cases h0 : l.length = 0
  · rw [h0]; rfl
  · rw [show l.length = 1 by omega]; simp only [allF, if_neg h]
theorem allL_two {l : List (List UInt8)} (h : 1 < l.length) : allL l = l :: allL (abvP l) := by
  unfold allL
  obtain ⟨m, hm⟩ : ∃ m, l.length = m + 1 := ⟨l.length - 1, by omega⟩
  rw [hm]
  simp only [allF, if_pos h]
  rw [allF_fuel m _ (by rw [abvP_length]; omega)]

/- the last of the levels is the root's -/
theorem allL_last : ∀ (f : Nat) (l : List (List UInt8)), l.length ≤ f → ∃ x, (allL l).getLast? = some x ∧ dgs (x.getD 0 []) = rootL (l.map dgs) ∨ l = []
  | 0, l, h => ⟨[], .inr (List.length_eq_zero_iff.1 (by omega))⟩
  | f + 1, l, h => by
    by_cases h1 : 1 < l.length
    · obtain ⟨x, hx⟩ := allL_last f (abvP l) (by rw [abvP_length]; omega)
      refine ⟨x, .inl ?_⟩
      rcases hx with ⟨h2, h3⟩ | h2
      · rw [allL_two h1, List.getLast?_cons, h2, rootL_abv (by simpa using h1), ← abvP_dgs]
        exact ⟨rfl, h3⟩
      · have := abvP_length l
        rw [h2] at this
        simp at this
        omega
    · by_cases h0 : l = []
      · exact ⟨[], .inr h0⟩
      · refine ⟨l, .inl ⟨by rw [allL_one h1]; rfl, ?_⟩⟩
        rw [rootL_one (by simpa using h1)]
        match l, h0 with
        | a :: l, _ => rfl

/- the proof, as the levels come -/
def prvStep (s : List ByteArray × Nat) (l : List (List UInt8)) : List ByteArray × Nat :=
  if 1 < l.length then (s.1 ++ [dgs (l.getD (nbr s.2) [])], s.2 / 2) else s
def prvAt (s : List ByteArray × Nat) (pre : List (List (List UInt8))) : List ByteArray × Nat := pre.foldl prvStep s
theorem prvAt_snoc (s : List ByteArray × Nat) (pre : List (List (List UInt8))) (x : List (List UInt8)) : prvAt s (pre ++ [x]) = prvStep (prvAt s pre) x := by simp [prvAt]
theorem getD_dgs (l : List (List UInt8)) (k : Nat) (h : k < l.length) : (l.map dgs).getD k ByteArray.empty = dgs (l.getD k []) := by
  simp [List.getD, List.getElem?_eq_getElem h]
theorem prvAt_all : ∀ (f : Nat) (l : List (List UInt8)) (s : List ByteArray × Nat), l.length ≤ f → Pow2 l.length → s.2 < l.length → (prvAt s (allL l)).1 = s.1 ++ prvL (l.map dgs) s.2
  | 0, l, s, h, _, hs => by omega
  | f + 1, l, s, h, hp, hs => by
    by_cases h1 : 1 < l.length
    · obtain ⟨q1, q2⟩ := hp.half h1
      have ha := abvP_length l
      rw [allL_two h1]
      show (prvAt (prvStep s l) (allL (abvP l))).1 = _
      have := prvAt_all f (abvP l) (prvStep s l) (by omega) (by rw [ha]; exact q1) (by simp only [prvStep, if_pos h1]; omega)
      rw [this, prvL_abv (l := l.map dgs) _ (by simpa using h1)]
      simp only [prvStep, if_pos h1, abvP_dgs]
      rw [getD_dgs _ _ (nbr_lt hp h1 hs), List.append_assoc]
      rfl
    · rw [allL_one h1, prvL_one _ (by simpa using h1)]
      show (prvStep s l).1 = _
      simp only [prvStep, if_neg h1, List.append_nil]
theorem prvAt_in : ∀ (pre : List (List (List UInt8))) (l : List (List UInt8)) (s : List ByteArray × Nat) (x : List (List UInt8)) (post : List (List (List UInt8))), allL l = pre ++ x :: post → Pow2 l.length → s.2 < l.length → Pow2 x.length ∧ (prvAt s pre).2 < x.length ∧ x.length ≤ l.length
  | [], l, s, x, post, h, hp, hs => by
    have e : x = l := by
      by_cases h1 : 1 < l.length
      · rw [allL_two h1] at h; simp at h; exact h.1.symm
      · rw [allL_one h1] at h; simp at h; exact h.1.symm
    subst e
    exact ⟨hp, hs, Nat.le_refl _⟩
  | y :: pre, l, s, x, post, h, hp, hs => by
    by_cases h1 : 1 < l.length
    · obtain ⟨q1, q2⟩ := hp.half h1
      have ha := abvP_length l
      rw [allL_two h1] at h
      simp only [List.cons_append, List.cons.injEq] at h
      obtain ⟨rfl, h⟩ := h
      have := prvAt_in pre (abvP l) (prvStep s l) x post h (by rw [ha]; exact q1) (by simp only [prvStep, if_pos h1]; omega)
      refine ⟨this.1, this.2.1, by omega⟩
    · rw [allL_one h1] at h
      simp at h
theorem prvAt_len : ∀ (pre : List (List (List UInt8))) (s : List ByteArray × Nat), (prvAt s pre).1.length ≤ s.1.length + pre.length
  | [], s => Nat.le_refl _
  | x :: pre, s => by
    have := prvAt_len pre (prvStep s x)
    show (prvAt (prvStep s x) pre).1.length ≤ _
    unfold prvStep at this ⊢
    split
    · rename_i h; rw [if_pos h] at this; simp at this ⊢; omega
    · rename_i h; rw [if_neg h] at this; simp at this ⊢; omega

/- powers of two, by their bits -/
theorem land_half (m : Nat) : (m &&& (m - 1)) / 2 = m / 2 &&& (m - 1) / 2 := by
  have := Nat.and_div_two_pow (a := m) (b := m - 1) (n := 1)
  simpa using this
theorem land_odd (m : Nat) : (m &&& (m - 1)) % 2 = 0 := by
  have := Nat.and_mod_two_pow (a := m) (b := m - 1) (n := 1)
  rw [Nat.pow_one] at this
  rw [this]
  rcases Nat.mod_two_eq_zero_or_one m with h | h
  · rw [h]; simp
  · rw [show (m - 1) % 2 = 0 by omega]; simp
theorem pow2_land : ∀ j : Nat, 2 ^ j &&& (2 ^ j - 1) = 0
  | 0 => rfl
  | j + 1 => by
    have h1 := land_half (2 ^ (j + 1))
    have h2 := land_odd (2 ^ (j + 1))
    have e : 2 ^ (j + 1) = 2 ^ j * 2 := Nat.pow_succ ..
    have hp : 1 ≤ 2 ^ j := Nat.one_le_two_pow
    rw [show 2 ^ (j + 1) / 2 = 2 ^ j by omega, show (2 ^ (j + 1) - 1) / 2 = 2 ^ j - 1 by omega, pow2_land j] at h1
    omega
theorem land_pow2 : ∀ (f m : Nat), m ≤ f → 1 ≤ m → m &&& (m - 1) = 0 → Pow2 m
  | 0, m, h, h1, _ => by omega
  | f + 1, m, h, h1, h0 => by
    by_cases e : m = 1
    · exact ⟨0, e⟩
    · have hh := land_half m
      rw [h0] at hh
      by_cases ho : m % 2 = 0
      · rw [show (m - 1) / 2 = m / 2 - 1 by omega] at hh
        obtain ⟨j, hj⟩ := land_pow2 f (m / 2) (by omega) (by omega) hh.symm
        exact ⟨j + 1, by rw [Nat.pow_succ]; omega⟩
      · rw [show (m - 1) / 2 = m / 2 by omega, Nat.and_self] at hh
        omega
/- between n and the power of two there is no power of two -/
theorem land_no {n m : Nat} (h1 : n ≤ m) (h2 : m < p2 n) (h0 : 1 ≤ m) : ¬ m &&& (m - 1) = 0 := by
  intro h
  obtain ⟨j, hj⟩ := land_pow2 m m (Nat.le_refl _) h0 h
  obtain ⟨i, hi, h3, h4⟩ := p2_is n
  rw [hi, hj] at h2
  have hij : j < i := (Nat.pow_lt_pow_iff_right (by omega)).1 h2
  rcases h4 with rfl | h4
  · omega
  · have : 2 ^ j ≤ 2 ^ (i - 1) := Nat.pow_le_pow_right (by omega) (by omega)
    omega
theorem land_yes (n : Nat) : p2 n &&& (p2 n - 1) = 0 := by
  obtain ⟨j, hj⟩ := pow2_p2 n
  rw [hj]; exact pow2_land j
end Hach
