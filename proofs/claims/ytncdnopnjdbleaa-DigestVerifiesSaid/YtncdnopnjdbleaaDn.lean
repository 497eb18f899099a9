/- Plain: how a proof changes when a list gets one string more. -/
import Derived.Test.YtncdnopnjdbleaaDy
import Derived.Test.YtncdnopnjdbleaaDp
namespace Hach
open Go Go.RowKit

/- in how many places two lists differ -/
def dif : List ByteArray → List ByteArray → Nat
  | x :: a, y :: b => (if x = y then 0 else 1) + dif a b
  | _, _ => 0
theorem dif_self : ∀ a : List ByteArray, dif a a = 0
  | [] => rfl
  | x :: a => by simp [dif, dif_self a]
theorem dif_take : ∀ (a b : List ByteArray) (k : Nat), k < a.length → k < b.length → dif (a.take (k + 1)) (b.take (k + 1)) = dif (a.take k) (b.take k) + (if a.getD k ByteArray.empty = b.getD k ByteArray.empty then 0 else 1)
  | [], b, k, h, _ => by simp at h
  | x :: a, [], k, _, h => by simp at h
  | x :: a, y :: b, 0, _, _ => by simp [dif]
  | x :: a, y :: b, k + 1, h1, h2 => by
    have := dif_take a b k (by simpa using h1) (by simpa using h2)
    simp only [List.take_succ_cons, dif, List.getD_cons_succ] at this ⊢
    rw [this]; omega
theorem dif_more : ∀ (a : List ByteArray) (b : List ByteArray), dif a ((a ++ b).take a.length) = 0 := fun a b => by
  rw [List.take_left]; exact dif_self a

/- two levels that differ in the place z at most -/
def But (z : Nat) (L M : List ByteArray) : Prop := L.length = M.length ∧ ∀ k, k ≠ z → L.getD k ByteArray.empty = M.getD k ByteArray.empty
theorem But.abv {z : Nat} {L M : List ByteArray} (h : But z L M) : But (z / 2) (abv L) (abv M) := by
  refine ⟨by rw [abv_length, abv_length, h.1], fun k hk => ?_⟩
  by_cases hl : 2 * k + 1 < L.length
  · rw [abv_get L k hl, abv_get M k (by rw [← h.1]; exact hl), h.2 (2 * k) (by omega), h.2 (2 * k + 1) (by omega)]
  · have e1 := abv_length L
    have e2 := abv_length M
    have e3 := h.1
    simp only [List.getD]
    rw [List.getElem?_eq_none (by omega), List.getElem?_eq_none (by omega)]
theorem nbr_ne (i : Nat) : nbr i ≠ i := by unfold nbr; split <;> omega
theorem nbr_half (i : Nat) : nbr i / 2 = i / 2 := by unfold nbr; split <;> omega
theorem prv_at : ∀ (f : Nat) (L M : List ByteArray) (i : Nat), L.length ≤ f → But i L M → prvL L i = prvL M i
  | 0, L, M, i, h, hb => by rw [prvL_one (l := L) _ (by omega), prvL_one (l := M) _ (by have := hb.1; omega)]
  | f + 1, L, M, i, h, hb => by
    have e := hb.1
    by_cases h1 : 1 < L.length
    · rw [prvL_abv (l := L) _ h1, prvL_abv (l := M) _ (by omega), hb.2 _ (nbr_ne i), prv_at f (abv L) (abv M) (i / 2) (by rw [abv_length]; omega) hb.abv]
    · rw [prvL_one (l := L) _ h1, prvL_one (l := M) _ (by omega)]
theorem prv_but : ∀ (f : Nat) (L M : List ByteArray) (i z : Nat), L.length ≤ f → But z L M → i ≠ z → (prvL L i).length = (prvL M i).length ∧ dif (prvL L i) (prvL M i) ≤ 1
  | 0, L, M, i, z, h, hb, hz => by
    rw [prvL_one (l := L) _ (by omega), prvL_one (l := M) _ (by have := hb.1; omega)]; exact ⟨rfl, Nat.zero_le _⟩
  | f + 1, L, M, i, z, h, hb, hz => by
    have e := hb.1
    by_cases h1 : 1 < L.length
    · rw [prvL_abv (l := L) _ h1, prvL_abv (l := M) _ (by omega)]
      by_cases hn : nbr i = z
      · have hh : i / 2 = z / 2 := by rw [← hn, nbr_half]
        have ha := hb.abv
        rw [← hh] at ha
        have he := prv_at f (abv L) (abv M) (i / 2) (by rw [abv_length]; omega) ha
        rw [he]
        refine ⟨rfl, ?_⟩
        simp only [dif, dif_self]
        split <;> omega
      · have ih := prv_but f (abv L) (abv M) (i / 2) (z / 2) (by rw [abv_length]; omega) hb.abv (fun e2 => by unfold nbr at hn; split at hn <;> omega)
        rw [hb.2 _ hn]
        refine ⟨by simp only [List.length_cons]; omega, ?_⟩
        simp only [dif, if_true]
        omega
    · rw [prvL_one (l := L) _ h1, prvL_one (l := M) _ (by omega)]; exact ⟨rfl, Nat.zero_le _⟩
/- a level, and one twice as long that begins with it -/
theorem prv_more : ∀ (f : Nat) (L M : List ByteArray) (i : Nat), L.length ≤ f → Pow2 L.length → M.length = 2 * L.length → (∀ k, k < L.length → M.getD k ByteArray.empty = L.getD k ByteArray.empty) → i < L.length → ∃ x, prvL M i = prvL L i ++ [x]
  | 0, L, M, i, h, _, _, _, hi => by omega
  | f + 1, L, M, i, h, hp, hm, hk, hi => by
    by_cases h1 : 1 < L.length
    · obtain ⟨q1, q2⟩ := hp.half h1
      have ha := abv_length L
      have hb := abv_length M
      obtain ⟨x, hx⟩ := prv_more f (abv L) (abv M) (i / 2) (by omega) (by rw [ha]; exact q1) (by omega) (fun k hkl => by
        rw [abv_get M k (by omega), abv_get L k (by omega), hk _ (by omega), hk _ (by omega)]) (by omega)
      refine ⟨x, ?_⟩
      rw [prvL_abv (l := M) _ (by omega), prvL_abv (l := L) _ h1, hk _ (nbr_lt hp h1 hi), hx, List.cons_append]
    · have hM : 1 < M.length := by omega
      refine ⟨M.getD (nbr i) ByteArray.empty, ?_⟩
      rw [prvL_abv (l := M) _ hM, prvL_one (l := L) _ h1, prvL_one (l := abv M) _ (by rw [abv_length]; omega), List.nil_append]
theorem lvs_past (ss : List ByteArray) (k : Nat) (h1 : ss.length ≤ k) (h2 : k < p2 ss.length) : (lvs ss).getD k ByteArray.empty = mis := by
  unfold lvs fill
  simp only [List.getD]
  rw [List.getElem?_append_right (by simpa using h1), List.getElem?_replicate]
  simp
  rw [if_pos (by omega)]
  rfl
theorem lvs_out (ss : List ByteArray) (k : Nat) (h : p2 ss.length ≤ k) : (lvs ss).getD k ByteArray.empty = ByteArray.empty := by
  simp only [List.getD]
  rw [List.getElem?_eq_none (by rw [lvs_length]; exact h)]
  rfl
theorem get_snoc (ss : List ByteArray) (s : ByteArray) (k : Nat) (h : k < ss.length) : (ss ++ [s]).getD k ByteArray.empty = ss.getD k ByteArray.empty := by
  simp only [List.getD]
  rw [List.getElem?_append_left h]
theorem p2_same {n : Nat} (h1 : 1 ≤ n) (h : ¬ n &&& (n - 1) = 0) : p2 (n + 1) = p2 n := by
  obtain ⟨j, e, h2, h3⟩ := p2_is n
  rw [e]
  have hne : n ≠ 2 ^ j := fun e2 => h (by rw [e2]; exact pow2_land j)
  refine p2_of ⟨j, rfl, by omega, ?_⟩
  rcases h3 with rfl | h3
  · exact .inl rfl
  · exact .inr (by omega)
theorem p2_full {n : Nat} (h1 : 1 ≤ n) (h : n &&& (n - 1) = 0) : p2 n = n ∧ p2 (n + 1) = 2 * n ∧ Pow2 n := by
  obtain ⟨j, rfl⟩ := land_pow2 n n (Nat.le_refl _) h1 h
  refine ⟨p2_of ⟨j, rfl, Nat.le_refl _, ?_⟩, p2_of ⟨j + 1, by rw [Nat.pow_succ]; omega, by omega, .inr ?_⟩, ⟨j, rfl⟩⟩
  · cases j with
    | zero => exact .inl rfl
    | succ j => exact .inr (by rw [Nat.add_sub_cancel, Nat.pow_succ]; have : 1 ≤ 2 ^ j := Nat.one_le_two_pow; omega)
  · rw [Nat.add_sub_cancel]; omega
theorem grow_not (ss : List ByteArray) (s : ByteArray) (i : Nat) (hi : i < ss.length) (h : ¬ ss.length &&& (ss.length - 1) = 0) : (prvS ss i).length = (prvS (ss ++ [s]) i).length ∧ dif (prvS ss i) (prvS (ss ++ [s]) i) ≤ 1 := by
  have hp := p2_same (by omega) h
  have hl : (ss ++ [s]).length = ss.length + 1 := by simp
  refine prv_but _ (lvs ss) (lvs (ss ++ [s])) i ss.length (Nat.le_refl _) ⟨by rw [lvs_length, lvs_length, hl, hp], fun k hk => ?_⟩ (by omega)
  have hge := p2_ge ss.length
  by_cases h1 : k < ss.length
  · rw [lvs_get ss k h1, lvs_get _ k (by omega), get_snoc _ _ _ h1]
  · by_cases h2 : k < p2 ss.length
    · rw [lvs_past ss k (by omega) h2, lvs_past _ k (by omega) (by rw [hl, hp]; exact h2)]
    · rw [lvs_out ss k (by omega), lvs_out _ k (by rw [hl, hp]; omega)]
theorem grow_full (ss : List ByteArray) (s : ByteArray) (i : Nat) (hi : i < ss.length) (h : ss.length &&& (ss.length - 1) = 0) : ∃ x, prvS (ss ++ [s]) i = prvS ss i ++ [x] := by
  obtain ⟨h1, h2, h3⟩ := p2_full (by omega) h
  have hl : (ss ++ [s]).length = ss.length + 1 := by simp
  refine prv_more _ (lvs ss) (lvs (ss ++ [s])) i (Nat.le_refl _) (by rw [lvs_length]; exact pow2_p2 _) (by rw [lvs_length, lvs_length, hl, h2, h1]) (fun k hk => ?_) (by rw [lvs_length, h1]; exact hi)
  rw [lvs_length, h1] at hk
  rw [lvs_get ss k hk, lvs_get _ k (by omega), get_snoc _ _ _ hk]
end Hach
