/- Plain: a proof leads to the root. -/
import Derived.Test.YtncdnopnjdbleaaDt
namespace Hach
open Go Go.RowKit

theorem prvL_pow : ∀ (f : Nat) (l : List ByteArray) (i : Nat), l.length ≤ f → Pow2 l.length → 2 ^ (prvL l i).length = l.length
  | 0, l, i, h, hp => by
    obtain ⟨j, hj⟩ := hp
    have : 1 ≤ 2 ^ j := Nat.one_le_two_pow
    omega
  | f + 1, l, i, h, hp => by
    by_cases h1 : 1 < l.length
    · obtain ⟨q1, q2⟩ := hp.half h1
      have ha := abv_length l
      have := prvL_pow f (abv l) (i / 2) (by omega) (by rw [ha]; exact q1)
      rw [prvL_abv _ h1, List.length_cons, Nat.pow_succ, this]
      omega
    · obtain ⟨j, hj⟩ := hp
      have : 1 ≤ 2 ^ j := Nat.one_le_two_pow
      rw [prvL_one _ h1, List.length_nil]
      omega
theorem up_root : ∀ (f : Nat) (l : List ByteArray) (i : Nat), l.length ≤ f → Pow2 l.length → Dgs l → i < l.length → up (prvL l i) (l.getD i ByteArray.empty) i = some (rootL l)
  | 0, l, i, h, hp, hd, hi => by omega
  | f + 1, l, i, h, hp, hd, hi => by
    by_cases h1 : 1 < l.length
    · obtain ⟨q1, q2⟩ := hp.half h1
      have ha := abv_length l
      have ih := up_root f (abv l) (i / 2) (by omega) (by rw [ha]; exact q1) (dgs_abv l) (by omega)
      have hn := nbr_lt hp h1 hi
      have hg := abv_get l (i / 2) (by omega)
      rw [prvL_abv _ h1, rootL_abv h1, ← ih]
      simp only [up]
      rw [if_pos (hd.at_ hn), hg]
      by_cases h2 : i % 2 = 0
      · rw [if_pos h2, show nbr i = i + 1 by unfold nbr; rw [if_pos h2], show 2 * (i / 2) = i by omega]
      · rw [if_neg h2, show nbr i = i - 1 by unfold nbr; rw [if_neg h2], show 2 * (i / 2) + 1 = i by omega, show 2 * (i / 2) = i - 1 by omega]
    · have h0 : i = 0 := by omega
      rw [prvL_one _ h1, rootL_one h1, h0]
      rfl
theorem lvs_get (ss : List ByteArray) (i : Nat) (h : i < ss.length) : (lvs ss).getD i ByteArray.empty = lf (ss.getD i ByteArray.empty) := by
  unfold lvs fill
  simp only [List.getD]
  rw [List.getElem?_append_left (by simpa using h)]
  simp [h]
theorem prvS_ok (ss : List ByteArray) (i : Nat) (h : i < ss.length) (h20 : ss.length ≤ 21) : upOk i (prvS ss i).length = true ∧ (prvS ss i).length ≤ 5 := by
  have hp := prvL_pow _ (lvs ss) i (Nat.le_refl _) (by rw [lvs_length]; exact pow2_p2 _)
  rw [lvs_length] at hp
  have h1 := p2_ge ss.length
  have h2 := p2_le (n := ss.length) (m := 21) (by omega) h20
  have h5 : (prvS ss i).length ≤ 5 := by
    rcases Nat.lt_or_ge 5 (prvS ss i).length with k | k
    · have : 2 ^ 6 ≤ 2 ^ (prvS ss i).length := Nat.pow_le_pow_right (by omega) k
      have e : 2 ^ (prvS ss i).length = p2 ss.length := hp
      omega
    · exact k
  refine ⟨?_, h5⟩
  have e : 2 ^ (prvS ss i).length = p2 ss.length := hp
  unfold upOk
  simp only [Bool.and_eq_true, decide_eq_true_eq]
  refine ⟨⟨by omega, by omega⟩, ?_⟩
  have : ((2 : Int) ^ (prvS ss i).length) = ((2 ^ (prvS ss i).length : Nat) : Int) := by simp
  rw [this, e]
  omega
theorem ver_prove (ss : List ByteArray) (i : Nat) (h : i < ss.length) (h20 : ss.length ≤ 21) : ver (rootS ss) (ss.getD i ByteArray.empty) i (prvS ss i) = true := by
  rw [ver_pos (prvS_ok ss i h h20).1, ← lvs_get ss i h]
  have := up_root _ (lvs ss) i (Nat.le_refl _) (by rw [lvs_length]; exact pow2_p2 _) (dgs_lvs ss) (by rw [lvs_length]; have := p2_ge ss.length; omega)
  show (match up (prvL (lvs ss) i) ((lvs ss).getD i ByteArray.empty) i with | some d => d.toList == (rootS ss).toList | none => false) = true
  rw [this]
  exact beq_self_eq_true _
theorem dgs_prv : ∀ (f : Nat) (l : List ByteArray) (i : Nat), l.length ≤ f → Pow2 l.length → Dgs l → i < l.length → Dgs (prvL l i)
  | 0, l, i, h, hp, hd, hi => by omega
  | f + 1, l, i, h, hp, hd, hi => by
    by_cases h1 : 1 < l.length
    · obtain ⟨q1, q2⟩ := hp.half h1
      have ha := abv_length l
      have ih := dgs_prv f (abv l) (i / 2) (by omega) (by rw [ha]; exact q1) (dgs_abv l) (by omega)
      rw [prvL_abv _ h1]
      intro s hs
      rcases List.mem_cons.1 hs with rfl | hs
      · exact hd.at_ (nbr_lt hp h1 hi)
      · exact ih s hs
    · rw [prvL_one _ h1]
      intro s hs
      cases hs
theorem dgs_prvS (ss : List ByteArray) (i : Nat) (h : i < ss.length) : Dgs (prvS ss i) :=
  dgs_prv _ (lvs ss) i (Nat.le_refl _) (by rw [lvs_length]; exact pow2_p2 _) (dgs_lvs ss) (by rw [lvs_length]; have := p2_ge ss.length; omega)
theorem ver_up (r x : ByteArray) (i : Int) (ps : List ByteArray) : ver r x i ps = match upF (lf x) i ps with | some d => d.toList == r.toList | none => false := rfl
end Hach
