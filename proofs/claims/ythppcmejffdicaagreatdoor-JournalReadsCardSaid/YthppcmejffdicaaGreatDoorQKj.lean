/- Records cut short; their lines; the records wanted: plain. -/
import Derived.Test.YthppcmejffdicaaGreatDoorQKh

set_option linter.unusedSimpArgs false
set_option linter.unusedVariables false
namespace Go.Proofs.YthppcmejffdicaaGreatDoor
open Go.RowKit Hach Num Jn

def cutR (xs : List (List UInt8)) (j : Nat) : List (List UInt8) := (xs.take j).map (·.take 20)
theorem cutR_zero (xs : List (List UInt8)) : cutR xs 0 = [] := rfl
theorem cutR_succ {xs : List (List UInt8)} {j : Nat} (h : j < xs.length) : cutR xs (j + 1) = cutR xs j ++ [(xs.getD j []).take 20] := by
  unfold cutR
  rw [List.take_succ_eq_append_getElem h, List.map_append]
  simp [List.getD, List.getElem?_eq_getElem h]
theorem cutR_len {xs : List (List UInt8)} {j : Nat} (h : j ≤ xs.length) : (cutR xs j).length = j := by simp [cutR]; omega
theorem cutR_small {xs : List (List UInt8)} {j : Nat} : ∀ r ∈ cutR xs j, r.length ≤ 20 := by
  intro r hr
  obtain ⟨x, _, rfl⟩ := List.mem_map.1 hr
  simp; omega
theorem cutR_get {xs : List (List UInt8)} {j m : Nat} (h : j < m) (hm : m ≤ xs.length) : (cutR xs m).getD j [] = (xs.getD j []).take 20 := by
  have h1 : j < xs.length := by omega
  simp [cutR, List.getD, List.getElem?_map, List.getElem?_take, h, List.getElem?_eq_getElem h1]
theorem cutR_take {xs : List (List UInt8)} {j m : Nat} (h : j ≤ m) : (cutR xs m).take j = cutR xs j := by
  unfold cutR
  rw [← List.map_take, List.take_take, Nat.min_eq_left h]
def flat (l : List (List UInt8)) : List UInt8 := (l.map line).flatten
theorem flat_snoc (l : List (List UInt8)) (r : List UInt8) : flat (l ++ [r]) = flat l ++ line r := by simp [flat]
theorem flat80 : ∀ (l : List (List UInt8)), (∀ r ∈ l, r.length ≤ 20) → (flat l).length ≤ 80 * l.length
  | [], _ => by simp [flat]
  | x :: l, h => by
    have h1 := line_len (h x List.mem_cons_self)
    have h2 := flat80 l fun y hy => h y (List.mem_cons_of_mem _ hy)
    unfold flat at h2 ⊢
    simp only [List.map_cons, List.flatten_cons, List.length_append, List.length_cons]
    omega
theorem cutR_flat {xs : List (List UInt8)} {j : Nat} (hj : j ≤ 5) : (flat (cutR xs j)).length ≤ 400 := by
  have h1 := flat80 (cutR xs j) cutR_small
  have h2 : (cutR xs j).length ≤ j := by simp [cutR]; omega
  omega
def endL (xs : List (List UInt8)) (j : Nat) : List Int := (List.range j).map fun i => ((flat (cutR xs (i + 1))).length : Int)
theorem endL_succ (xs : List (List UInt8)) (j : Nat) : endL xs (j + 1) = endL xs j ++ [((flat (cutR xs (j + 1))).length : Int)] := by simp [endL, List.range_succ]
theorem endL_len (xs : List (List UInt8)) (j : Nat) : (endL xs j).length = j := by simp [endL]
theorem endL_get {xs : List (List UInt8)} {i j : Nat} (h : i < j) : (endL xs j).getD i 0 = ((flat (cutR xs (i + 1))).length : Int) := by simp [endL, List.getD, h]
theorem app_row {xs : List (List UInt8)} {j : Nat} (h : j < xs.length) (h5 : j < 5) : appRes (qz (flat (cutR xs j))) j false (line ((xs.getD j []).take 20)) = (0, qz (flat (cutR xs (j + 1))), j + 1, false) := by
  rw [cutR_succ h, flat_snoc]
  have h1 := cutR_flat (xs := xs) (j := j) (by omega)
  have h2 := line_len (s := (xs.getD j []).take 20) (by simp; omega)
  exact app_fit j (by omega)
/- the records wanted, step by step -/
def touched (n f e : Nat) : Bool := decide (f ≤ n ∧ n < e ∨ n + 1 = f)
theorem touched_yes {n f e : Nat} (h : f ≤ n ∧ n < e ∨ n + 1 = f) : touched n f e = true := decide_eq_true h
theorem touched_no {n f e : Nat} (h : ¬ (f ≤ n ∧ n < e ∨ n + 1 = f)) : touched n f e = false := decide_eq_false h
theorem wants_step {n f : Nat} {same : Bool} {r : List UInt8} {rs : List (List UInt8)} : wants n same f (r :: rs) = (if !touched n f (f + (line r).length) || same then [r] else []) ++ wants n same (f + (line r).length) rs := by
  rw [wants]
  by_cases h : same = true ∨ ¬ (f ≤ n ∧ n < f + (line r).length ∨ n + 1 = f)
  · rw [if_pos h, if_pos]
    · rfl
    · rcases h with h | h
      · simp [h]
      · simp only [touched, h, decide_false, Bool.not_false, Bool.true_or]
  · have h1 : same = false := by cases hs : same with
      | false => rfl
      | true => exact absurd (.inl hs) h
    have h2 : touched n f (f + (line r).length) = true := decide_eq_true (Decidable.not_not.1 fun c => h (.inr c))
    rw [if_neg h, if_neg (by rw [h1, h2]; simp)]
    rfl
def wantsTo (xs : List (List UInt8)) (m n : Nat) (same : Bool) (i : Nat) (pre : List (List UInt8)) : Prop := wants n same 0 (cutR xs m) = pre ++ wants n same (flat (cutR xs i)).length ((cutR xs m).drop i)
theorem wantsTo_zero (xs : List (List UInt8)) (m n : Nat) (same : Bool) : wantsTo xs m n same 0 [] := rfl
theorem wantsTo_succ {xs : List (List UInt8)} {m n i : Nat} {same : Bool} {pre : List (List UInt8)} (h : wantsTo xs m n same i pre) (hi : i < m) (hm : m ≤ xs.length) :
    wantsTo xs m n same (i + 1) (pre ++ if !touched n (flat (cutR xs i)).length (flat (cutR xs (i + 1))).length || same then [(xs.getD i []).take 20] else []) := by
  unfold wantsTo at h ⊢
  have hl : i < (cutR xs m).length := by rw [cutR_len hm]; exact hi
  have hd : (cutR xs m).drop i = (xs.getD i []).take 20 :: (cutR xs m).drop (i + 1) := by
    rw [List.drop_eq_getElem_cons hl, ← cutR_get hi hm]
    simp [List.getD, List.getElem?_eq_getElem hl]
  have he : (flat (cutR xs (i + 1))).length = (flat (cutR xs i)).length + (line ((xs.getD i []).take 20)).length := by rw [cutR_succ (by omega), flat_snoc, List.length_append]
  rw [h, hd, wants_step, he]
  simp only [List.append_assoc]
theorem wantsTo_end {xs : List (List UInt8)} {m n : Nat} {same : Bool} {pre : List (List UInt8)} (h : wantsTo xs m n same m pre) (hm : m ≤ xs.length) : wants n same 0 (cutR xs m) = pre := by
  unfold wantsTo at h
  rw [h, List.drop_eq_nil_of_le (by rw [cutR_len hm]; exact Nat.le_refl _)]
  simp [wants]
theorem open_qz (t : List UInt8) : (qz t).open_ = (true, qz (Jn.norm t)) := by
  unfold Dk.open_ Jn.norm
  rw [if_neg (by simp [qz])]
  by_cases h : t = [] ∨ t.getLast? = some 10
  · rw [if_pos (by exact h), if_pos h]
  · rw [if_neg (by exact h), if_neg h, put_calm (show (qz t).calm from ⟨rfl, rfl⟩)]; rfl
theorem write_qz (t : List UInt8) : Dk.new.write t = (true, ⟨t, t.length, false, false, 0⟩) := by unfold Dk.write; rw [works_calm ⟨rfl, rfl⟩]; simp [Dk.new]
theorem sync_qz (t : List UInt8) : (⟨t, t.length, false, false, 0⟩ : Dk).sync = (true, qz t) := by unfold Dk.sync; rw [works_calm ⟨rfl, rfl⟩]; rfl
theorem fresh_ok (t : List UInt8) (h : t.length < 281474976710656) : DkOk ⟨t, t.length, false, false, 0⟩ := ⟨Nat.le_refl _, h, by simp, by simp, fun _ => by simp⟩
theorem toList_list (a : List UInt8) : (⟨a.toArray⟩ : ByteArray).toList = a := by rw [ByteArray.toList_eq]
end Go.Proofs.YthppcmejffdicaaGreatDoor
