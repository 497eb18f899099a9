/- Brackets around brackets are read: plain. -/
import Derived.Test.YtggkkjnfonbpkaaDoorQXm

set_option linter.unusedSimpArgs false
set_option linter.unusedVariables false
namespace Go.Proofs.YtggkkjnfonbpkaaDoor
open Go.RowKit Hach

def tKind : Tok := [107, 105, 110, 100]
theorem rep_snoc {α : Type} (a : α) (m : Nat) (r : List α) : List.replicate (m + 1) a ++ r = List.replicate m a ++ (a :: r) := by
  rw [show List.replicate (m + 1) a = List.replicate m a ++ [a] from by rw [List.replicate_succ'], List.append_assoc]; rfl
theorem nest_piece : ∀ (m n : Nat) (r : List Tok), 4 * m + 3 ≤ n → pieceF n false (List.replicate m [40] ++ (tKind :: (List.replicate m [41] ++ r))) = some (exVar 0, r)
  | 0, n, r, h => by
    obtain ⟨j, rfl⟩ : ∃ j, n = j + 1 := ⟨n - 1, by omega⟩
    show pieceF (j + 1) false (tKind :: r) = _
    rw [pieceF_rest _ _ _ _ (by decide)]; rfl
  | m + 1, n, r, h => by
    obtain ⟨j, rfl⟩ : ∃ j, n = j + 1 + 1 := ⟨n - 2, by omega⟩
    rw [List.replicate_succ, List.cons_append, rep_snoc, pieceF, if_pos rfl]
    have hw : wholeF (j + 1) false (List.replicate m [40] ++ (tKind :: (List.replicate m [41] ++ ([41] :: r)))) = some (exVar 0, [41] :: r) := by
      have hp := nest_piece m j ([41] :: r) (by omega)
      have hc : ∃ t q, List.replicate m [40] ++ (tKind :: (List.replicate m [41] ++ ([41] :: r))) = t :: q ∧ t ≠ [110, 111, 116] ∧ t ≠ [105, 102] := by
        cases m with
        | zero => exact ⟨_, _, rfl, by decide, by decide⟩
        | succ m => exact ⟨[40], _, rfl, by decide, by decide⟩
      obtain ⟨t, q, e, h1, h2⟩ := hc
      rw [e] at hp ⊢
      rw [whole_two _ _ _ _ h1 h2, hp, Option.bind_some]
      exact Cl.tail (.inr ⟨r, rfl⟩) _ _
    rw [hw, Option.bind_some]
    simp only [takeT_hit, Option.bind_some]
def nest (m : Nat) : List UInt8 := List.replicate m 40 ++ (tKind ++ List.replicate m 41)
def nestI (m : Nat) : List Itm := List.replicate m ([40], 0) ++ ((tKind, 0) :: List.replicate m ([41], 0))
theorem nest_tail : ∀ m : Nat, Sep (List.replicate m ([41], 0)) ∧ Tl (List.replicate m ([41], 0)) ∧ spell (List.replicate m ([41], 0)) = List.replicate m 41 ∧ tks (List.replicate m ([41], 0)) = List.replicate m [41]
  | 0 => ⟨trivial, .inl rfl, rfl, rfl⟩
  | m + 1 => by
    obtain ⟨h1, h2, h3, h4⟩ := nest_tail m
    refine ⟨⟨IsTok.sign 41 (.inl (by decide)), fun _ => .inr h2, h1⟩, .inr ⟨0, _, rfl⟩, ?_, ?_⟩
    · rw [List.replicate_succ, spell_one, h3]; rfl
    · rw [List.replicate_succ, tks_cons, h4]; rfl
theorem nest_head (l : List Itm) (hl : Sep l) : ∀ m : Nat, Sep (List.replicate m ([40], 0) ++ l) ∧ spell (List.replicate m ([40], 0) ++ l) = List.replicate m 40 ++ spell l ∧ tks (List.replicate m ([40], 0) ++ l) = List.replicate m [40] ++ tks l
  | 0 => ⟨hl, rfl, rfl⟩
  | m + 1 => by
    obtain ⟨h1, h2, h3⟩ := nest_head l hl m
    refine ⟨⟨IsTok.sign 40 (.inl (by decide)), fun _ => .inl rfl, h1⟩, ?_, ?_⟩
    · rw [List.replicate_succ, List.cons_append, spell_one, h2]; rfl
    · rw [List.replicate_succ, List.cons_append, tks_cons, h3]; rfl
theorem nest_len (m : Nat) : (nest m).length = 2 * m + 4 := by unfold nest tKind; simp; omega
theorem nest_read (m : Nat) : readT (nest m) = some (exVar 0) := by
  obtain ⟨h1, h2, h3, h4⟩ := nest_tail m
  have hs : Sep ((tKind, 0) :: List.replicate m ([41], 0)) := ⟨IsTok.word 107 _ (by decide) (by decide), fun _ => .inr h2, h1⟩
  obtain ⟨k1, k2, k3⟩ := nest_head _ hs m
  have e : nest m = spell (nestI m) := by
    unfold nest nestI
    rw [k2, spell_one, h3]; rfl
  rw [e]
  refine read_spell k1 ?_
  unfold nestI
  rw [k3, tks_cons, h4]
  have hl : (List.replicate m (([40], 0) : Itm) ++ ((tKind, 0) :: List.replicate m ([41], 0))).length = 2 * m + 1 := by simp; omega
  rw [hl]
  have hp := nest_piece m (2 * (2 * m + 1) + 1) [] (by omega)
  rw [List.append_nil] at hp
  have hc : ∃ t q, List.replicate m [40] ++ (tKind :: List.replicate m [41]) = t :: q ∧ t ≠ [110, 111, 116] ∧ t ≠ [105, 102] := by
    cases m with
    | zero => exact ⟨_, _, rfl, by decide, by decide⟩
    | succ m => exact ⟨[40], _, rfl, by decide, by decide⟩
  obtain ⟨t, q, e, h1, h2⟩ := hc
  rw [e] at hp ⊢
  rw [whole_two _ _ _ _ h1 h2, hp, Option.bind_some]
  exact Cl.tail (.inl rfl) _ _
theorem nest_parse (m : Nat) : parseE (nest m) = if 4096 < 2 * m + 4 then (zeroE, 2) else (exVar 0, 0) := by
  by_cases h : 4096 < 2 * m + 4
  · rw [if_pos h]
    unfold parseE
    rw [if_pos (by rw [nest_len]; exact h)]
  · rw [if_neg h]
    exact parse_ok (t := 1) (Rt.var 1 (by omega)) (by decide) (by rw [nest_len]; omega) (nest_read m)
end Go.Proofs.YtggkkjnfonbpkaaDoor
