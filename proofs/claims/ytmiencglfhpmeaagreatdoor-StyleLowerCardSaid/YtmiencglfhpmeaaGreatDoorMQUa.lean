/- What numbers make for rules: sizes; a list of made rules that grows: plain. -/
import Derived.Test.YtmiencglfhpmeaaGreatDoorMQTi
set_option linter.unusedSimpArgs false
set_option linter.unusedVariables false
namespace Go.Proofs.YtmiencglfhpmeaaGreatDoor
open Go.RowKit Hach
theorem num_rt {n : Int} (h : -1073741824 ≤ n ∧ n ≤ 1073741824) : Rt (numE n) 1 := Rt.con ⟨1, n, false, []⟩ (by unfold vlRight; simp [h.1, h.2])
theorem var_rt {v t : Int} (h : 1 ≤ v ∧ v ≤ 9) (ht : varTy v = t) : Rt (varE v) t := ht ▸ Rt.var v h
def szC : Nat → Nat
 | 0 => 3
 | n + 1 => 1 + 2 * szC n
def szA : Nat → Nat
 | 0 => 1
 | n + 1 => 5 + 2 * szA n
theorem szC_pos : ∀ n, 3 ≤ szC n
 | 0 => Nat.le_refl _
 | n + 1 => by have := szC_pos n; unfold szC; omega
theorem szA_pos : ∀ n, 1 ≤ szA n
 | 0 => Nat.le_refl _
 | n + 1 => by have := szA_pos n; unfold szA; omega
theorem Mk1.of {r : Rl} (hp : 0 ≤ r.pr ∧ r.pr ≤ 1000) (h1 : Rt r.e1 2) (s1 : r.e1.size ≤ 60) (h2 : Rt r.e2 1) (s2 : r.e2.size ≤ 60) (h3 : Rt r.e3 1) (s3 : r.e3.size ≤ 60) (h4 : Rt r.e4 1) (s4 : r.e4.size ≤ 60) : Mk1 r :=
 ⟨hp, tyE_of h1 s1, tyE_of h2 s2, tyE_of h3 s3, tyE_of h4 s4⟩
theorem Mk.first {r : Rl} (hn : r.nm = [97, 108, 108]) (hp : r.pr = 0) (h1 : r.e1 = yesE) (ho : Mk1 r) : Mk [r] := by
 refine ⟨by simp, by simp, by simp [hn, nmsL], fun s hs => ?_, fun s hs => ?_⟩
 ·rw [List.mem_singleton] at hs; subst hs; exact ho
 ·simp only [List.getElem?_cons_zero, Option.some.injEq] at hs; subst hs; exact ⟨h1, hp⟩
theorem Mk.snoc {l : List Rl} (h : Mk l) {r : Rl} (hl : l.length < 4) (hn : r.nm = nmsL.getD l.length []) (ho : Mk1 r) : Mk (l ++ [r]) := by
 refine ⟨by simp, by simp; omega, ?_, fun s hs => ?_, fun s hs => ?_⟩
 ·rw [List.map_append, h.nms, List.length_append, List.length_singleton, List.take_add_one]
  congr 1
  have : nmsL.length = 4 := rfl
  have h2 : nmsL[l.length]? = some (nmsL.getD l.length []) := by
   rw [List.getD_eq_getElem?_getD, List.getElem?_eq_getElem (by omega)]; rfl
  rw [h2, List.map_singleton, hn]; rfl
 ·rcases List.mem_append.1 hs with hs | hs
  ·exact h.one s hs
  ·rw [List.mem_singleton] at hs; subst hs; exact ho
 ·rw [List.getElem?_append_left h.pos] at hs; exact h.yes s hs
theorem mk1_ok {r : Rl} (h : Mk1 r) (hn : nmOk r.nm = true) : r.ok ∧ r.small := by
 have hl := rlnm_len hn
 have hp := h.pr
 exact rl_ok0 (by omega) ⟨by omega, by omega⟩ (tyE_zero h.e1).1 (tyE_zero h.e2).1 (tyE_zero h.e3).1 (tyE_zero h.e4).1
theorem Mk.ok {l : List Rl} (h : Mk l) : ∀ r ∈ l, r.ok ∧ r.small := fun r hr => mk1_ok (h.one r hr) (nms_ok _ (h.nm_in hr))
end Go.Proofs.YtmiencglfhpmeaaGreatDoor
