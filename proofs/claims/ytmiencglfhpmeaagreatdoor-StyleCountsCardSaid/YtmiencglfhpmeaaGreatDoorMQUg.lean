/- How the law StyleCounts counts: plain. -/
import Derived.Test.YtmiencglfhpmeaaGreatDoorMQSo
import Derived.Test.YtmiencglfhpmeaaGreatDoorMQSa
set_option linter.unusedSimpArgs false
set_option linter.unusedVariables false
namespace Go.Proofs.YtmiencglfhpmeaaGreatDoor
open Go.RowKit Hach
structure CtOk (x : En) (l : List Rl) (k : Nat) (best many at_ : Int) : Prop where
 b : best = rbest (cnt x (l.take k))
 m : many = ((cnt x (l.take k)).length : Int)
 a : (cnt x (l.take k) = [] ∧ at_ = -1) ∨ ∃ (i : Nat) (r : Rl) (cs : List Rl), cnt x (l.take k) = r :: cs ∧ at_ = (i : Int) ∧ i < k ∧ l[i]? = some r
theorem CtOk.start (x : En) (l : List Rl) : CtOk x l 0 (-1) 0 (-1) := ⟨rfl, rfl, .inl ⟨rfl, rfl⟩⟩
theorem cnt_next {x : En} {l : List Rl} {k : Nat} {r : Rl} (hr : l[k]? = some r) : cnt x (l.take (k + 1)) = cstep x (cnt x (l.take k)) r := by
 obtain ⟨hk, rfl⟩ := List.getElem?_eq_some_iff.1 hr
 exact cnt_take x l k hk
theorem CtOk.keep {x : En} {l : List Rl} {k : Nat} {best many at_ : Int} (h : CtOk x l k best many at_) (hc : cnt x (l.take (k + 1)) = cnt x (l.take k)) : CtOk x l (k + 1) best many at_ := by
 refine ⟨by rw [hc]; exact h.b, by rw [hc]; exact h.m, ?_⟩
 rw [hc]
 rcases h.a with h | ⟨i, r, cs, h1, h2, h3, h4⟩
 ·exact .inl h
 ·exact .inr ⟨i, r, cs, h1, h2, by omega, h4⟩
theorem CtOk.off {x : En} {l : List Rl} {k : Nat} {best many at_ : Int} {r : Rl} (h : CtOk x l k best many at_) (hr : l[k]? = some r) (hh : holds x r = false) : CtOk x l (k + 1) best many at_ :=
 h.keep (by rw [cnt_next hr, cstep_off hh])
theorem CtOk.low {x : En} {l : List Rl} {k : Nat} {best many at_ : Int} {r : Rl} (h : CtOk x l k best many at_) (hr : l[k]? = some r) (hh : holds x r = true) (hp : 0 ≤ r.pr) (hl : r.pr < best) : CtOk x l (k + 1) best many at_ :=
 h.keep (by rw [cnt_next hr, cstep_low hh hp (by rw [← h.b]; exact hl)])
theorem CtOk.more {x : En} {l : List Rl} {k : Nat} {best many at_ : Int} {r : Rl} (h : CtOk x l k best many at_) (hr : l[k]? = some r) (hh : holds x r = true) (hl : best < r.pr) : CtOk x l (k + 1) r.pr 1 k := by
 have hc : cnt x (l.take (k + 1)) = [r] := by
  rw [cnt_next hr]
  exact cstep_more hh (by rw [← h.b]; omega) (by rw [← h.b]; omega)
 exact ⟨by rw [hc]; rfl, by rw [hc]; rfl, .inr ⟨k, r, [], hc, rfl, by omega, hr⟩⟩
theorem CtOk.eq {x : En} {l : List Rl} {k : Nat} {best many at_ : Int} {r : Rl} (h : CtOk x l k best many at_) (hr : l[k]? = some r) (hh : holds x r = true) (hp : 0 ≤ r.pr) (he : r.pr = best) : CtOk x l (k + 1) best (many + 1) at_ := by
 obtain ⟨h1, h2⟩ := cstep_eq (acc := cnt x (l.take k)) hh hp (by rw [← h.b]; exact he)
 have hc : cnt x (l.take (k + 1)) = cnt x (l.take k) ++ [r] := by rw [cnt_next hr, h1]
 refine ⟨by rw [hc, (rbest_app h2).1]; exact h.b, by rw [hc, h.m]; simp, ?_⟩
 rcases h.a with ⟨e, _⟩ | ⟨i, r', cs, k1, k2, k3, k4⟩
 ·exact absurd e h2
 ·exact .inr ⟨i, r', cs ++ [r], by rw [hc, k1]; rfl, k2, by omega, k4⟩
theorem CtOk.bd {x : En} {l : List Rl} {k : Nat} {best many at_ : Int} (h : CtOk x l k best many at_) (hl : l.length ≤ 4) : 0 ≤ many ∧ many ≤ 4 ∧ -1 ≤ at_ ∧ at_ ≤ 4 := by
 have h1 := cnt_len x (l.take k)
 rw [List.length_take] at h1
 have h2 := h.m
 rcases h.a with ⟨_, e⟩ | ⟨i, r, cs, _, e, h3, h4⟩
 ·omega
 ·have := (List.getElem?_eq_some_iff.1 h4).1
  omega
theorem CtOk.best_bd {x : En} {l : List Rl} {k : Nat} {best many at_ : Int} (h : CtOk x l k best many at_) (hl : ∀ r ∈ l, 0 ≤ r.pr ∧ r.pr ≤ 1000) : -1 ≤ best ∧ best ≤ 1000 := by
 have hb := h.b
 cases hc : cnt x (l.take k) with
 | nil => rw [hc] at hb; subst hb; show (-1 : Int) ≤ -1 ∧ (-1 : Int) ≤ 1000; omega
 | cons r cs =>
  rw [hc] at hb
  have := hl r (List.mem_of_mem_take (cnt_sub x (l.take k) (by rw [hc]; exact List.mem_cons_self)))
  subst hb
  show -1 ≤ r.pr ∧ r.pr ≤ 1000
  omega
theorem CtOk.end_many {x : En} {l : List Rl} {best many at_ : Int} (h : CtOk x l l.length best many at_) (hm : 1 < many) (hc : chkL l = 0) : ∃ s, lookL l x = ((0, 0, 0), s, 31) := by
 have h2 := h.m
 rw [List.take_length] at h2
 unfold lookL
 rw [if_neg (by omega)]
 match hcc : cnt x l with
 | [] => rw [hcc] at h2; simp at h2; omega
 | [r] => rw [hcc] at h2; simp at h2; omega
 | r :: s :: u => exact ⟨_, rfl⟩
theorem CtOk.end_one {x : En} {l : List Rl} {best many at_ : Int} (h : CtOk x l l.length best many at_) (hm : ¬ 1 < many) (hM : Mk l) : ∃ (i : Nat) (r : Rl), l[i]? = some r ∧ at_ = (i : Int) ∧ many = 1 ∧ lookL l x = (lookR x r, r.nm, 0) := by
 have h2 := h.m
 have h3 := h.a
 rw [List.take_length] at h2 h3
 obtain ⟨m, ⟨⟨r0, hr0, hh0, hp0⟩, _⟩, hcm⟩ := hM.most x
 have hin : r0 ∈ cnt x l := by rw [hcm]; exact List.mem_filter.2 ⟨hr0, pick_true.2 ⟨hh0, hp0⟩⟩
 have hchk := hM.chk
 unfold lookL
 rw [if_neg (by omega)]
 rcases h3 with ⟨e, _⟩ | ⟨i, r, cs, k1, k2, _, k4⟩
 ·rw [e] at hin; cases hin
 ·rw [k1] at h2
  have hcs : cs = [] := by
   cases cs with
   | nil => rfl
   | cons y cs => simp at h2; omega
  subst hcs
  rw [k1]
  exact ⟨i, r, k4, k2, by simpa using h2, rfl⟩
end Go.Proofs.YtmiencglfhpmeaaGreatDoor
