/- What survives: the law JournalSurvives, plain: a round's states. -/
import Derived.Test.YthppcmejffdicaaGreatDoorQKh

set_option linter.unusedSimpArgs false
set_option linter.unusedVariables false
namespace Go.Proofs.YthppcmejffdicaaGreatDoor
open Go.RowKit Hach Num Jn

/- between rounds -/
structure Good (d : Dk) (known : List (List UInt8)) (N : Nat) : Prop where
  calm : d.calm
  pend : d.pend = 0
  rec_ : Jn.recs (Jn.norm d.text) = known
  len : d.text.length ≤ N
theorem Good.ok {d : Dk} {known : List (List UInt8)} {N : Nat} (h : Good d known N) (hN : N < 1000000) (ha : -9223372036854775808 ≤ d.after) (ha2 : d.after ≤ 9223372036854775807) : DkOk d :=
  ⟨by rw [h.pend]; exact Nat.zero_le _, by have := h.len; omega, ha, ha2, fun hc => by rw [h.calm.2] at hc; cases hc⟩
/- within a round: behind some appends -/
structure Mid (d : Dk) (br sm : Bool) (maybe : List UInt8) (known : List (List UInt8)) (N : Nat) : Prop where
  base : ∃ base, Jn.Ends base ∧ Jn.recs base = known ∧ base.length ≤ N ∧ (d.text = base ∧ d.pend = 0 ∨ sm = true ∧ d.text = base ++ line maybe ∧ d.pend = (line maybe).length)
  br : br = sm
  off : d.off = sm
  short : maybe.length ≤ 20
theorem Good.opened {d : Dk} {known : List (List UInt8)} {N : Nat} (h : Good d known N) : d.open_ = (true, d.open_.2) ∧ Jn.recs d.open_.2.text = known ∧ d.open_.2.text.length ≤ N + 1 ∧ d.open_.2.calm ∧ d.open_.2.pend = 0 ∧ Jn.Ends d.open_.2.text := by
  obtain ⟨h1, h2, h3, _, h5⟩ := open_calm h.calm
  refine ⟨Prod.ext h1 rfl, by rw [h3]; exact h.rec_, ?_, h2, h5 h.pend, ?_⟩
  · rw [h3]; have := norm_len d.text; have := h.len; omega
  · rw [h3]
    unfold Jn.norm
    split
    · rename_i hc
      rcases hc with hc | hc
      · exact .inl hc
      · obtain ⟨a, e⟩ := List.getLast?_eq_some_iff.1 hc
        exact .inr ⟨a, e⟩
    · exact .inr ⟨_, rfl⟩
theorem Mid.start {d : Dk} {known : List (List UInt8)} {N : Nat} (h1 : Jn.recs d.text = known) (h2 : d.text.length ≤ N) (h3 : d.calm) (h4 : d.pend = 0) (h5 : Jn.Ends d.text) (n : Int) : Mid (d.fail n) false false [] known N :=
  ⟨⟨d.text, h5, h1, h2, .inl ⟨rfl, h4⟩⟩, rfl, h3.1, by simp⟩
/- one more record: the answer; what is known then -/
theorem Mid.step {d : Dk} {br sm : Bool} {maybe s : List UInt8} {known : List (List UInt8)} {N : Nat} (h : Mid d br sm maybe known N) (hs : s.length ≤ 20) (hN : N ≤ 200000) (n : Nat) :
    ((appRes d n br (line s)).1 = 0 ∧ sm = false ∧ Mid (appRes d n br (line s)).2.1 (appRes d n br (line s)).2.2.2 false maybe (known ++ [s]) (N + 80) ∧ (appRes d n br (line s)).2.2.1 = n + 1) ∨
    ((appRes d n br (line s)).1 = 63 ∧ Mid (appRes d n br (line s)).2.1 (appRes d n br (line s)).2.2.2 true (if sm then maybe else s) known (N + 80) ∧ (appRes d n br (line s)).2.2.1 = n) := by
  obtain ⟨base, hE, hr, hl, hc⟩ := h.base
  have hll := line_len hs
  cases sm with
  | true =>
    right
    rw [h.br]
    have : appRes d n true (line s) = (63, d, n, true) := by unfold appRes; rfl
    rw [this]
    exact ⟨rfl, ⟨⟨base, hE, hr, by omega, hc⟩, rfl, h.off, h.short⟩, rfl⟩
  | false =>
    rw [h.br]
    obtain ⟨ht, hp⟩ : d.text = base ∧ d.pend = 0 := by
      rcases hc with hc | ⟨hc, _⟩
      · exact hc
      · cases hc
    have hnot : ¬ 262144 < d.text.length + (line s).length := by rw [ht]; omega
    rcases put_cases d (line s) hp with ⟨p1, p2, p3, p4⟩ | ⟨p1, p2, p3⟩
    · left
      have : appRes d n false (line s) = (0, (d.put (line s)).2, n + 1, false) := by unfold appRes; rw [if_neg (by simp), if_neg hnot, if_pos p1]
      rw [this]
      refine ⟨rfl, rfl, ⟨⟨base ++ line s, ?_, ?_, ?_, .inl ⟨by rw [p2, ht], p3⟩⟩, rfl, p4, h.short⟩, rfl⟩
      · have := ends_line (t := []) s
        exact ends_append hE (by simpa using this)
      · rw [recs_ends hE, hr]
        have := recs_line s []
        rw [List.append_nil] at this
        rw [this]; rfl
      · rw [List.length_append]; omega
    · right
      have : appRes d n false (line s) = (63, (d.put (line s)).2, n, true) := by unfold appRes; rw [if_neg (by simp), if_neg hnot, if_neg (by rw [p1]; simp)]
      rw [this]
      refine ⟨rfl, ⟨⟨base, hE, hr, by omega, ?_⟩, rfl, p2, hs⟩, rfl⟩
      rcases p3 with ⟨q1, q2⟩ | ⟨q1, q2⟩
      · exact .inl ⟨q1.trans ht, q2⟩
      · exact .inr ⟨rfl, by rw [q1, ht]; rfl, q2⟩
/- the fall, the opening, the second fall -/
theorem Mid.fall {d : Dk} {br sm : Bool} {maybe : List UInt8} {known : List (List UInt8)} {N : Nat} (h : Mid d br sm maybe known N) (k1 : Nat) (n : Int) (k2 : Nat) :
    let d2 := (((d.crash k1).fail n).open_.2).crash k2
    Good d2 known (N + 81) ∨ sm = true ∧ Good d2 (known ++ [maybe]) (N + 81) := by
  intro d2
  obtain ⟨base, hE, hr, hl, hc⟩ := h.base
  have hll := line_len h.short
  have hm : maybe.length < 1152921504606846976 := by have := h.short; omega
  have hcr : (d.crash k1).calm ∧ (d.crash k1).pend = 0 := ⟨⟨rfl, rfl⟩, rfl⟩
  obtain ⟨r1, r2, r3, r4⟩ := reopened hcr.1 hcr.2 n k2
  have hclen : (d.crash k1).text.length ≤ N + 80 := by
    have := crash_le d k1
    rcases hc with ⟨h1, _⟩ | ⟨_, h1, _⟩ <;> rw [h1] at this
    · omega
    · rw [List.length_append] at this; omega
  have hT : Torn base maybe sm (d.crash k1).text := by
    cases sm with
    | false =>
      rcases hc with hc | ⟨hc, _⟩
      · obtain ⟨_, _, _, _, h5⟩ := crash_text (base := base) (m := maybe) k1 (.inl hc)
        exact .inl (h5 hc.2 hc.1).1
      · cases hc
    | true =>
      obtain ⟨_, h1, _⟩ := crash_text (base := base) (m := maybe) k1 (hc.imp id fun x => x.2)
      exact h1
  rcases recs_torn hE hm hT with h1 | ⟨h1, h2⟩
  · exact .inl ⟨r1, r2, by rw [r3, h1, hr], Nat.le_trans r4 (by omega)⟩
  · exact .inr ⟨h1, r1, r2, by rw [r3, h2, hr], Nat.le_trans r4 (by omega)⟩
theorem Good.again {d : Dk} {known : List (List UInt8)} {N : Nat} (h : Good d known N) : Good d.open_.2 known (N + 1) := by
  obtain ⟨_, h2, h3, h4, h5, h6⟩ := h.opened
  exact ⟨h4, h5, by rw [h6.norm]; exact h2, h3⟩
theorem Good.opens {d : Dk} {known : List (List UInt8)} {N : Nat} (h : Good d known N) : opens d known = true := by
  obtain ⟨h1, h2, _⟩ := h.opened
  unfold Go.Proofs.YthppcmejffdicaaGreatDoor.opens
  rw [h1]
  simp [h2]
theorem Good.new : Good Dk.new [] 0 := ⟨⟨rfl, rfl⟩, rfl, rfl, Nat.le_refl _⟩
end Go.Proofs.YthppcmejffdicaaGreatDoor
