/- The law of regions that draw their order (XMons), inside the wide fence: an iterator's region whose tail is a call of yield (printed by gen_monsin.py). -/
import Derived.OrdersIn
import Derived.TacticsIn
import Derived.RangeFuncNested
import Derived.Test.YtompfgofaplffaaGreatDoorQEa
import Derived.RangeFuncBound
import Derived.RangeFuncCalls
import Derived.RangeFuncLeaves
import Derived.Shelf.Abstract
import Derived.Shelf.RegionOpen
import Derived.WalkKit
import Derived.OwnWalkIn
import Derived.TacticsInMore
import Derived.LoopNIn
import Derived.LoopIn
import Derived.Test.YtompfgofaplffaaGreatDoorQEd
import Derived.Test.YtompfgofaplffaaGreatDoorQVc
import Derived.Test.YtompfgofaplffaaGreatDoorQOnce
set_option linter.unusedSimpArgs false
set_option linter.unusedVariables false
namespace Hach
open Go Go.RowKit
section
variable {P : Program} {n : Nat}
theorem upon_wide {o : Oper} {a : Act} {K : Act → World → Prop} {Q : Exit → Act → World → Prop} {x : Result Next} (h : o.upon P a K (fun _ _ _ => False) x) : o.uponIn Fence.wide n P a K Q x := by
  cases x with
  | ok nx w' =>
    cases nx <;> simp only [Oper.upon] at h <;> simp only [Oper.uponIn]
    case value v => exact h
    case skip => exact h
    case defer d => exact h
    case enter f args => exact ⟨fun e => (by cases e), callsIn_wide.2 (Calls.mono h fun e w'' he => by cases e <;> first | exact he | exact he.elim | exact absurd he (by simp [LetsOut]))⟩
    case row row args =>
      refine ⟨fun e => (by cases e), fun c cs _ => ?_⟩
      obtain ⟨v, w'', hr, hs⟩ := h c cs
      exact ⟨v, w'', hr, stepsIn_wide.2 hs⟩
  | halt x w' => cases x <;> exact h.elim
theorem wpAnyIn_inv {md : Region.Mode} {ops : Array Oper} {Q : Exit → Act → World → Prop} (J : Array Bool → Act → World → Prop) (hsz : ∀ l a w, J l a w → l.size = ops.size)
    (hstep : ∀ l a w i, J l a w → i ∈ Region.ready md ops l → wpOpIn Fence.wide n P ops Q i (J (l.setIfInBounds i true)) a w)
    (hdone : ∀ l a w, J l a w → Region.ready md ops l = [] → Q .normal a w) :
    ∀ (fuel : Nat) (l : Array Bool) (a : Act) (w : World), (List.range ops.size).countP (fun i => !l.getD i true) ≤ fuel → J l a w → wpAnyIn Fence.wide n P md ops Q fuel l a w := by
  intro fuel
  induction fuel with
  | zero =>
    intro l a w hc hJ
    have hr : Region.ready md ops l = [] := by
      unfold Region.ready
      rw [List.filter_eq_nil_iff]
      intro i hi h
      have h0 : (List.range ops.size).countP (fun i => !l.getD i true) = 0 := by omega
      have := List.countP_eq_zero.1 h0 i hi
      simp only [Bool.and_eq_true] at h
      exact this h.1
    exact ⟨hr, hdone _ _ _ hJ hr⟩
  | succ fuel ih =>
    intro l a w hc hJ
    refine ⟨hdone _ _ _ hJ, fun i hi => wpOpIn_mono (fun a' w' hJ' => ih _ a' w' ?_ hJ') (hstep _ _ _ i hJ hi)⟩
    have hi' := hi
    unfold Region.ready at hi'
    rw [List.mem_filter] at hi'
    simp only [Bool.and_eq_true] at hi'
    have hil : i < l.size := by rw [hsz _ _ _ hJ]; exact List.mem_range.1 hi'.1
    have := countP_lt (fun i => !l.getD i true) (fun j => !(l.setIfInBounds i true).getD j true) i (List.range ops.size) (fun j _ hj => by
      by_cases e : i = j
      · subst e; simp [hil] at hj
      · simpa [Array.getElem?_setIfInBounds_ne e] using hj) hi'.1 hi'.2.1 (by simp [hil])
    omega
theorem wpAnyIn_new (nw : List Nat) {ops : Array Oper} {Q : Exit → Act → World → Prop} {a : Act} {w : World} (M : Nat) (X : List Nat) (hck : monoOk ops a.tmps.size = true) (hM : M ≤ ops.size) (htl : tailOk ops M X = true)
    (E : World → World → Prop) (hS : ∀ {u v}, E u v → u.heap.size ≤ v.heap.size) (hr : ∀ w, E w w) (ht : ∀ {u v w}, E u v → E v w → E u w) (F : Nat → (Nat → Value) → Value → World → Prop) (hF : ∀ {i x v W W'}, F i x v W → E W W' → F i x v W') (hL : ∀ {i : Nat} {o : Oper} {x x' : Nat → Value} {v : Value} {W : World}, ops[i]? = some o → (∀ j ∈ preds o, x' j = x j) → F i x v W → F i x' v W)
    (hops : ∀ (i : Nat) (o : Oper), ops[i]? = some o → i < M → ∀ (x : Nat → Value) W, E w.drew W → (∀ k ∈ preds o, F k x (x k) W) →
      if Region.wanted o (yielded ops (putAll ops x (preds o) a).tmps) then Gives P (fun v W' => (E W W' ∧ F i x v W') ∧ (i ∈ nw → (∃ g, v = .pointer (some ⟨g, 0, none⟩) ∧ W.heap.size ≤ g ∧ g < W'.heap.size))) ((execOp (putAll ops x (preds o) a).eval o).run P W) else F i x undef W ∧ ¬ i ∈ nw)
    (hfin : ∀ (x : Nat → Value) W, E w.drew W → (∀ k, k < M → F k x (x k) W) → (∀ i ∈ nw, ∀ j ∈ nw, i < M → j < M → i ≠ j → x i ≠ x j) → wpOpsIn Fence.wide n P ops Q (List.range' M (ops.size - M)) (putAll ops x (List.range M) a) W) :
    wpAnyIn Fence.wide n P .any ops Q ops.size (Array.replicate ops.size false) a w.drew := by
  have m := mono_of hck
  refine wpAnyIn_inv
    (fun l a' W => (∃ x, ComeN nw ops a E F w.drew l a' W x ∧ ∀ k, M ≤ k → k < ops.size → l.getD k true = false) ∨
      (l.size = ops.size ∧ ∃ i, M ≤ i ∧ i ≤ ops.size ∧ (∀ k, k < i → l.getD k true = true) ∧ (∀ k, i ≤ k → k < ops.size → l.getD k true = false) ∧ wpOpsIn Fence.wide n P ops Q (List.range' i (ops.size - i)) a' W))
    ?_ ?_ ?_ _ _ _ _ (Nat.le_trans (List.countP_le_length) (by simp)) ?_
  · rintro l a' W (⟨x, c, _⟩ | ⟨h, _⟩)
    · exact c.lsz
    · exact h
  · -- a tail operation, walked
    have htail : ∀ (l : Array Bool) (a' : Act) (W : World) (i : Nat), l.size = ops.size → M ≤ i → i < ops.size → (∀ k, k < i → l.getD k true = true) → (∀ k, i ≤ k → k < ops.size → l.getD k true = false) →
        wpOpsIn Fence.wide n P ops Q (List.range' i (ops.size - i)) a' W →
        wpOpIn Fence.wide n P ops Q i (fun a'' W' => (∃ x, ComeN nw ops a E F w.drew (l.setIfInBounds i true) a'' W' x ∧ ∀ k, M ≤ k → k < ops.size → (l.setIfInBounds i true).getD k true = false) ∨
      ((l.setIfInBounds i true).size = ops.size ∧ ∃ i', M ≤ i' ∧ i' ≤ ops.size ∧ (∀ k, k < i' → (l.setIfInBounds i true).getD k true = true) ∧ (∀ k, i' ≤ k → k < ops.size → (l.setIfInBounds i true).getD k true = false) ∧ wpOpsIn Fence.wide n P ops Q (List.range' i' (ops.size - i')) a'' W')) a' W := by
      intro l a' W i hsz hMi hin h1 h2 hw
      rw [show ops.size - i = (ops.size - (i + 1)) + 1 by omega, List.range'_succ, wpOpsIn_cons] at hw
      refine wpOpIn_mono (fun a'' W' h => .inr ⟨by simp [hsz], i + 1, by omega, by omega, fun k hk => ?_, fun k hk hk2 => ?_, h⟩) hw
      · by_cases e : i = k
        · subst e; simp [Array.getD_eq_getD_getElem?, hsz, hin]
        · rw [Array.getD_eq_getD_getElem?, Array.getElem?_setIfInBounds_ne e, ← Array.getD_eq_getD_getElem?]; exact h1 k (by omega)
      · rw [Array.getD_eq_getD_getElem?, Array.getElem?_setIfInBounds_ne (by omega), ← Array.getD_eq_getD_getElem?]; exact h2 k (by omega) hk2
    rintro l a' W i (⟨x, c, hno⟩ | ⟨hsz, i', hMi, hi', h1, h2, hw⟩) hi
    · obtain ⟨o, ho, hli, hp⟩ := ready_iff.1 hi
      have hin := lt_of_some ho
      have hpl : ∀ p ∈ preds o, p < ops.size := fun p hp' => Nat.lt_trans (m.lt i o ho p hp') hin
      have hpt : ∀ p ∈ preds o, l.getD p true = true := fun p hp' => by rw [getD_lt (by rw [c.lsz]; exact hpl p hp') true false]; exact hp p hp'
      by_cases hiM : i < M
      · have hlook : ∀ t ∈ o.looksAt ops, a'.tmps[t]? = (putAll ops x (preds o) a).tmps[t]? := fun t ht' => by
          rw [c.get t, putAll_get m x t _ a (Nat.le_refl _) hpl]
          cases hw : wr ops t with
          | none => rfl
          | some k =>
            rcases m.look i o ho t ht' k hw with h | h | ⟨ok, hok, h⟩
            · simp [h, hpt k h]
            · subst h
              have hni : ¬ k ∈ preds o := fun h => absurd (m.lt k o ho k h) (Nat.lt_irrefl _)
              simp [hni, hli]
            · have hkl : l.getD k true = false := by
                cases hc : l.getD k true with
                | false => rfl
                | true => have := c.shut k ok hok hc i h; rw [hli] at this; cases this
              have hnk : ¬ k ∈ preds o := fun h' => by have := hpt k h'; rw [hkl] at this; cases this
              simp [hnk, hkl]
        have hex := exec_of_look (m.sel i o ho) hlook
        have hwa := wanted_of_look hlook
        have hval : ∀ k ∈ preds o, F k x (x k) W := fun k hk => c.val k (hpl k hk) (hpt k hk)
        have hshut : ∀ (k : Nat) (o' : Oper), ops[k]? = some o' → (l.setIfInBounds i true).getD k true = true → ∀ p ∈ preds o', (l.setIfInBounds i true).getD p true = true := fun k o' ho' hk p hp' => by
          by_cases e : i = p
          · subst e; simp [Array.getD_eq_getD_getElem?, c.lsz, hin]
          · rw [Array.getD_eq_getD_getElem?, Array.getElem?_setIfInBounds_ne e, ← Array.getD_eq_getD_getElem?]
            by_cases e2 : i = k
            · subst e2; rw [ho] at ho'; cases ho'; exact hpt p hp'
            · rw [Array.getD_eq_getD_getElem?, Array.getElem?_setIfInBounds_ne e2, ← Array.getD_eq_getD_getElem?] at hk
              exact c.shut k o' ho' hk p hp'
        have hg := hops i o ho hiM x W c.ext hval
        have hnext : ∀ v W', E W W' → F i x v W' → (i ∈ nw → (∃ g, v = .pointer (some ⟨g, 0, none⟩) ∧ W.heap.size ≤ g ∧ g < W'.heap.size)) → ComeN nw ops a E F w.drew (l.setIfInBounds i true) (a'.put o.dst v) W' (fun k => if k = i then v else x k) := fun v W' hE hv hnw => by
          have hdi : o.dst = dstOf ops i := by simp [dstOf, ho]
          have hback : ∀ k, k ≠ i → (l.setIfInBounds i true).getD k true = true → l.getD k true = true := fun k e h => by
            rw [Array.getD_eq_getD_getElem?, Array.getElem?_setIfInBounds_ne (Ne.symm e), ← Array.getD_eq_getD_getElem?] at h; exact h
          have hold : ∀ k ∈ nw, k < ops.size → l.getD k true = true → v ≠ x k ∨ ¬ i ∈ nw := fun k hk hks hlk => by
            by_cases hin : i ∈ nw
            · obtain ⟨g, e1, e2, _⟩ := hnw hin
              obtain ⟨g', e3, e4⟩ := c.new k hk hks hlk
              left
              rw [e1, e3]
              intro e
              simp only [Value.pointer.injEq, Option.some.injEq, Addr.mk.injEq] at e
              omega
            · exact .inr hin
          refine ⟨ht c.ext hE, by simp [c.lsz], ?_, ?_, hshut, fun k hk hlk => ?_, fun t => ?_, fun k hk hks hlk => ?_, fun p hp q hq hps hqs hlp hlq hpq => ?_⟩
          · rw [← c.dfs]; cases o.dst <;> rfl
          · rw [← c.asz]; cases o.dst <;> simp [Act.put]
          · by_cases e : k = i
            · subst e
              simp only [if_true]
              exact hL ho (fun j hj => if_neg (fun e => by rw [e] at hj; exact absurd (m.lt k o ho k hj) (Nat.lt_irrefl _))) hv
            · simp only [e, if_false]
              rw [Array.getD_eq_getD_getElem?, Array.getElem?_setIfInBounds_ne (Ne.symm e), ← Array.getD_eq_getD_getElem?] at hlk
              obtain ⟨ok, hok⟩ : ∃ ok, ops[k]? = some ok := ⟨ops[k], Array.getElem?_eq_getElem hk⟩
              refine hL hok (fun j hj => if_neg (fun e => ?_)) (hF (c.val k hk hlk) hE)
              have := c.shut k ok hok hlk j hj
              rw [e, hli] at this; cases this
          · rw [hdi, put_get m (by rw [c.asz]; exact Nat.le_refl _) hin v t, c.get t]
            cases hw : wr ops t with
            | none => simp
            | some k =>
              by_cases e : k = i
              · subst e; simp [Array.getD_eq_getD_getElem?, c.lsz, hin]
              · simp only [Option.some.injEq, e, if_false]
                rw [Array.getD_eq_getD_getElem? (i := k) (xs := l.setIfInBounds i true), Array.getElem?_setIfInBounds_ne (Ne.symm e), ← Array.getD_eq_getD_getElem?]
          · by_cases e : k = i
            · subst e
              obtain ⟨g, e1, _, e3⟩ := hnw hk
              exact ⟨g, by simpa using e1, e3⟩
            · obtain ⟨g, e1, e2⟩ := c.new k hk hks (hback k e hlk)
              exact ⟨g, by simpa [e] using e1, Nat.lt_of_lt_of_le e2 (hS hE)⟩
          · by_cases e1 : p = i
            · subst e1
              have := (hold q hq hqs (hback q (Ne.symm hpq) hlq)).resolve_right (fun h => h hp)
              simpa [Ne.symm hpq] using this
            · by_cases e2 : q = i
              · subst e2
                have := (hold p hp hps (hback p hpq hlp)).resolve_right (fun h => h hq)
                simpa [hpq] using Ne.symm this
              · simpa [e1, e2] using c.pair p hp q hq hps hqs (hback p e1 hlp) (hback q e2 hlq) hpq
        have hno' : ∀ k, M ≤ k → k < ops.size → (l.setIfInBounds i true).getD k true = false := fun k hk hk2 => by
          rw [Array.getD_eq_getD_getElem?, Array.getElem?_setIfInBounds_ne (by omega), ← Array.getD_eq_getD_getElem?]; exact hno k hk hk2
        unfold wpOpIn
        rw [ho]
        simp only []
        rw [hwa]
        split
        · rename_i hw
          rw [if_pos hw] at hg
          rw [← hex] at hg
          refine ⟨fun _ _ => trivial, ?_⟩
          rw [show Fence.wide.round = none from rfl, Oper.semAt_none]
          exact upon_wide (hg.upon (Q := fun _ _ _ => False) fun v W' hv => .inl ⟨_, hnext v W' hv.1.1 hv.1.2 hv.2, hno'⟩)
        · rename_i hw
          rw [if_neg hw] at hg
          exact ⟨fun _ _ => trivial, .inl ⟨_, hnext undef W (hr W) hg.1 (fun h => absurd h hg.2), hno'⟩⟩
      · -- the first of the tail
        have hall := tail_all htl c.shut ho (Nat.le_of_not_lt hiM) hpt
        have hiM2 : i = M := by
          by_cases e : i = M
          · exact e
          · have := hall M (by omega); rw [hno M (Nat.le_refl _) (by omega)] at this; cases this
        subst hiM2
        have ha := c.first m (Nat.le_refl _) hM hall hno
        have hf := hfin x W c.ext (fun k hk => c.val k (by omega) (hall k hk)) (fun p hp q hq hpM hqM hne => c.pair p hp q hq (by omega) (by omega) (hall p hpM) (hall q hqM) hne)
        rw [← ha] at hf
        exact htail l a' W i c.lsz (Nat.le_refl _) hin hall hno hf
    · obtain ⟨o, ho, hli, hp⟩ := ready_iff.1 hi
      have hin := lt_of_some ho
      have hge : i' ≤ i := by
        rcases Nat.lt_or_ge i i' with h | h
        · rw [h1 i h] at hli; cases hli
        · exact h
      have hii : i = i' := by
        by_cases e : i = i'
        · exact e
        · exfalso
          have h3 := List.all_eq_true.1 htl (i - 1) (List.mem_range.2 (by omega))
          rw [if_neg (by omega), show i - 1 + 1 = i by omega, ho] at h3
          have := hp (i - 1) (by simpa using h3)
          rw [getD_lt (by omega) false true, h2 (i - 1) (by omega) (by omega)] at this
          cases this
      subst hii
      exact htail l a' W i hsz hMi hin h1 h2 hw
  · rintro l a' W (⟨x, c, hno⟩ | ⟨hsz, i', hMi, hi', h1, h2, hw⟩) hn
    · have hall := all_of_none m c.lsz hn
      have hMe : M = ops.size := by
        by_cases e : M = ops.size
        · exact e
        · have := hno M (Nat.le_refl _) (by omega); rw [hall M (by omega)] at this; cases this
      have ha := c.first m (Nat.le_refl _) hM (fun k hk => hall k (by omega)) hno
      have hf := hfin x W c.ext (fun k hk => c.val k (by omega) (hall k (by omega))) (fun p hp q hq hpM hqM hne => c.pair p hp q hq (by omega) (by omega) (hall p (by omega)) (hall q (by omega)) hne)
      rw [← ha, hMe, Nat.sub_self] at hf
      exact hf
    · have hall := all_of_none m hsz hn
      have hie : i' = ops.size := by
        by_cases e : i' = ops.size
        · exact e
        · have := h2 i' (Nat.le_refl _) (by omega); rw [hall i' (by omega)] at this; cases this
      subst hie
      rw [Nat.sub_self] at hw
      exact hw
  · refine .inl ⟨fun _ => undef, ⟨hr _, by simp, rfl, rfl, fun k o ho hk => ?_, fun k hk hlk => ?_, fun t => ?_, fun k _ hks hlk => ?_, fun p _ q _ hps _ hlp _ _ => ?_⟩, fun k _ hk => ?_⟩
    · simp [Array.getD_eq_getD_getElem?, lt_of_some ho] at hk
    · simp [Array.getD_eq_getD_getElem?, hk] at hlk
    · cases hw : wr ops t with
      | none => rfl
      | some k => simp [Array.getD_eq_getD_getElem?, (wr_some hw).1]
    · simp [Array.getD_eq_getD_getElem?, hks] at hlk
    · simp [Array.getD_eq_getD_getElem?, hps] at hlp
    · simp [Array.getD_eq_getD_getElem?, hk]
variable {E : World → World → Prop}
theorem wpAnyIn_relN (nw : List Nat) (hS : ∀ {u v}, E u v → u.heap.size ≤ v.heap.size) (refl : ∀ w, E w w) (trans : ∀ {u v w : World}, E u v → E v w → E u w) {l t : List Oper} {Q : Exit → Act → World → Prop} {a : Act} {w : World} (ds : List (Option Tmp)) (D : List (List Nat)) (X : List Nat) (F : List (SPl E))
    (hck : (monoOk (l ++ t).toArray a.tmps.size && depsOk (l ++ t).toArray D && ((l ++ t).map (·.dst) == ds) && tailOk (l ++ t).toArray l.length X) = true) (hlk : linkOk (l ++ t).toArray F = true) (hops : OpsOkN nw P ds a w.drew F D 0 l)
    (hfin : ∀ (x : Nat → Value) (W : World), E w.drew W → KnownL F x W (List.range l.length) → (∀ i ∈ nw, ∀ j ∈ nw, i < l.length → j < l.length → i ≠ j → x i ≠ x j) → wpListIn Fence.wide n P (l ++ t).toArray Q t (putD ds x (List.range l.length) a) W) :
    wpAnyIn Fence.wide n P .any (l ++ t).toArray Q (l ++ t).toArray.size (Array.replicate (l ++ t).toArray.size false) a w.drew := by
  simp only [Bool.and_eq_true] at hck
  obtain ⟨⟨⟨hc1, hc2⟩, hc3⟩, hc4⟩ := hck
  have m := mono_of hc1
  refine wpAnyIn_new nw l.length X hc1 (by simp) hc4 E hS refl (@trans) (FofL F) (fun h hE => (F.getD _ anyl).st h hE) (fun {i o x x' v W} ho hx h => ?_) ?_ ?_
  · by_cases hi : i < F.length
    · have h1 := List.all_eq_true.1 hlk i (List.mem_range.2 hi)
      rw [ho] at h1
      exact (F.getD i anyl).loc (fun j hj => hx j (of_decide_eq_true (List.all_eq_true.1 h1 j hj))) h
    · have e : F.getD i anyl = anyl := by rw [List.getD_eq_getElem?_getD, List.getElem?_eq_none (by omega)]; rfl
      show (F.getD i anyl).p x' v W
      rw [e]; trivial
  · intro i o ho hi x W hE hp
    obtain ⟨hs, hlk⟩ := look_same m hc2 (Nat.le_refl _) x ho
    have hg := hops.at_ i o (by simpa [List.getElem?_append_left hi] using ho) x W hE (knownL_of fun k hk => by rw [Nat.zero_add] at hk; exact hp k (hs k hk))
    rw [Nat.zero_add] at hg
    have hg := hg.use hc3 (fun d hd => by rw [← putD_eq hc3, (putAll_size _ _ _ _).1]; exact (m.one i d (lt_of_some ho) (by simp only [dstOf, ho, Option.bind_some]; exact hd)).2)
    rw [← putD_eq hc3] at hg
    rw [← wanted_of_look hlk, ← exec_of_look (m.sel i o ho) hlk] at hg
    split
    · rename_i hw; rw [if_pos hw] at hg; exact hg
    · rename_i hw; rw [if_neg hw] at hg; exact ⟨hg.1.2, fun h => by obtain ⟨g, e, _⟩ := hg.2 h; cases e⟩
  · intro x W hE h hpr
    have hf := hfin x W hE (knownL_of fun k hk => h k (List.mem_range.1 hk)) hpr
    rw [← putD_eq hc3] at hf
    have e : (l ++ t).toArray.size - l.length = t.length := by simp
    rw [e, wpOpsIn_eq_wpListIn t l.length (fun j => by simp [List.getElem?_append_right])]
    exact hf
theorem wpIn_region_new (nw : List Nat) (hS : ∀ {u v}, E u v → u.heap.size ≤ v.heap.size) (refl : ∀ w, E w w) (trans : ∀ {u v w : World}, E u v → E v w → E u w) {l t : List Oper} {Q : Exit → Act → World → Prop} {id : Nat} {a : Act} {w : World} (ds : List (Option Tmp)) (D : List (List Nat)) (X : List Nat) (F : List (SPl E)) (hm : P.follows .mixedOrders = true)
    (hck : (monoOk (l ++ t).toArray a.tmps.size && depsOk (l ++ t).toArray D && ((l ++ t).map (·.dst) == ds) && tailOk (l ++ t).toArray l.length X) = true) (hlk : linkOk (l ++ t).toArray F = true) (hops : OpsOkN nw P ds a w.drew F D 0 l)
    (hfin : ∀ (x : Nat → Value) (W : World), E w.drew W → KnownL F x W (List.range l.length) → (∀ i ∈ nw, ∀ j ∈ nw, i < l.length → j < l.length → i ≠ j → x i ≠ x j) → wpListIn Fence.wide n P (l ++ t).toArray Q t (putD ds x (List.range l.length) a) W) :
    (Code.region id (l ++ t).toArray true).wpIn Fence.wide n P Q a w := wpIn_region_any hm (wpAnyIn_relN nw hS refl trans ds D X F hck hlk hops hfin)
end
end Hach

namespace Go.Proofs.YtompfgofaplffaaGreatDoor
open Go.RowKit Hach Go.Shelf
attribute [local go_sem] Oper.semAt_some

/-- Two blocks of cells stay. -/
def KpB (b1 b2 : Nat) (W W' : World) : Prop := ∀ b, b = b1 ∨ b = b2 → ∀ o : Obj, W.heap[b]? = some o → o.isCells = true → W'.heap[b]? = some o
theorem KpB.refl (b1 b2 : Nat) (W : World) : KpB b1 b2 W W := fun _ _ _ h _ => h
theorem KpB.trans {b1 b2 : Nat} {U V W : World} (h : KpB b1 b2 U V) (k : KpB b1 b2 V W) : KpB b1 b2 U W := fun b hb o ho hc => k b hb o (h b hb o ho hc) hc
theorem KpB.put {b1 b2 : Nat} (W : World) (l : Nat) (o o' : Obj) (h : W.heap[l]? = some o) (hc : o.isCells = false) : KpB b1 b2 W (W.putObj l o') := fun b _ u hu hcu => by
  have hne : b ≠ l := fun e => by rw [e, h] at hu; cases hu; rw [hc] at hcu; cases hcu
  exact (World.putObj_heap_other hne).trans hu
theorem KpB.ext {b1 b2 : Nat} {W W' : World} (h : Ext W W') : KpB b1 b2 W W' := fun b _ o ho _ => (h.below.block b (Array.getElem?_eq_some_iff.1 ho).1).trans ho
theorem KpB.set {b1 b2 c i : Nat} {v : Value} (W : World) (h1 : b1 ≠ c) (h2 : b2 ≠ c) : KpB b1 b2 W (W.setCell ⟨c, i, none⟩ v) := fun b hb o ho _ => by
  rw [heap_setCell_other _ _ _ _ (by rcases hb with rfl | rfl <;> assumption)]; exact ho
theorem KpB.cell {b1 b2 : Nat} {W W' : World} (h : KpB b1 b2 W W') {b i : Nat} {v : Value} (hb : b = b1 ∨ b = b2) (hc : W.cell? ⟨b, i, none⟩ = some v) : W'.cell? ⟨b, i, none⟩ = some v := by
  cases ho : W.heap[b]? with
  | none => simp [World.cell?, ho] at hc
  | some o =>
    have hcl : o.isCells = true := by
      cases o <;> first | rfl | (simp [World.cell?, ho] at hc)
    exact (World.cell?_of_block (a := ⟨b, i, none⟩) ((h b hb o ho hcl).trans ho.symm)).trans hc
/-- A segment of a line, as the loop is handed it. -/
def sgV (l : List Pt) (i : Nat) : Array Value := #[.int .i64 (i : Int), .agg #[.int .i64 (gp l i).x, .int .i64 (gp l i).y, .int .i64 (gp l (i + 1)).x, .int .i64 (gp l (i + 1)).y]]
theorem segs_any (A : Option Addr) (n c : Nat) (w : World) : Calls Tryz.prog 129 #[.slice A n c] w fun e w' => e = .returned (.func (.func 176) #[] #[.pointer (some ⟨w.heap.size, 0, none⟩)]) ∧ w' = w.alloc (.cells #[.slice A n c] 75) := by
  go_enter Tryz.func129, Tryz.ntmps129
  go_wp2_with fail
  go_ret
  exact ⟨rfl, rfl⟩
set_option maxRecDepth 100000 in
set_option maxHeartbeats 4000000 in
theorem seg1_in (n : Nat) (hn : 1 ≤ n) (y Bs b off c : Nat) (l : List Pt) (hreach : l.length < 4611686018427387904) (J Jx : List Nat → World → Prop) (W : World) (hJ : AbidesFrom W.heap.size J)
    (hY : ∀ pre x W1, J pre W1 → pre.length < l.length - 1 → x < l.length - 1 → YieldAt Fence.wide (n - 1) Tryz.prog y (sgV l x) W1 fun e W' =>
      (e = .returned (.bool true) ∧ J (pre ++ [x]) W' ∧ KpB Bs b W1 W') ∨ (e = .returned (.bool false) ∧ Jx (pre ++ [x]) W'))
    (hBs : W.cell? ⟨Bs, 0, none⟩ = some (.slice (some ⟨b, off, none⟩) l.length c)) (hc : ∀ j, j < l.length → W.rangeAt b (off + j * 2) (ptC (gp l j))) (h0 : J [] W) :
    CallsIn Fence.wide n Tryz.prog 176 #[.func (.yield y) #[] #[], .pointer (some ⟨Bs, 0, none⟩)] W fun e W' => (∃ v, e = .returned v) ∧
      ((∃ ys, ys = List.range (l.length - 1) ∧ J ys W') ∨ (∃ pre, (∃ k, k ≤ l.length - 1 ∧ pre = List.range k) ∧ Jx pre W')) := by
  refine callsIn_of_wp Tryz.func176 rfl trivial ?_ rfl
  simp only [Tryz.ntmps176, List.size_toArray, List.length_cons, List.length_nil, Nat.reduceAdd, Nat.reduceSub, Array.replicate_succ, Array.replicate_zero, List.push_toArray, List.append_toArray, List.nil_append, List.cons_append]
  have HC := Lib.hid hc
  clear hc
  gi_wp2
  gi_loopw [3] (fun i wr => ∃ k : Nat, k ≤ l.length - 1 ∧ i = .int .i64 k ∧ J (List.range k) wr ∧ KpB Bs b W wr)
    (fun i _ => l.length - (intOf i).toNat)
  case atStart => exact ⟨0, Nat.zero_le _, rfl, h0, KpB.refl _ _ _⟩
  case round =>
    obtain ⟨k, hk, rfl, hJs, hnx⟩ := hrel
    have hB := hnx.cell (.inl rfl) hBs
    have e1 : IntKind.i64.wrap ((k : Int) + 1) = (k : Int) + 1 := IntWalk.i64_in _ (by omega)
    by_cases hlt : k + 1 < l.length
    · have t1 : decide (k + 1 < l.length) = true := by simpa using hlt
      have x0 := hnx.cell (.inr rfl) (HC.out k (by omega) 0 _ rfl)
      have x1 := hnx.cell (.inr rfl) (HC.out k (by omega) 1 _ rfl)
      have y0 := hnx.cell (.inr rfl) (HC.out (k + 1) (by omega) 0 _ rfl)
      have y1 := hnx.cell (.inr rfl) (HC.out (k + 1) (by omega) 1 _ rfl)
      rw [Nat.add_zero] at x0 y0
      gi_wp2
      have HQ := Lib.hid (fun W' (hE : Ext wr.drew W') => And.intro (cell_ext (Ext.trans (Ext.drew wr) hE) hB) (And.intro (cell_ext (Ext.trans (Ext.drew wr) hE) x0) (And.intro (cell_ext (Ext.trans (Ext.drew wr) hE) x1) (And.intro (cell_ext (Ext.trans (Ext.drew wr) hE) y0) (cell_ext (Ext.trans (Ext.drew wr) hE) y1)))))
      clear hB x0 x1 y0 y1
      apply wpIn_region_new (E := Ext) [] (fun h => Ext.sz h) Ext.refl (@Ext.trans) (l := [_, _, _, _, _, _, _, _, _, _, _, _]) (t := [_, _]) [some 11, some 12, some 13, some 14, some 15, some 16, some 17, some 18, some 19, some 20, some 21, some 22, some 23, some 24] [[], [], [], [], [2, 3], [4], [], [], [7], [6, 8], [9], [5, 10], [0, 1, 11], [12]] [12, 12, 4, 4, 5, 11, 9, 8, 9, 10, 11, 12] [eql _, eql _, eql _, eql _, eql _, (eql (.agg #[.int .i64 (gp l k).x, .int .i64 (gp l k).y])), eql _, eql _, eql _, eql _, (eql (.agg #[.int .i64 (gp l (k + 1)).x, .int .i64 (gp l (k + 1)).y])), eql _] (by kernel_rfl) (by kernel_rfl) (by kernel_rfl) ⟨?o0, ?o1, ?o2, ?o3, ?o4, ?o5, ?o6, ?o7, ?o8, ?o9, ?o10, ?o11, trivial⟩ ?last
      case o0 => -- Op.move (Operand.tmp 0)
        intro xv W4 hE _
        simp only [putD, List.foldl_nil, List.getD_cons_zero]
        refine OpGoal.plain ?_
        go_wp2_with fail
        exact ⟨rfl, Ext.refl _, rfl⟩
      case o1 => -- Op.move (Operand.tmp 3)
        intro xv W4 hE _
        simp only [putD, List.foldl_nil, List.getD_cons_zero, List.getD_cons_succ]
        refine OpGoal.plain ?_
        go_wp2_with fail
        exact ⟨rfl, Ext.refl _, rfl⟩
      case o2 => -- Op.load 75 (Operand.tmp 1)
        intro xv W4 hE _
        obtain ⟨hB, x0, x1, y0, y1⟩ := HQ.out W4 hE
        simp only [putD, List.foldl_nil, List.getD_cons_zero, List.getD_cons_succ]
        refine OpGoal.plain ?_
        go_wp2_with fail
        exact ⟨rfl, Ext.refl _, rfl⟩
      case o3 => -- Op.move (Operand.tmp 3)
        intro xv W4 hE _
        simp only [putD, List.foldl_nil, List.getD_cons_zero, List.getD_cons_succ]
        refine OpGoal.plain ?_
        go_wp2_with fail
        exact ⟨rfl, Ext.refl _, rfl⟩
      case o4 => -- Op.indexAddr 75 (Operand.tmp 13) (Operand.tmp 14)
        intro xv W4 hE hp
        have r2 : xv 2 = _ := hp.1
        have r3 : xv 3 = _ := hp.2.1
        clear hp
        simp only [putD, List.foldl_nil, List.foldl_cons, List.getD_cons_zero, List.getD_cons_succ, Act.put, List.setIfInBounds_toArray, List.set_cons_zero, List.set_cons_succ]
        refine OpGoal.plain ?_
        go_wp2_with fail
        exact ⟨rfl, Ext.refl _, rfl⟩
      case o5 => -- Op.load 73 (Operand.tmp 15)
        intro xv W4 hE hp
        have r4 : xv 4 = _ := hp.1
        clear hp
        obtain ⟨hB, x0, x1, y0, y1⟩ := HQ.out W4 hE
        simp only [putD, List.foldl_nil, List.foldl_cons, List.getD_cons_zero, List.getD_cons_succ, Act.put, List.setIfInBounds_toArray, List.set_cons_zero, List.set_cons_succ]
        refine OpGoal.plain ?_
        go_wp2_with fail
        exact ⟨rfl, Ext.refl _, rfl⟩
      case o6 => -- Op.load 75 (Operand.tmp 1)
        intro xv W4 hE _
        obtain ⟨hB, x0, x1, y0, y1⟩ := HQ.out W4 hE
        simp only [putD, List.foldl_nil, List.getD_cons_zero, List.getD_cons_succ]
        refine OpGoal.plain ?_
        go_wp2_with fail
        exact ⟨rfl, Ext.refl _, rfl⟩
      case o7 => -- Op.move (Operand.tmp 3)
        intro xv W4 hE _
        simp only [putD, List.foldl_nil, List.getD_cons_zero, List.getD_cons_succ]
        refine OpGoal.plain ?_
        go_wp2_with fail
        exact ⟨rfl, Ext.refl _, rfl⟩
      case o8 => -- Op.binOp BinOp.add 3 (Operand.tmp 18) (Operand.const (Value.int IntKind.i64 1)) 
        intro xv W4 hE hp
        have r7 : xv 7 = _ := hp.1
        clear hp
        simp only [putD, List.foldl_nil, List.foldl_cons, List.getD_cons_zero, List.getD_cons_succ, Act.put, List.setIfInBounds_toArray, List.set_cons_zero, List.set_cons_succ]
        refine OpGoal.plain ?_
        go_wp2_with fail
        exact ⟨rfl, Ext.refl _, rfl⟩
      case o9 => -- Op.indexAddr 75 (Operand.tmp 17) (Operand.tmp 19)
        intro xv W4 hE hp
        have r6 : xv 6 = _ := hp.1
        have r8 : xv 8 = _ := hp.2.1
        clear hp
        simp only [putD, List.foldl_nil, List.foldl_cons, List.getD_cons_zero, List.getD_cons_succ, Act.put, List.setIfInBounds_toArray, List.set_cons_zero, List.set_cons_succ]
        refine OpGoal.plain ?_
        go_wp2_with fail
        exact ⟨rfl, Ext.refl _, rfl⟩
      case o10 => -- Op.load 73 (Operand.tmp 20)
        intro xv W4 hE hp
        have r9 : xv 9 = _ := hp.1
        clear hp
        obtain ⟨hB, x0, x1, y0, y1⟩ := HQ.out W4 hE
        simp only [putD, List.foldl_nil, List.foldl_cons, List.getD_cons_zero, List.getD_cons_succ, Act.put, List.setIfInBounds_toArray, List.set_cons_zero, List.set_cons_succ]
        refine OpGoal.plain ?_
        go_wp2_with fail
        exact ⟨rfl, Ext.refl _, rfl⟩
      case o11 => -- Op.build 175 #[(0, Operand.tmp 16), (1, Operand.tmp 21)]
        intro xv W4 hE hp
        have r5 : xv 5 = _ := hp.1
        have r10 : xv 10 = _ := hp.2.1
        clear hp
        simp only [putD, List.foldl_nil, List.foldl_cons, List.getD_cons_zero, List.getD_cons_succ, Act.put, List.setIfInBounds_toArray, List.set_cons_zero, List.set_cons_succ]
        refine OpGoal.plain ?_
        go_wp2_with fail
        exact ⟨rfl, Ext.refl _, rfl⟩
      case last =>
        intro xv W4 hE hp hpr
        have r0 : xv 0 = _ := hp.1
        have r1 : xv 1 = _ := hp.2.1
        have r2 : xv 2 = _ := hp.2.2.1
        have r3 : xv 3 = _ := hp.2.2.2.1
        have r4 : xv 4 = _ := hp.2.2.2.2.1
        have r5 : xv 5 = _ := hp.2.2.2.2.2.1
        have r6 : xv 6 = _ := hp.2.2.2.2.2.2.1
        have r7 : xv 7 = _ := hp.2.2.2.2.2.2.2.1
        have r8 : xv 8 = _ := hp.2.2.2.2.2.2.2.2.1
        have r9 : xv 9 = _ := hp.2.2.2.2.2.2.2.2.2.1
        have r10 : xv 10 = _ := hp.2.2.2.2.2.2.2.2.2.2.1
        have r11 : xv 11 = _ := hp.2.2.2.2.2.2.2.2.2.2.2.1
        clear hp
        simp only [putD, List.foldl_nil, List.foldl_cons, List.getD_cons_zero, List.getD_cons_succ, Act.put, List.length_cons, List.length_nil, List.range_succ, List.range_zero, List.nil_append, List.cons_append, List.setIfInBounds_toArray, List.set_cons_zero, List.set_cons_succ]
        have hE0 : Ext wr W4 := Ext.trans (Ext.drew wr) hE
        have hJ4 := hJ (List.range k) wr W4 none hJs (grownE hE0 none) (fun r e => by cases e)
        have hk4 := hnx.trans (KpB.ext (b1 := Bs) (b2 := b) hE0)
        obtain ⟨fn, tmps, assign, body, hy, hR⟩ := hY _ k W4 hJ4 (by rw [List.length_range]; omega) (by omega)
        unfold sgV at hy
        simp only [r0, r1, r11]
        clear r0 r1 r2 r3 r4 r5 r6 r7 r8 r9 r10 r11 hJs hnx hJ4 hE hE0
        gi_wp2
        refine hR.mono ?_
        rintro e W3 (⟨rfl, hJ3, hk3⟩ | ⟨rfl, hJx3⟩)
        · gi_wp2
          go_roundw
          case rel => exact ⟨k + 1, by omega, by go_num, by rw [List.range_succ]; exact hJ3, hk4.trans hk3⟩
          case measure => simp [intOf]; omega
        · gi_wp2
          refine bodyPost_ret (results_none rfl _ _ _) rfl ?_
          exact ⟨⟨_, rfl⟩, .inr ⟨_, ⟨k + 1, by omega, rfl⟩, by rw [List.range_succ]; exact hJx3⟩⟩
    · have t1 : decide (k + 1 < l.length) = false := by simpa using hlt
      have hke : k = l.length - 1 := by omega
      gi_wp2
      go_end0
      exact ⟨⟨_, rfl⟩, .inl ⟨_, by rw [hke], hJs⟩⟩
end Go.Proofs.YtompfgofaplffaaGreatDoor

namespace Hach
open Go Go.RowKit
section
variable {F : Fence} {n : Nat} {P : Program}

/- what abides all that does not touch cells, from block B on -/
def Abide (B : Nat) (p : World → Prop) : Prop := OwnFrom B (fun (_ : Unit) W => p W)

/- The contract of an iterator that yields one value v for each x of S, in order: what it reads of x is 'Rd x v' in memory; J is what lies between two rounds. -/
def Brings {α : Type} (F : Fence) (n : Nat) (P : Program) (g : Nat) (lb : Array Value) (Rd : α → Value → Nat → World → Prop) (S : List α) (w : World) : Prop :=
  ∀ (l : Nat) (J : List α → World → Prop) (W : World), Below w.heap.size w W →
    (∀ pre x post v W0 W1, S = pre ++ x :: post → J pre W0 → Ext W0 W1 → Rd x v W0.heap.size W1 → YieldAt F (n - 1) P l #[v] W1 fun e W' => e = .returned (.bool true) ∧ J (pre ++ [x]) W' ∧ Rd x v 0 W') →
    J [] W →
    CallsIn F n P g (#[.func (.yield l) #[] #[]] ++ lb) W fun e W' => (∃ v, e = .returned v) ∧ ∃ W0, J S W0 ∧ Ext W0 W'

def bodyEnd {α : Type} (B : Nat) (Rd : α → Value → Nat → World → Prop) (I : List α → Nat → World → Prop) (xs : List α) (x : α) (v : Value) (W : World) : Exit → Act → World → Prop
  | .normal, _, W' => KeepsFrom B W W' ∧ I xs W'.heap.size W' ∧ Rd x v 0 W'
  | _, _, _ => False

/- The law of the loop. I pre B W: 'pre' has come; the loop's own memory lies below block B. -/
theorem wpIn_range {α : Type} {g : Operand} {ps : Array Tmp} {assign body : Code} {Q : Exit → Act → World → Prop} {a : Act} {w : World}
    (hro : F.round = none) (h1 : 1 ≤ n) {gf : Nat} {lb : Array Value} (hg : a.eval g = .func (.func gf) #[] lb) (hFg : F.fn gf) (eg : ∀ args w, (callFunc gf args).run P w = .ok (.enter gf args) w)
    (Rd : α → Value → Nat → World → Prop) (S : List α) (hseq : Brings F (n - 1) P gf lb Rd S w) (hps : ps.size = 1)
    (I : List α → Nat → World → Prop) (hI : ∀ pre B, Abide w.heap.size (I pre B)) (hIB : ∀ {pre B B' W}, B ≤ B' → I pre B W → I pre B' W) (hRd : ∀ x v B, Abide w.heap.size (Rd x v B))
    (h0 : I [] w.heap.size w) (a₁ : Value → Act)
    (hassign : ∀ (l : Nat) (v : Value) (W : World) (K : Act → World → Prop), K (a₁ v) W →
      assign.wpIn (F.inRound l) (n - 1 - 1) P (Exit.then K (fun _ _ _ => False)) { tmps := (ps.zip #[v]).foldl (fun t (p, v) => t.setIfInBounds p v) a.tmps, defers := [] } W)
    (hbody : ∀ (l : Nat) (pre : List α) (x : α) (post : List α) (v : Value) (B : Nat) (W : World), S = pre ++ x :: post → I pre B W → B ≤ W.heap.size → w.heap.size ≤ B → Rd x v B W → body.wpIn (F.inRound l) (n - 1 - 1) P (bodyEnd w.heap.size Rd I (pre ++ [x]) x v W) (a₁ v) W)
    (hdone : ∀ (D : Nat) (W : World), w.heap.size ≤ D → I S W.heap.size W → W.heap[D]? = some (.deferred (some [])) → Q .normal { a with defers := { target := .collected D, args := #[] } :: a.defers } W) :
    (Code.rangeFunc g ps assign body).wpIn F n P Q a w := by
  refine wpIn_rangeFunc ?_
  intro fn hfn
  rw [hro]
  obtain ⟨rec, hrec⟩ : ∃ rec : LoopState → Option Code → Loop, rec = fun st pe => { state := st, pending := pe, fn, tmps := a.tmps, params := ps, assign, body, defers := w.heap.size } := ⟨_, rfl⟩
  obtain ⟨W1, hW1⟩ : ∃ W1, (w.alloc (.deferred (some []))).alloc (.loop (rec .ready none)) = W1 := ⟨_, rfl⟩
  have hL1 : W1.heap[w.heap.size + 1]? = some (.loop (rec .ready none)) := by
    rw [← hW1]; have := World.alloc_heap_new (w.alloc (.deferred (some []))) (.loop (rec .ready none)); rwa [World.size_alloc] at this
  have hK1 : W1.heap[w.heap.size]? = some (.deferred (some [])) := by
    rw [← hW1]; exact (Below.heap_alloc _ _ _ (by simp)).trans (World.alloc_heap_new w _)
  have hI1 : I [] W1.heap.size W1 := by
    rw [← hW1]; exact hIB (by simp; omega) (OwnFrom.alloc (hI _ _) (s := ()) _ (OwnFrom.alloc (hI _ _) (s := ()) _ h0))
  have hb1 : Below w.heap.size w W1 := by
    rw [← hW1]; exact ((Below.refl _ w).alloc (Nat.le_refl _) _).alloc (by simp) _
  refine ⟨w.heap.size + 1, [{ target := .collected w.heap.size, args := #[] }], W1, { target := .fn (.func gf) lb, args := #[.func (.yield (w.heap.size + 1)) #[] #[]] }, W1, gf,
    #[.func (.yield (w.heap.size + 1)) #[] #[]] ++ lb, W1, ?_, ?_, ?_, ?_, fun _ => h1, ?_⟩
  · rw [← hW1, hrec]; exact run_enterLoop_outer _ _ _ _ _
  · simp only [resolve, hg]
    simp [go_sem]
  · intro f' hf'; simp [Target.leads] at hf'; subst hf'; exact hFg
  · simp [invoke, go_sem, eg]
  · refine (hseq (w.heap.size + 1)
      (fun pre W => I pre W.heap.size W ∧ w.heap.size + 2 ≤ W.heap.size ∧ W.heap[w.heap.size + 1]? = some (.loop (rec .ready none)) ∧ W.heap[w.heap.size]? = some (.deferred (some [])))
      W1 hb1 ?_ ⟨hI1, by rw [← hW1]; simp, hL1, hK1⟩).mono ?_
    · rintro pre x post v W0 W hS ⟨hi, hsz, hl, hk⟩ hE hrd
      replace hl : W.heap[w.heap.size + 1]? = some (.loop (rec .ready none)) := (hE.block _ (by omega)).trans hl
      replace hk : W.heap[w.heap.size]? = some (.deferred (some [])) := (hE.block _ (by omega)).trans hk
      have hz := hE.sz
      have hi' : I pre W0.heap.size W := hI _ _ () W0 W none hi ⟨hE.os, hE.tape, hE.output, hE.size, fun k hk _ => hE.block k hk⟩ (fun r e => by cases e)
      have hy := run_yield (P := P) (args := #[v]) hl (by rw [hrec]; simpa using hps.symm)
      rw [hrec] at hy
      refine ⟨fn, _, assign, body, hy, roundIn_of_wpIn hfn (hassign _ v W _ ?_)⟩
      clear hy
      refine ⟨_, run_beginRound hl (by rw [hrec]), ?_⟩
      have hlt : w.heap.size + 1 < W.heap.size := by omega
      have hl2 : (W.putObj (w.heap.size + 1) (.loop { rec .ready none with state := .busy })).heap[w.heap.size + 1]? = some (.loop { rec .ready none with state := .busy }) := World.putObj_heap_same hlt
      have hk2 : (W.putObj (w.heap.size + 1) (.loop { rec .ready none with state := .busy })).heap[w.heap.size]? = some (.deferred (some [])) := (World.putObj_heap_other (by omega)).trans hk
      refine wpIn_mono (hbody _ pre x post v W0.heap.size _ hS (OwnFrom.putObj (hI _ _) (s := ()) _ hi' (by omega) hl rfl) (by simpa using hz) (by omega) (OwnFrom.putObj (hRd _ _ _) (s := ()) _ hrd (by omega) hl rfl)) ?_
      rintro e a3 W3 hp
      cases e with
      | normal =>
        obtain ⟨hk3, hi3, hr3⟩ := hp
        have hl3 := hk3.same _ _ (by omega) hl2 rfl
        have hd3 := hk3.same _ _ (Nat.le_refl _) hk2 rfl
        have hr := run_endRound (P := P) none hl3
        rw [hrec] at hr hl3
        have hz3 := hk3.size
        rw [World.putObj_size] at hz3
        refine ⟨_, _, hr, rfl, ⟨?_, ?_, ?_, ?_⟩, OwnFrom.putObj (hRd _ _ _) (s := ()) _ hr3 (by omega) hl3 rfl⟩
        · rw [World.putObj_size]; exact OwnFrom.putObj (hI _ _) (s := ()) _ hi3 (by omega) hl3 rfl
        · rw [World.putObj_size]; omega
        · rw [World.putObj_heap_same (Array.getElem?_eq_some_iff.1 hl3).1, hrec]; rfl
        · exact (World.putObj_heap_other (by omega)).trans hd3
      | ret => exact hp.elim
      | exit id => exact hp.elim
      | goto t => exact hp.elim
      | panic ch => exact hp.elim
      | outgrown => exact hp.elim
    · rintro e W2 ⟨⟨v, rfl⟩, W0, ⟨hi, hsz, hl, hk⟩, hE⟩
      have hz := hE.sz
      replace hl : W2.heap[w.heap.size + 1]? = some (.loop (rec .ready none)) := (hE.block _ (by omega)).trans hl
      replace hk : W2.heap[w.heap.size]? = some (.deferred (some [])) := (hE.block _ (by omega)).trans hk
      have hi' : I S W0.heap.size W2 := hI _ _ () W0 W2 none hi ⟨hE.os, hE.tape, hE.output, hE.size, fun k hk _ => hE.block k hk⟩ (fun r e => by cases e)
      refine ⟨none, _, by have := run_endLoop (P := P) hl (by rw [hrec]; simp); rw [hrec] at this; exact this, hdone _ _ (Nat.le_refl _) ?_ ((World.putObj_heap_other (by omega)).trans hk)⟩
      rw [World.putObj_size]
      exact hIB hz (OwnFrom.putObj (hI _ _) (s := ()) _ hi' (by omega) hl rfl)

/- a region that draws, in a round: as elsewhere, where it holds no defer statement -/
def noDefer (ops : Array Oper) : Bool := ops.toList.all fun o => match o.op with
  | .defer _ => false
  | _ => true
theorem no_defer {ops : Array Oper} (h : noDefer ops = true) {i : Nat} {o : Oper} (ho : ops[i]? = some o) : ∀ c, o.op ≠ .defer c := fun c e => by
  have := List.all_eq_true.1 h o (by rw [Array.mem_toList_iff]; exact Array.mem_of_getElem? ho)
  rw [e] at this
  cases this
theorem upon_round {r : Nat} {o : Oper} {a : Act} {K : Act → World → Prop} {Q : Exit → Act → World → Prop} {x : Result Next} (h : o.upon P a K Q x) : o.uponIn (Fence.wide.inRound r) n P a K Q x := by
  cases x with
  | ok nx w' =>
    cases nx <;> simp only [Oper.upon] at h <;> simp only [Oper.uponIn]
    case value v => exact h
    case skip => exact h
    case defer d => exact h
    case enter f args => exact ⟨fun e => (by cases e), CallsIn.inRound r (callsIn_wide.2 h)⟩
    case row row args =>
      refine ⟨fun e => (by cases e), fun c cs _ => ?_⟩
      obtain ⟨v, w'', hr, hs⟩ := h c cs
      exact ⟨v, w'', hr, stepsIn_wide.2 hs⟩
  | halt x w' => cases x <;> exact h
theorem wpOpIn_round {r : Nat} {ops : Array Oper} {Q : Exit → Act → World → Prop} {i : Nat} {K : Act → World → Prop} {a : Act} {w : World} (hd : noDefer ops = true) (hQ : LetsOut Q → False) (h : wpOp P ops Q i K a w) : wpOpIn (Fence.wide.inRound r) n P ops Q i K a w := by
  unfold wpOp at h
  unfold wpOpIn
  cases ho : ops[i]? with
  | none => rw [ho] at h; exact h
  | some o =>
    rw [ho] at h
    simp only at h ⊢
    split
    · rename_i hw
      rw [if_pos hw] at h
      refine ⟨fun _ _ => trivial, ?_⟩
      rw [Oper.semAt_eq _ _ _ (no_defer hd ho)]
      exact upon_round (h.resolve_right fun e => hQ e.2)
    · rename_i hw
      rw [if_neg hw] at h
      exact ⟨fun _ _ => trivial, h⟩
theorem wpAnyIn_round {r : Nat} {ops : Array Oper} {Q : Exit → Act → World → Prop} {md : Region.Mode} (hd : noDefer ops = true) (hQ : LetsOut Q → False) : ∀ (fuel : Nat) (l : Array Bool) (a : Act) (w : World), wpAny P md ops Q fuel l a w → wpAnyIn (Fence.wide.inRound r) n P md ops Q fuel l a w
  | 0, _, _, _, h => h
  | fuel + 1, l, a, w, h => ⟨h.1, fun i hi => wpOpIn_mono (fun a w => wpAnyIn_round hd hQ fuel _ a w) (wpOpIn_round hd hQ (h.2 i hi))⟩
theorem wpIn_region_seq {r : Nat} {l t : List Oper} {Q : Exit → Act → World → Prop} {id : Nat} {a : Act} {w : World} (ds : List (Option Tmp)) (D : List (List Nat)) (X : List Nat) (F : List SP) (hQ : LetsOut Q → False) (hm : P.follows .mixedOrders = true)
    (hck : (monoOk (l ++ t).toArray a.tmps.size && depsOk (l ++ t).toArray D && ((l ++ t).map (·.dst) == ds) && tailOk (l ++ t).toArray l.length X && noDefer (l ++ t).toArray) = true) (hops : OpsOk P ds a w.drew F D 0 l)
    (hfin : ∀ (x : Nat → Value) (W : World), Ext w.drew W → Known F x W (List.range l.length) → wpList P (l ++ t).toArray Q t (putD ds x (List.range l.length) a) W) :
    (Code.region id (l ++ t).toArray true).wpIn (Fence.wide.inRound r) n P Q a w := by
  rw [Bool.and_eq_true] at hck
  exact wpIn_region_any hm (wpAnyIn_round hck.2 hQ _ _ _ _ (wpAny_seq ds D X F hck.1 hops hfin))
end
end Hach

namespace Go.Proofs.YtompfgofaplffaaGreatDoor
open Go.RowKit Hach Go.Shelf
attribute [local go_sem] Oper.semAt_some

set_option maxRecDepth 100000 in
set_option maxHeartbeats 2000000 in
theorem seg0_in (n : Nat) (y Bs c : Nat) (A : Option Addr) (J : List Nat → World → Prop) (W : World) (hBs : W.cell? ⟨Bs, 0, none⟩ = some (.slice A 0 c)) (h0 : J [] W) :
    CallsIn Fence.wide n Tryz.prog 176 #[.func (.yield y) #[] #[], .pointer (some ⟨Bs, 0, none⟩)] W fun e W' => (∃ v, e = .returned v) ∧ J [] W' := by
  refine callsIn_of_wp Tryz.func176 rfl trivial ?_ rfl
  simp only [Tryz.ntmps176, List.size_toArray, List.length_cons, List.length_nil, Nat.reduceAdd, Nat.reduceSub, Array.replicate_succ, Array.replicate_zero, List.push_toArray, List.append_toArray, List.nil_append, List.cons_append]
  gi_wp2
  gi_loopw [3] (fun i wr => i = .int .i64 0 ∧ wr = W) (fun _ _ => 0)
  case atStart => exact ⟨rfl, rfl⟩
  case round =>
    obtain ⟨rfl, rfl⟩ := hrel
    gi_wp2
    go_end0
    exact ⟨⟨_, rfl⟩, h0⟩
/-- The segments of a line, handed over one after the other. -/
theorem segs_stops (n : Nat) (hn : 1 ≤ n) (Bs b c : Nat) (A : Option Addr) (l : List Pt) (hreach : l.length < 4611686018427387904) (w : World) (hBs : w.cell? ⟨Bs, 0, none⟩ = some (.slice A l.length c)) (hA : Pts w A l) (hb : ∀ b' o, A = some ⟨b', o, none⟩ → b' = b) :
    SeqStopsK Fence.wide n Tryz.prog 176 #[.pointer (some ⟨Bs, 0, none⟩)] (sgV l) (KpB Bs b) (fun ys => ys = List.range (l.length - 1)) (fun pre => ∃ k, k ≤ l.length - 1 ∧ pre = List.range k) (l.length - 1) w := fun y J Jx W hW hJ _ hY h0 => by
  have hlt : Bs < w.heap.size := by
    rcases Nat.lt_or_ge Bs w.heap.size with h | h
    · exact h
    · simp [World.cell?, Array.getElem?_eq_none h] at hBs
  have hc' := (hW.cell (p := ⟨Bs, 0, none⟩) hlt).trans hBs
  cases l with
  | nil => exact (seg0_in n y Bs c A J W hc' h0).mono fun e W' ⟨he, hj⟩ => ⟨he, .inl ⟨_, rfl, hj⟩⟩
  | cons p l =>
    obtain ⟨b', o, rfl, hlb⟩ := hA.some_ (by simp)
    obtain rfl := hb b' o rfl
    exact seg1_in n hn y Bs b' o c (p :: l) hreach J Jx W hJ (fun pre x W1 h1 h2 _ => hY pre x W1 h1 h2) hc' (fun j hj i v hv => (hW.cell (p := ⟨b', o + j * 2 + i, none⟩) hlb).trans (hA.at_ hj i v hv)) h0
theorem gp_right' {l : List Pt} (h : l.all rightP = true) (x : Nat) : rightP (gp l x) = true := by
  rcases Nat.lt_or_ge x l.length with hx | hx
  · exact gp_right h hx
  · unfold gp; rw [List.getD_eq_getElem?_getD, List.getElem?_eq_none hx]; decide
theorem lenTo_nonneg (l : List Pt) (k : Nat) : 0 ≤ lenTo l k := by
  induction k with
  | zero => exact Int.le_refl 0
  | succ k ih => unfold lenTo; have := sqI_nonneg (dot (gp l k) (gp l (k + 1))); omega
theorem lenTo_bd' {l : List Pt} (h : l.all rightP = true) : ∀ {k : Nat}, k + 1 ≤ l.length ∨ k = 0 → lenTo l k ≤ 46341 * k
  | 0, _ => by show (0 : Int) ≤ _; omega
  | k + 1, hk => by
    have ih := lenTo_bd' h (k := k) (by omega)
    have := (sqI_bd (dot_bd (gp_right h (i := k) (by omega)) (gp_right h (i := k + 1) (by omega))).2).2
    unfold lenTo
    omega
/-- A block of cells is no matter of the loop's book-keeping. -/
theorem cells_own {β : Type} (B : Nat) (C : β → Array Value) (T : TypeId) : Own (fun s W => W.heap[B]? = some (Obj.cells (C s) T (0, 0))) := fun s X Y row hs hg hrow =>
  (hg.block B (Array.getElem?_eq_some_iff.1 hs).1 (fun e' => by obtain ⟨o, ho, hc⟩ := hrow B e'.symm; rw [show X.heap[B]? = _ from hs] at ho; cases ho; cases hc)).trans hs
set_option maxRecDepth 100000 in
set_option maxHeartbeats 4000000 in
theorem length_in (A : Option Addr) (c : Nat) (l : List Pt) (hreach : l.length < 1000000000) (hr : l.all rightP = true) (w : World) (hA : Pts w A l) :
    Calls Tryz.prog 91 #[.slice A l.length c] w fun e W' => e = .returned (.int .i64 (lenLn l)) ∧ Ext w W' := by
  refine (callsIn_wide (n := 6)).1 ?_
  refine callsIn_of_wp_marks Tryz.func91 rfl trivial ?_ rfl
  simp only [Tryz.ntmps91, List.size_toArray, List.length_cons, List.length_nil, Nat.reduceAdd, Nat.reduceSub, Array.replicate_succ, Array.replicate_zero, List.push_toArray, List.append_toArray, List.nil_append, List.cons_append]
  have HG := Lib.hid (segs_any A l.length c)
  obtain ⟨b, hb⟩ : ∃ b, ∀ b' o, A = some ⟨b', o, none⟩ → b' = b := by
    cases A with
    | none => exact ⟨0, fun _ _ e => by cases e⟩
    | some a => exact ⟨a.block, fun b' o e => by cases e; rfl⟩
  have hbl : 0 < l.length → b < w.heap.size := fun h0 => by
    obtain ⟨b', o, e, hlt⟩ := hA.some_ h0
    rw [← hb b' o e]; exact hlt
  have HB := Lib.hid hb
  have HBL := Lib.hid hbl
  have HA := Lib.hid hA
  clear hb hbl hA
  gi_wp2_with (refine ⟨trivial, ?_⟩; gi_at_call 129; refine (callsIn_wide.2 (HG.out _)).mono ?_; rintro e w' ⟨rfl, rfl⟩)
  obtain ⟨V, hV, hEV, hBV⟩ := boxes w [.cells #[.int .i64 0] 3, .cells #[.slice A l.length c] 75]
  have HV : Hid ((w.alloc (.cells #[.int .i64 0] 3)).alloc (.cells #[.slice A l.length c] 75) = V) := Lib.hid hV
  rw [HV.out]
  have hsz : V.heap.size = w.heap.size + 2 := by rw [← hV]; simp [allocs]
  have b0 : Boxed V w.heap.size 3 (.int .i64 0) := hBV V (Ext.refl _) 0 _ rfl
  have b1 : V.heap[w.heap.size + 1]? = _ := hBV V (Ext.refl _) 1 _ rfl
  have hcs : V.cell? ⟨w.heap.size + 1, 0, none⟩ = some (.slice A l.length c) := cells_of b1 0 _ rfl
  clear hV HV hBV
  refine wpIn_rangeFunc_ownH (F := Fence.wide) rfl (by omega) (gf := 176) (lb := #[.pointer (some ⟨w.heap.size + 1, 0, none⟩)]) rfl trivial (enters_of Tryz.func176 (by kernel_rfl) rfl)
    (segs_stops (6 - 1) (by omega) (w.heap.size + 1) b c A l (by omega) V hcs (HA.out.keep hEV) HB.out) KpB.trans (fun W y o o' _ h hc _ => KpB.put W y o o' h hc) (Below.refl _ _) (fun _ => rfl)
    (fun pre W => ((∃ v : Int, Boxed W w.heap.size 3 (.int .i64 v) ∧ Hid (pre = List.range pre.length → v = lenTo l pre.length)) ∧ W.heap[w.heap.size + 1]? = some (.cells #[.slice A l.length c] 75 (0, 0))) ∧ Below w.heap.size w W)
    (fun _ _ _ => False)
    (OwnFrom.and (OwnFrom.and (Own.from (fun pre X Y row hs hg hr => by obtain ⟨v, h1, h2⟩ := hs; exact ⟨v, boxed_own w.heap.size 3 (fun _ : Unit => Value.int .i64 v) () X Y row h1 hg hr, h2⟩) _) (Own.from (cells_own (w.heap.size + 1) (fun _ : List Nat => #[.slice A l.length c]) 75) _)) (ownFrom_below (Nat.le_refl _) (by omega)))
    (fun _ _ _ _ _ h _ _ => h)
    ⟨⟨⟨0, b0, Lib.hid (fun _ => rfl)⟩, b1⟩, hEV⟩
    (fun x a' W => ∃ Bx, w.heap.size + 1 < Bx ∧ W.heap[Bx]? = some (.cells #[.int .i64 (gp l x).x, .int .i64 (gp l x).y, .int .i64 (gp l (x + 1)).x, .int .i64 (gp l (x + 1)).y] 175 (0, 0)) ∧ a' = { tmps := #[.slice A l.length c, undef, .pointer (some ⟨w.heap.size, 0, none⟩), undef, .pointer (some ⟨Bx, 0, none⟩), undef, .slice A l.length c, .func (.func 176) #[] #[.pointer (some ⟨w.heap.size + 1, 0, none⟩)], .int .i64 (x : Int), .agg #[.int .i64 (gp l x).x, .int .i64 (gp l x).y, .int .i64 (gp l (x + 1)).x, .int .i64 (gp l (x + 1)).y], undef, undef, undef, undef, undef, undef, undef, undef, undef, undef, undef, undef], defers := [] })
    (fun x a' s X Y row hs hg hr => by obtain ⟨Bx, e1, e2, e3⟩ := hs; exact ⟨Bx, e1, cells_own Bx (fun (_ : Unit) => #[.int .i64 (gp l x).x, .int .i64 (gp l x).y, .int .i64 (gp l (x + 1)).x, .int .i64 (gp l (x + 1)).y]) 175 () X Y row e2 hg (fun r e => (hr r e).2), e3⟩)
    ?assign ?body ?done ?stop
  case assign =>
    rintro y pre x W K ⟨⟨⟨v, bR, hv⟩, bS⟩, hB⟩ hK
    unfold sgV
    gi_wp2
    have hlt := (Array.getElem?_eq_some_iff.1 bS).1
    exact hK _ _ ((KeepsOthers.alloc _ _).from _) (KpB.ext (Ext.alloc _ _)) ⟨⟨⟨v, bR.alloc _, hv⟩, blk_ext bS (Ext.alloc _ _)⟩, hB.alloc hB.size _⟩ ⟨W.heap.size, hlt, Go.heap_alloc_new _ _, rfl⟩
  case body =>
    rintro y pre x a' W hl hr' ⟨⟨⟨v, bR, hv⟩, bS⟩, hB⟩ ⟨Bx, hBx, bX, rfl⟩ hlt
    have hp := gp_right' hr x
    have hq := gp_right' hr (x + 1)
    have hs2 : pre ++ [x] = List.range (pre ++ [x]).length → wrap64 (v + sqI (dot (gp l x) (gp l (x + 1)))) = lenTo l (pre ++ [x]).length := fun h => by
      rw [List.length_append, List.length_singleton, List.range_succ] at h
      obtain ⟨h1, h2⟩ := List.append_inj' h rfl
      have hx : x = pre.length := by simpa using h2
      have hv2 := hv.out h1
      rw [List.length_append, List.length_singleton]
      show _ = lenTo l pre.length + sqI (dot (gp l pre.length) (gp l (pre.length + 1)))
      rw [← hx] at hv2 ⊢
      have a1 := lenTo_nonneg l x
      have a2 := lenTo_bd' hr (k := x) (.inl (by omega))
      have a3 := sqI_bd (dot_bd hp hq).2
      rw [hv2]
      unfold wrap64
      omega
    have hS := sub_any (gp l (x + 1)) (gp l x)
    rw [(sub_exact hp hq).1, (sub_exact hp hq).2] at hS
    have hD := dot_any ⟨(gp l (x + 1)).x - (gp l x).x, (gp l (x + 1)).y - (gp l x).y⟩ ⟨(gp l (x + 1)).x - (gp l x).x, (gp l (x + 1)).y - (gp l x).y⟩
    rw [show (_ : Int) = _ from dot_exact hp hq] at hD
    have hQ := sqrt_any (dot (gp l x) (gp l (x + 1))) (by have := (dot_bd hp hq).2; omega)
    have HS := Lib.hid hS
    have HD := Lib.hid hD
    have HQ := Lib.hid hQ
    have HS2 := Lib.hid hs2
    clear hS hD hQ hs2 hp hq
    generalize dot (gp l x) (gp l (x + 1)) = dt at *
    generalize hpq : gp l x = p at *
    generalize hqq : gp l (x + 1) = q at *
    clear hpq hqq
    obtain ⟨x0, x1, x2, x3⟩ : _ ∧ _ ∧ _ ∧ _ := ⟨cells_of bX 0 _ rfl, cells_of bX 1 _ rfl, cells_of bX 2 _ rfl, cells_of bX 3 _ rfl⟩
    gi_wp2_with (refine ⟨trivial, ?_⟩; gi_at_call 72; refine (CallsIn.inRound y (callsIn_wide.2 (HS.out _))).mono ?_; rintro e w' ⟨rfl, hE⟩)
    obtain ⟨V5, hV5, hE5⟩ : ∃ V5, w'.alloc (.cells #[.int .i64 (q.x - p.x), .int .i64 (q.y - p.y)] 73) = V5 ∧ Ext W V5 := ⟨_, rfl, exa hE⟩
    have bV : V5.heap[w'.heap.size]? = some (.cells #[.int .i64 (q.x - p.x), .int .i64 (q.y - p.y)] 73 (0, 0)) := by rw [← hV5]; exact Go.heap_alloc_new _ _
    rw [hV5]
    have bR5 : Boxed V5 w.heap.size 3 (.int .i64 v) := bR.kept (grownE hE5 none) (by simp)
    have HL := Lib.hid (fun W' (h : Ext V5.drew W') => And.intro (cell_ext (Ext.trans (Ext.drew V5) h) bR5.cell) (And.intro (cell_ext (Ext.trans (Ext.drew V5) h) (cells_of bV 0 _ rfl)) (cell_ext (Ext.trans (Ext.drew V5) h) (cells_of bV 1 _ rfl))))
    have HR5 := Lib.hid bR5
    have HE5 := Lib.hid hE5
    have HBS := Lib.hid bS
    have HBl := Lib.hid hB
    have HL1 := Lib.hid hl
    clear x0 x1 x2 x3 bX hE hE5 bV bR5 hV5 bR bS hB hl hr' b0 b1 hcs
    generalize w'.heap.size = gv at *
    apply wpIn_region_seq (l := [_, _, _, _, _, _]) (t := [_]) [some 15, some 16, some 17, some 18, some 19, some 20, none] [[], [], [], [1, 2], [3], [0, 4], [5]] [6, 6, 6, 6, 6, 6] [eqv _, (eqv (.agg #[.int .i64 (q.x - p.x), .int .i64 (q.y - p.y)])), (eqv (.agg #[.int .i64 (q.x - p.x), .int .i64 (q.y - p.y)])), (eqv (.int .i64 dt)), (eqv (.int .i64 (sqI dt))), eqv _] (fun ⟨_, _, h⟩ => h) (by kernel_rfl) (by kernel_rfl) ⟨?o0, ?o1, ?o2, ?o3, ?o4, ?o5, trivial⟩ ?last
    case o0 => -- Op.load 3 (Operand.tmp 2)
      intro xv W4 hE _
      obtain ⟨c0, c1, c2⟩ := HL.out W4 hE
      simp only [putD, List.foldl_nil, List.getD_cons_zero]
      refine OpGoal.plain ?_
      go_wp2_with fail
      exact ⟨rfl, Ext.refl _, rfl⟩
    case o1 => -- Op.load 73 (Operand.tmp 5)
      intro xv W4 hE _
      obtain ⟨c0, c1, c2⟩ := HL.out W4 hE
      simp only [putD, List.foldl_nil, List.getD_cons_zero, List.getD_cons_succ]
      refine OpGoal.plain ?_
      go_wp2_with fail
      exact ⟨rfl, Ext.refl _, rfl⟩
    case o2 => -- Op.load 73 (Operand.tmp 5)
      intro xv W4 hE _
      obtain ⟨c0, c1, c2⟩ := HL.out W4 hE
      simp only [putD, List.foldl_nil, List.getD_cons_zero, List.getD_cons_succ]
      refine OpGoal.plain ?_
      go_wp2_with fail
      exact ⟨rfl, Ext.refl _, rfl⟩
    case o3 => -- Op.call { callee := Callee.value (Operand.func 146), args := #[Operand.tmp 16, O
      intro xv W4 hE hp
      have r1 : xv 1 = _ := hp.1
      have r2 : xv 2 = _ := hp.2.1
      clear hp
      simp only [putD, List.foldl_nil, List.foldl_cons, List.getD_cons_zero, List.getD_cons_succ, Act.put, List.setIfInBounds_toArray, List.set_cons_zero, List.set_cons_succ]
      refine OpGoal.plain ?_
      go_wp2_with fail
      refine (HD.out W4).mono ?_
      rintro e w' ⟨rfl, hE'⟩
      go_wp2_with fail
      exact ⟨rfl, hE', rfl⟩
    case o4 => -- Op.call { callee := Callee.value (Operand.func 73), args := #[Operand.tmp 18], a
      intro xv W4 hE hp
      have r3 : xv 3 = _ := hp.1
      clear hp
      simp only [putD, List.foldl_nil, List.foldl_cons, List.getD_cons_zero, List.getD_cons_succ, Act.put, List.setIfInBounds_toArray, List.set_cons_zero, List.set_cons_succ]
      refine OpGoal.plain ?_
      go_wp2_with fail
      refine (HQ.out W4).mono ?_
      rintro e w' ⟨rfl, rfl⟩
      go_wp2_with fail
      exact ⟨rfl, Ext.refl _, rfl⟩
    case o5 => -- Op.binOp BinOp.add 3 (Operand.tmp 15) (Operand.tmp 19) 3
      intro xv W4 hE hp
      have r0 : xv 0 = _ := hp.1
      have r4 : xv 4 = _ := hp.2.1
      clear hp
      simp only [putD, List.foldl_nil, List.foldl_cons, List.getD_cons_zero, List.getD_cons_succ, Act.put, List.setIfInBounds_toArray, List.set_cons_zero, List.set_cons_succ]
      refine OpGoal.plain ?_
      go_wp2_with fail
      exact ⟨rfl, Ext.refl _, rfl⟩
    case last =>
      intro xv W4 hE hp
      have r0 : xv 0 = _ := hp.1
      have r1 : xv 1 = _ := hp.2.1
      have r2 : xv 2 = _ := hp.2.2.1
      have r3 : xv 3 = _ := hp.2.2.2.1
      have r4 : xv 4 = _ := hp.2.2.2.2.1
      have r5 : xv 5 = _ := hp.2.2.2.2.2.1
      clear hp
      simp only [putD, List.foldl_nil, List.foldl_cons, List.getD_cons_zero, List.getD_cons_succ, Act.put, List.length_cons, List.length_nil, List.range_succ, List.range_zero, List.nil_append, List.cons_append, List.setIfInBounds_toArray, List.set_cons_zero, List.set_cons_succ]
      have hX : Ext V5 W4 := Ext.trans (Ext.drew V5) hE
      have b4 : Boxed W4 w.heap.size 3 (.int .i64 v) := HR5.out.kept (grownE hX none) (by simp)
      have hc4 := b4.cell
      have hf4 := b4.frozen
      simp only [r5, r0, r4]
      go_wp2_with fail
      have hXW : Ext W W4 := Ext.trans HE5.out hX
      have hlt1 := (Array.getElem?_eq_some_iff.1 HBS.out).1
      refine ⟨?_, ?_, ?_⟩
      · exact ((KeepsOthers.of_grownBy (grownE hXW none) (fun j o e _ => by cases e)).trans (KeepsOthers.setCell _ _ _)).from _
      · have := HBL.out (by omega)
        exact (KpB.ext hXW).trans (KpB.set (c := w.heap.size) (i := 0) W4 (Nat.ne_of_gt (Nat.lt_succ_self _)) (Nat.ne_of_lt this))
      · exact ⟨⟨⟨_, b4.set _, HS2⟩, by rw [heap_setCell_other _ _ _ _ (show w.heap.size + 1 ≠ w.heap.size from Nat.ne_of_gt (Nat.lt_succ_self _))]; exact blk_ext HBS.out hXW⟩, (HBl.out.trans (Below.mono hXW HBl.out.size)).setCell (p := ⟨w.heap.size, 0, none⟩) (Nat.le_refl _) _⟩
  case done =>
    rintro D ys W hD rfl ⟨⟨⟨v, bR, hv⟩, bS⟩, hB⟩ hK
    have hc := bR.cell
    have hf := bR.frozen
    have hv2 : v = lenLn l := by rw [hv.out (by rw [List.length_range])]; unfold lenLn; rw [List.length_range]
    subst hv2
    gi_wp2
    have hK' := (KeepsOthers.setCell W ⟨w.heap.size, 0, none⟩ (.int .i64 (lenLn l))).same D _ hK rfl
    refine ⟨by simp, .inl ⟨_, _, rfl, run_takeDeferred hK', ?_⟩⟩
    have hc5 := cell_kept (bR.set (.int .i64 (lenLn l))).cell (grownBy_putObj' _ D (.deferred none)) (fun r e => by cases e; exact ⟨_, hK', rfl⟩)
    refine ⟨.int .i64 (lenLn l), ?_, rfl, (hB.setCell (p := ⟨w.heap.size, 0, none⟩) (Nat.le_refl _) _).trans (belowK_b (w := w) (Nat.le_refl _) _ D _ _ (by omega) hK' rfl rfl)⟩
    simp [results, Tryz.f91, go_sem, hc5]
  case stop =>
    rintro D c pre W hD hp h hK
    exact h.elim
end Go.Proofs.YtompfgofaplffaaGreatDoor
