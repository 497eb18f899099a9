/- The law of regions that draw their order (XMonq), and besides: the new variables of the region are different ones (printed by gen_mons.py). -/
import Derived.Test.YtompfgofaplffaaGreatDoorQMonq
import Derived.Deep.MidRow
import Derived.Test.YtompfgofaplffaaGreatDoorQVm
set_option linter.unusedSimpArgs false
set_option linter.unusedVariables false
namespace Hach
open Go Go.RowKit
section
variable {P : Program}
structure ComeN (nw : List Nat) (ops : Array Oper) (a : Act) (E : World → World → Prop) (F : Nat → (Nat → Value) → Value → World → Prop) (w : World) (l : Array Bool) (a' : Act) (W : World) (x : Nat → Value) : Prop where
  ext : E w W
  lsz : l.size = ops.size
  dfs : a'.defers = a.defers
  asz : a'.tmps.size = a.tmps.size
  shut : ∀ k o, ops[k]? = some o → l.getD k true = true → ∀ p ∈ preds o, l.getD p true = true
  val : ∀ k, k < ops.size → l.getD k true = true → F k x (x k) W
  get : ∀ t, a'.tmps[t]? = match wr ops t with
    | some k => if l.getD k true then some (x k) else a.tmps[t]?
    | none => a.tmps[t]?
  new : ∀ k ∈ nw, k < ops.size → l.getD k true = true → ∃ g, x k = .pointer (some ⟨g, 0, none⟩) ∧ g < W.heap.size
  pair : ∀ i ∈ nw, ∀ j ∈ nw, i < ops.size → j < ops.size → l.getD i true = true → l.getD j true = true → i ≠ j → x i ≠ x j

theorem ComeN.first {nw : List Nat} {ops : Array Oper} {N : Nat} (m : Mono ops N) {a : Act} (hN : N ≤ a.tmps.size) {E : World → World → Prop} {F : Nat → (Nat → Value) → Value → World → Prop} {w : World} {l : Array Bool} {a' : Act} {W : World} {x : Nat → Value}
    (c : ComeN nw ops a E F w l a' W x) {i : Nat} (hi : i ≤ ops.size) (h : ∀ k, k < i → l.getD k true = true) (h2 : ∀ k, i ≤ k → k < ops.size → l.getD k true = false) : a' = putAll ops x (List.range i) a := by
  refine act_ext (c.asz.trans (putAll_size ops x _ a).1.symm) (c.dfs.trans (putAll_size ops x _ a).2.symm) fun t => ?_
  rw [c.get t, putAll_get m x t _ a hN (fun k hk => Nat.lt_of_lt_of_le (List.mem_range.1 hk) hi)]
  cases hw : wr ops t with
  | none => rfl
  | some k =>
    have hk := (wr_some hw).1
    by_cases e : k < i
    · simp [h k e, e]
    · simp [h2 k (by omega) hk, e]

theorem wpAny_new (nw : List Nat) {ops : Array Oper} {Q : Exit → Act → World → Prop} {a : Act} {w : World} (M : Nat) (X : List Nat) (hck : monoOk ops a.tmps.size = true) (hM : M ≤ ops.size) (htl : tailOk ops M X = true)
    (E : World → World → Prop) (hS : ∀ {u v}, E u v → u.heap.size ≤ v.heap.size) (hr : ∀ w, E w w) (ht : ∀ {u v w}, E u v → E v w → E u w) (F : Nat → (Nat → Value) → Value → World → Prop) (hF : ∀ {i x v W W'}, F i x v W → E W W' → F i x v W') (hL : ∀ {i : Nat} {o : Oper} {x x' : Nat → Value} {v : Value} {W : World}, ops[i]? = some o → (∀ j ∈ preds o, x' j = x j) → F i x v W → F i x' v W)
    (hops : ∀ (i : Nat) (o : Oper), ops[i]? = some o → i < M → ∀ (x : Nat → Value) W, E w.drew W → (∀ k ∈ preds o, F k x (x k) W) →
      if Region.wanted o (yielded ops (putAll ops x (preds o) a).tmps) then Gives P (fun v W' => (E W W' ∧ F i x v W') ∧ (i ∈ nw → (∃ g, v = .pointer (some ⟨g, 0, none⟩) ∧ W.heap.size ≤ g ∧ g < W'.heap.size))) ((execOp (putAll ops x (preds o) a).eval o).run P W) else F i x undef W ∧ ¬ i ∈ nw)
    (hfin : ∀ (x : Nat → Value) W, E w.drew W → (∀ k, k < M → F k x (x k) W) → (∀ i ∈ nw, ∀ j ∈ nw, i < M → j < M → i ≠ j → x i ≠ x j) → wpOps P ops Q (List.range' M (ops.size - M)) (putAll ops x (List.range M) a) W) :
    wpAny P .any ops Q ops.size (Array.replicate ops.size false) a w.drew := by
  have m := mono_of hck
  refine wpAny_inv
    (fun l a' W => (∃ x, ComeN nw ops a E F w.drew l a' W x ∧ ∀ k, M ≤ k → k < ops.size → l.getD k true = false) ∨
      (l.size = ops.size ∧ ∃ i, M ≤ i ∧ i ≤ ops.size ∧ (∀ k, k < i → l.getD k true = true) ∧ (∀ k, i ≤ k → k < ops.size → l.getD k true = false) ∧ wpOps P ops Q (List.range' i (ops.size - i)) a' W))
    ?_ ?_ ?_ _ _ _ _ (Nat.le_trans (List.countP_le_length) (by simp)) ?_
  · rintro l a' W (⟨x, c, _⟩ | ⟨h, _⟩)
    · exact c.lsz
    · exact h
  · -- a tail operation, walked
    have htail : ∀ (l : Array Bool) (a' : Act) (W : World) (i : Nat), l.size = ops.size → M ≤ i → i < ops.size → (∀ k, k < i → l.getD k true = true) → (∀ k, i ≤ k → k < ops.size → l.getD k true = false) →
        wpOps P ops Q (List.range' i (ops.size - i)) a' W →
        wpOp P ops Q i (fun a'' W' => (∃ x, ComeN nw ops a E F w.drew (l.setIfInBounds i true) a'' W' x ∧ ∀ k, M ≤ k → k < ops.size → (l.setIfInBounds i true).getD k true = false) ∨
      ((l.setIfInBounds i true).size = ops.size ∧ ∃ i', M ≤ i' ∧ i' ≤ ops.size ∧ (∀ k, k < i' → (l.setIfInBounds i true).getD k true = true) ∧ (∀ k, i' ≤ k → k < ops.size → (l.setIfInBounds i true).getD k true = false) ∧ wpOps P ops Q (List.range' i' (ops.size - i')) a'' W')) a' W := by
      intro l a' W i hsz hMi hin h1 h2 hw
      rw [show ops.size - i = (ops.size - (i + 1)) + 1 by omega, List.range'_succ, wpOps_cons] at hw
      refine wpOp_mono (fun a'' W' h => .inr ⟨by simp [hsz], i + 1, by omega, by omega, fun k hk => ?_, fun k hk hk2 => ?_, h⟩) hw
      · by_cases e : i = k
        · subst e; simp [Array.getD_eq_getD_getElem?, hsz, hin]
        · rw [Array.getD_eq_getD_getElem?, Array.getElem?_setIfInBounds_ne e, ← Array.getD_eq_getD_getElem?]; exact h1 k (by omega)
      · rw [Array.getD_eq_getD_getElem?, Array.getElem?_setIfInBounds_ne (by omega), ← Array.getD_eq_getD_getElem?]; exact h2 k (by omega) hk2
    rintro l a' W i (⟨x, c, hno⟩ | ⟨hsz, i', hMi, hi', h1, h2, hw⟩) hi
    · obtain ⟨o, ho, hli, hp⟩ := ready_iff.1 hi
      have hin := lt_of_some ho
      have hpl : ∀ p ∈ preds o, p < ops.size := fun p hp' => Nat.lt_trans (m.lt i o ho p hp') hin
      have hpt : ∀ p ∈ preds o, l.getD p true = true := fun p hp' => by rw [getD_lt (by rw [c.lsz]; exact hpl p hp') true false]; exact hp p hp'
      by_cases hiM : i < M
      · have hlook : ∀ t ∈ o.looksAt ops, a'.tmps[t]? = (putAll ops x (preds o) a).tmps[t]? := fun t ht' => by
          rw [c.get t, putAll_get m x t _ a (Nat.le_refl _) hpl]
          cases hw : wr ops t with
          | none => rfl
          | some k =>
            rcases m.look i o ho t ht' k hw with h | h | ⟨ok, hok, h⟩
            · simp [h, hpt k h]
            · subst h
              have hni : ¬ k ∈ preds o := fun h => absurd (m.lt k o ho k h) (Nat.lt_irrefl _)
              simp [hni, hli]
            · have hkl : l.getD k true = false := by
                cases hc : l.getD k true with
                | false => rfl
                | true => have := c.shut k ok hok hc i h; rw [hli] at this; cases this
              have hnk : ¬ k ∈ preds o := fun h' => by have := hpt k h'; rw [hkl] at this; cases this
              simp [hnk, hkl]
        have hex := exec_of_look (m.sel i o ho) hlook
        have hwa := wanted_of_look hlook
        have hval : ∀ k ∈ preds o, F k x (x k) W := fun k hk => c.val k (hpl k hk) (hpt k hk)
        have hshut : ∀ (k : Nat) (o' : Oper), ops[k]? = some o' → (l.setIfInBounds i true).getD k true = true → ∀ p ∈ preds o', (l.setIfInBounds i true).getD p true = true := fun k o' ho' hk p hp' => by
          by_cases e : i = p
          · subst e; simp [Array.getD_eq_getD_getElem?, c.lsz, hin]
          · rw [Array.getD_eq_getD_getElem?, Array.getElem?_setIfInBounds_ne e, ← Array.getD_eq_getD_getElem?]
            by_cases e2 : i = k
            · subst e2; rw [ho] at ho'; cases ho'; exact hpt p hp'
            · rw [Array.getD_eq_getD_getElem?, Array.getElem?_setIfInBounds_ne e2, ← Array.getD_eq_getD_getElem?] at hk
              exact c.shut k o' ho' hk p hp'
        have hg := hops i o ho hiM x W c.ext hval
        have hnext : ∀ v W', E W W' → F i x v W' → (i ∈ nw → (∃ g, v = .pointer (some ⟨g, 0, none⟩) ∧ W.heap.size ≤ g ∧ g < W'.heap.size)) → ComeN nw ops a E F w.drew (l.setIfInBounds i true) (a'.put o.dst v) W' (fun k => if k = i then v else x k) := fun v W' hE hv hnw => by
          have hdi : o.dst = dstOf ops i := by simp [dstOf, ho]
          have hback : ∀ k, k ≠ i → (l.setIfInBounds i true).getD k true = true → l.getD k true = true := fun k e h => by
            rw [Array.getD_eq_getD_getElem?, Array.getElem?_setIfInBounds_ne (Ne.symm e), ← Array.getD_eq_getD_getElem?] at h; exact h
          have hold : ∀ k ∈ nw, k < ops.size → l.getD k true = true → v ≠ x k ∨ ¬ i ∈ nw := fun k hk hks hlk => by
            by_cases hin : i ∈ nw
            · obtain ⟨g, e1, e2, _⟩ := hnw hin
              obtain ⟨g', e3, e4⟩ := c.new k hk hks hlk
              left
              rw [e1, e3]
              intro e
              simp only [Value.pointer.injEq, Option.some.injEq, Addr.mk.injEq] at e
              omega
            · exact .inr hin
          refine ⟨ht c.ext hE, by simp [c.lsz], ?_, ?_, hshut, fun k hk hlk => ?_, fun t => ?_, fun k hk hks hlk => ?_, fun p hp q hq hps hqs hlp hlq hpq => ?_⟩
          · rw [← c.dfs]; cases o.dst <;> rfl
          · rw [← c.asz]; cases o.dst <;> simp [Act.put]
          · by_cases e : k = i
            · subst e
              simp only [if_true]
              exact hL ho (fun j hj => if_neg (fun e => by rw [e] at hj; exact absurd (m.lt k o ho k hj) (Nat.lt_irrefl _))) hv
            · simp only [e, if_false]
              rw [Array.getD_eq_getD_getElem?, Array.getElem?_setIfInBounds_ne (Ne.symm e), ← Array.getD_eq_getD_getElem?] at hlk
              obtain ⟨ok, hok⟩ : ∃ ok, ops[k]? = some ok := ⟨ops[k], Array.getElem?_eq_getElem hk⟩
              refine hL hok (fun j hj => if_neg (fun e => ?_)) (hF (c.val k hk hlk) hE)
              have := c.shut k ok hok hlk j hj
              rw [e, hli] at this; cases this
          · rw [hdi, put_get m (by rw [c.asz]; exact Nat.le_refl _) hin v t, c.get t]
            cases hw : wr ops t with
            | none => simp
            | some k =>
              by_cases e : k = i
              · subst e; simp [Array.getD_eq_getD_getElem?, c.lsz, hin]
              · simp only [Option.some.injEq, e, if_false]
                rw [Array.getD_eq_getD_getElem? (i := k) (xs := l.setIfInBounds i true), Array.getElem?_setIfInBounds_ne (Ne.symm e), ← Array.getD_eq_getD_getElem?]
          · by_cases e : k = i
            · subst e
              obtain ⟨g, e1, _, e3⟩ := hnw hk
              exact ⟨g, by simpa using e1, e3⟩
            · obtain ⟨g, e1, e2⟩ := c.new k hk hks (hback k e hlk)
              exact ⟨g, by simpa [e] using e1, Nat.lt_of_lt_of_le e2 (hS hE)⟩
          · by_cases e1 : p = i
            · subst e1
              have := (hold q hq hqs (hback q (Ne.symm hpq) hlq)).resolve_right (fun h => h hp)
              simpa [Ne.symm hpq] using this
            · by_cases e2 : q = i
              · subst e2
                have := (hold p hp hps (hback p hpq hlp)).resolve_right (fun h => h hq)
                simpa [hpq] using Ne.symm this
              · simpa [e1, e2] using c.pair p hp q hq hps hqs (hback p e1 hlp) (hback q e2 hlq) hpq
        have hno' : ∀ k, M ≤ k → k < ops.size → (l.setIfInBounds i true).getD k true = false := fun k hk hk2 => by
          rw [Array.getD_eq_getD_getElem?, Array.getElem?_setIfInBounds_ne (by omega), ← Array.getD_eq_getD_getElem?]; exact hno k hk hk2
        unfold wpOp
        rw [ho]
        simp only []
        rw [hwa]
        split
        · rename_i hw
          rw [if_pos hw] at hg
          rw [← hex] at hg
          exact .inl (hg.upon fun v W' hv => .inl ⟨_, hnext v W' hv.1.1 hv.1.2 hv.2, hno'⟩)
        · rename_i hw
          rw [if_neg hw] at hg
          exact .inl ⟨_, hnext undef W (hr W) hg.1 (fun h => absurd h hg.2), hno'⟩
      · -- the first of the tail
        have hall := tail_all htl c.shut ho (Nat.le_of_not_lt hiM) hpt
        have hiM2 : i = M := by
          by_cases e : i = M
          · exact e
          · have := hall M (by omega); rw [hno M (Nat.le_refl _) (by omega)] at this; cases this
        subst hiM2
        have ha := c.first m (Nat.le_refl _) hM hall hno
        have hf := hfin x W c.ext (fun k hk => c.val k (by omega) (hall k hk)) (fun p hp q hq hpM hqM hne => c.pair p hp q hq (by omega) (by omega) (hall p hpM) (hall q hqM) hne)
        rw [← ha] at hf
        exact htail l a' W i c.lsz (Nat.le_refl _) hin hall hno hf
    · obtain ⟨o, ho, hli, hp⟩ := ready_iff.1 hi
      have hin := lt_of_some ho
      have hge : i' ≤ i := by
        rcases Nat.lt_or_ge i i' with h | h
        · rw [h1 i h] at hli; cases hli
        · exact h
      have hii : i = i' := by
        by_cases e : i = i'
        · exact e
        · exfalso
          have h3 := List.all_eq_true.1 htl (i - 1) (List.mem_range.2 (by omega))
          rw [if_neg (by omega), show i - 1 + 1 = i by omega, ho] at h3
          have := hp (i - 1) (by simpa using h3)
          rw [getD_lt (by omega) false true, h2 (i - 1) (by omega) (by omega)] at this
          cases this
      subst hii
      exact htail l a' W i hsz hMi hin h1 h2 hw
  · rintro l a' W (⟨x, c, hno⟩ | ⟨hsz, i', hMi, hi', h1, h2, hw⟩) hn
    · have hall := all_of_none m c.lsz hn
      have hMe : M = ops.size := by
        by_cases e : M = ops.size
        · exact e
        · have := hno M (Nat.le_refl _) (by omega); rw [hall M (by omega)] at this; cases this
      have ha := c.first m (Nat.le_refl _) hM (fun k hk => hall k (by omega)) hno
      have hf := hfin x W c.ext (fun k hk => c.val k (by omega) (hall k (by omega))) (fun p hp q hq hpM hqM hne => c.pair p hp q hq (by omega) (by omega) (hall p (by omega)) (hall q (by omega)) hne)
      rw [← ha, hMe, Nat.sub_self] at hf
      exact hf
    · have hall := all_of_none m hsz hn
      have hie : i' = ops.size := by
        by_cases e : i' = ops.size
        · exact e
        · have := h2 i' (Nat.le_refl _) (by omega); rw [hall i' (by omega)] at this; cases this
      subst hie
      rw [Nat.sub_self] at hw
      exact hw
  · refine .inl ⟨fun _ => undef, ⟨hr _, by simp, rfl, rfl, fun k o ho hk => ?_, fun k hk hlk => ?_, fun t => ?_, fun k _ hks hlk => ?_, fun p _ q _ hps _ hlp _ _ => ?_⟩, fun k _ hk => ?_⟩
    · simp [Array.getD_eq_getD_getElem?, lt_of_some ho] at hk
    · simp [Array.getD_eq_getD_getElem?, hk] at hlk
    · cases hw : wr ops t with
      | none => rfl
      | some k => simp [Array.getD_eq_getD_getElem?, (wr_some hw).1]
    · simp [Array.getD_eq_getD_getElem?, hks] at hlk
    · simp [Array.getD_eq_getD_getElem?, hps] at hlp
    · simp [Array.getD_eq_getD_getElem?, hk]
variable {E : World → World → Prop}
def OpsOkN (nw : List Nat) (P : Program) (ds : List (Option Tmp)) (a : Act) (w : World) (F : List (SPl E)) (D : List (List Nat)) : Nat → List Oper → Prop
  | _, [] => True
  | i, o :: l => (∀ (x : Nat → Value) (W : World), E w W → KnownL F x W (D.getD i []) → OpGoal P ds o (fun v W' => (E W W' ∧ (F.getD i anyl).p x v W') ∧ (i ∈ nw → (∃ g, v = .pointer (some ⟨g, 0, none⟩) ∧ W.heap.size ≤ g ∧ g < W'.heap.size))) (putD ds x (D.getD i []) a) W) ∧ OpsOkN nw P ds a w F D (i + 1) l
theorem OpsOkN.at_ {nw : List Nat} {ds : List (Option Tmp)} {a : Act} {w : World} {F : List (SPl E)} {D : List (List Nat)} : ∀ {l : List Oper} {i : Nat}, OpsOkN nw P ds a w F D i l → ∀ (j : Nat) (o : Oper), l[j]? = some o → ∀ (x : Nat → Value) (W : World), E w W → KnownL F x W (D.getD (i + j) []) →
      OpGoal P ds o (fun v W' => (E W W' ∧ (F.getD (i + j) anyl).p x v W') ∧ ((i + j) ∈ nw → (∃ g, v = .pointer (some ⟨g, 0, none⟩) ∧ W.heap.size ≤ g ∧ g < W'.heap.size))) (putD ds x (D.getD (i + j) []) a) W
  | [], _, _, j, o, h => by simp at h
  | o' :: l, i, hk, j, o, h => by
    cases j with
    | zero =>
      simp only [List.getElem?_cons_zero, Option.some.injEq] at h
      subst h
      exact hk.1
    | succ j =>
      have := OpsOkN.at_ hk.2 j o (by simpa using h)
      rw [show i + 1 + j = i + (j + 1) by omega] at this
      exact this
theorem wpAny_relN (nw : List Nat) (hS : ∀ {u v}, E u v → u.heap.size ≤ v.heap.size) (refl : ∀ w, E w w) (trans : ∀ {u v w : World}, E u v → E v w → E u w) {l t : List Oper} {Q : Exit → Act → World → Prop} {a : Act} {w : World} (ds : List (Option Tmp)) (D : List (List Nat)) (X : List Nat) (F : List (SPl E))
    (hck : (monoOk (l ++ t).toArray a.tmps.size && depsOk (l ++ t).toArray D && ((l ++ t).map (·.dst) == ds) && tailOk (l ++ t).toArray l.length X) = true) (hlk : linkOk (l ++ t).toArray F = true) (hops : OpsOkN nw P ds a w.drew F D 0 l)
    (hfin : ∀ (x : Nat → Value) (W : World), E w.drew W → KnownL F x W (List.range l.length) → (∀ i ∈ nw, ∀ j ∈ nw, i < l.length → j < l.length → i ≠ j → x i ≠ x j) → wpList P (l ++ t).toArray Q t (putD ds x (List.range l.length) a) W) :
    wpAny P .any (l ++ t).toArray Q (l ++ t).toArray.size (Array.replicate (l ++ t).toArray.size false) a w.drew := by
  simp only [Bool.and_eq_true] at hck
  obtain ⟨⟨⟨hc1, hc2⟩, hc3⟩, hc4⟩ := hck
  have m := mono_of hc1
  refine wpAny_new nw l.length X hc1 (by simp) hc4 E hS refl (@trans) (FofL F) (fun h hE => (F.getD _ anyl).st h hE) (fun {i o x x' v W} ho hx h => ?_) ?_ ?_
  · by_cases hi : i < F.length
    · have h1 := List.all_eq_true.1 hlk i (List.mem_range.2 hi)
      rw [ho] at h1
      exact (F.getD i anyl).loc (fun j hj => hx j (of_decide_eq_true (List.all_eq_true.1 h1 j hj))) h
    · have e : F.getD i anyl = anyl := by rw [List.getD_eq_getElem?_getD, List.getElem?_eq_none (by omega)]; rfl
      show (F.getD i anyl).p x' v W
      rw [e]; trivial
  · intro i o ho hi x W hE hp
    obtain ⟨hs, hlk⟩ := look_same m hc2 (Nat.le_refl _) x ho
    have hg := hops.at_ i o (by simpa [List.getElem?_append_left hi] using ho) x W hE (knownL_of fun k hk => by rw [Nat.zero_add] at hk; exact hp k (hs k hk))
    rw [Nat.zero_add] at hg
    have hg := hg.use hc3 (fun d hd => by rw [← putD_eq hc3, (putAll_size _ _ _ _).1]; exact (m.one i d (lt_of_some ho) (by simp only [dstOf, ho, Option.bind_some]; exact hd)).2)
    rw [← putD_eq hc3] at hg
    rw [← wanted_of_look hlk, ← exec_of_look (m.sel i o ho) hlk] at hg
    split
    · rename_i hw; rw [if_pos hw] at hg; exact hg
    · rename_i hw; rw [if_neg hw] at hg; exact ⟨hg.1.2, fun h => by obtain ⟨g, e, _⟩ := hg.2 h; cases e⟩
  · intro x W hE h hpr
    have hf := hfin x W hE (knownL_of fun k hk => h k (List.mem_range.1 hk)) hpr
    rw [← putD_eq hc3] at hf
    have e : (l ++ t).toArray.size - l.length = t.length := by simp
    rw [e, wpOps_eq_wpList t l.length (fun j => by simp [List.getElem?_append_right])]
    exact hf
theorem wp_region_new (nw : List Nat) (hS : ∀ {u v}, E u v → u.heap.size ≤ v.heap.size) (refl : ∀ w, E w w) (trans : ∀ {u v w : World}, E u v → E v w → E u w) {l t : List Oper} {Q : Exit → Act → World → Prop} {id : Nat} {a : Act} {w : World} (ds : List (Option Tmp)) (D : List (List Nat)) (X : List Nat) (F : List (SPl E)) (hm : P.follows .mixedOrders = true)
    (hck : (monoOk (l ++ t).toArray a.tmps.size && depsOk (l ++ t).toArray D && ((l ++ t).map (·.dst) == ds) && tailOk (l ++ t).toArray l.length X) = true) (hlk : linkOk (l ++ t).toArray F = true) (hops : OpsOkN nw P ds a w.drew F D 0 l)
    (hfin : ∀ (x : Nat → Value) (W : World), E w.drew W → KnownL F x W (List.range l.length) → (∀ i ∈ nw, ∀ j ∈ nw, i < l.length → j < l.length → i ≠ j → x i ≠ x j) → wpList P (l ++ t).toArray Q t (putD ds x (List.range l.length) a) W) :
    (Code.region id (l ++ t).toArray true).wp P Q a w := wp_region_any hm (wpAny_relN nw hS refl trans ds D X F hck hlk hops hfin)
end
end Hach

namespace Go.Proofs.YtompfgofaplffaaGreatDoor
open Go.RowKit Hach

theorem all_gp (l : List Pt) (f : Pt → Bool) : (!(List.range l.length).any fun j => !f (gp l j)) = l.all f := by
  rw [Bool.eq_iff_iff]
  simp only [Bool.not_eq_true', List.any_eq_false, List.mem_range, Bool.not_eq_true, Bool.not_eq_false', List.all_eq_true]
  constructor
  · intro h x hx
    obtain ⟨j, hj, rfl⟩ := List.getElem_of_mem hx
    have := h j hj
    unfold gp at this
    rw [List.getD_eq_getElem?_getD, List.getElem?_eq_getElem hj] at this
    simpa using this
  · intro h j hj
    have := h _ (gp_mem hj)
    simpa using this
theorem bounded_any (l : List Pt) (A : Option Addr) (c : Nat) (w : World) (hl : l.length < 9223372036854775808)
    (hr : ∀ W, Ext w W → ∀ j, j < l.length → ∃ b o, A = some ⟨b, o, none⟩ ∧ W.rangeAt b (o + j * 2) [.int .i64 (gp l j).x, .int .i64 (gp l j).y]) :
    Calls Tryz.prog 228 #[.slice A l.length c] w fun e w' => e = .returned (.bool (l.all bnd)) ∧ Ext w w' := by
  have HC := Lib.hid (cfPt_any 259 #[] (enters_of Tryz.func259 (by kernel_rfl) rfl) A l.length c (fun j => [.int .i64 (gp l j).x, .int .i64 (gp l j).y])
    (fun j => !bnd (gp l j)) w hl (fun _ _ => rfl) hr (fun W h j hj => bnd1_any _ W))
  have HI : Hid ((!(List.range l.length).any fun j => !bnd (gp l j)) = l.all bnd) := Lib.hid (all_gp l bnd)
  generalize ((List.range l.length).any fun j => !bnd (gp l j)) = r at *
  clear hr
  go_enter Tryz.func228, Tryz.ntmps228
  go_wp2_with fail
  refine HC.out.mono ?_
  rintro e w' ⟨rfl, hE⟩
  go_wp2_with fail
  go_ret
  exact ⟨ret_b HI.out, hE⟩
/-- A new variable that holds Z. -/
def newB (B : Nat) (T : TypeId) (Z : Array Value) : SPl Ext := ⟨[], fun _ v W => ∃ g, v = .pointer (some ⟨g, 0, none⟩) ∧ B ≤ g ∧ W.heap[g]? = some (.cells Z T (0, 0)), fun h hE => by
  obtain ⟨g, e, hb, h1⟩ := h
  exact ⟨g, e, hb, blk_ext h1 hE⟩, fun _ h => h⟩
theorem pt_eql (a b : Pt) (w : World) : (binOp .eql 73 (.agg #[.int .i64 a.x, .int .i64 a.y]) (.agg #[.int .i64 b.x, .int .i64 b.y])).run Tryz.prog w = .ok (.bool (decide (a = b))) w := by
  obtain ⟨ax, ay⟩ := a
  obtain ⟨bx, b2⟩ := b
  by_cases h1 : ax = bx
  · by_cases h2 : ay = b2
    · subst h1; subst h2
      rw [decide_eq_true rfl]
      go_simp
    · subst h1
      have : (ay == b2) = false := by simpa using h2
      rw [decide_eq_false (by simpa using h2)]
      go_simp
  · have : (ax == bx) = false := by simpa using h1
    rw [decide_eq_false (by simp [h1])]
    go_simp
/-- Three points in a slice of their own. -/
theorem three_new {w W : World} {a b p : Pt} {T : TypeId} (hE : Ext (w.alloc (.cells #[.int .i64 a.x, .int .i64 a.y, .int .i64 b.x, .int .i64 b.y, .int .i64 p.x, .int .i64 p.y] T)) W) (j : Nat) (hj : j < 3) :
    ∃ g o, some (⟨w.heap.size, 0, none⟩ : Addr) = some ⟨g, o, none⟩ ∧ W.rangeAt g (o + j * 2) [.int .i64 (gp [a, b, p] j).x, .int .i64 (gp [a, b, p] j).y] := by
  have hc := fun i v h => cell_ext hE (cells_of (Go.heap_alloc_new w (.cells #[.int .i64 a.x, .int .i64 a.y, .int .i64 b.x, .int .i64 b.y, .int .i64 p.x, .int .i64 p.y] T)) i v h)
  refine ⟨_, _, rfl, fun i v hv => ?_⟩
  match j, hj, i, hv with
  | 0, _, 0, hv => cases hv; exact hc 0 _ rfl
  | 0, _, 1, hv => cases hv; exact hc 1 _ rfl
  | 1, _, 0, hv => cases hv; exact hc 2 _ rfl
  | 1, _, 1, hv => cases hv; exact hc 3 _ rfl
  | 2, _, 0, hv => cases hv; exact hc 4 _ rfl
  | 2, _, 1, hv => cases hv; exact hc 5 _ rfl
theorem bounded3_any (a b p : Pt) (w : World) (g : Nat) (hg : w.heap.size = g) :
    Calls Tryz.prog 228 #[.slice (some ⟨g, 0, none⟩) 3 3] (w.alloc (.cells #[.int .i64 a.x, .int .i64 a.y, .int .i64 b.x, .int .i64 b.y, .int .i64 p.x, .int .i64 p.y] 73)) fun e w' => e = .returned (.bool (bnd a && bnd b && bnd p)) ∧ Ext (w.alloc (.cells #[.int .i64 a.x, .int .i64 a.y, .int .i64 b.x, .int .i64 b.y, .int .i64 p.x, .int .i64 p.y] 73)) w' := by
  subst hg
  rw [show (bnd a && bnd b && bnd p) = [a, b, p].all bnd by simp [Bool.and_assoc]]
  exact bounded_any [a, b, p] _ 3 _ (by simp) (fun W h j hj => three_new h j hj)
set_option maxHeartbeats 2000000 in
theorem side_any (a b p : Pt) (w : World) : Calls Tryz.prog 229 #[.agg #[.int .i64 a.x, .int .i64 a.y], .agg #[.int .i64 b.x, .int .i64 b.y], .agg #[.int .i64 p.x, .int .i64 p.y]] w
    fun e w' => e = .returned (.int .i64 (side a b p)) ∧ Ext w w' := by
  by_cases hab : a = b
  · subst hab
    have HS := Lib.hid (side_same a p)
    go_enter Tryz.func229, Tryz.ntmps229
    go_wp2_with fail
    go_ret
    exact ⟨ret_i HS.out.symm, exa (exa (exa (Ext.refl w)))⟩
  · have hq := fun w => (pt_eql a b w).trans (by rw [decide_eq_false hab])
    have HB := Lib.hid (bounded3_any a b p)
    obtain ⟨w3, hw, hE0, hC⟩ := pts3 w a b p
    have HW := Lib.hid hw
    have HC := Lib.hid hC
    have HE := Lib.hid hE0
    clear hw hC hE0 hab
    have hsz : w3.heap.size = w.heap.size + 1 + 1 + 1 := by rw [← HW.out]; simp
    have HB := Lib.hid (bounded3_any a b p w3 _ hsz)
    clear hsz
    cases hbd : (bnd a && bnd b && bnd p)
    · have HN := Lib.hid (side_not (a := a) (b := b) (p := p) (by cases h1 : bnd a <;> cases h2 : bnd b <;> cases h3 : bnd p <;> simp [h1, h2, h3] at hbd ⊢))
      rw [hbd] at HB
      clear hbd
      go_enter Tryz.func229, Tryz.ntmps229
      go_wp2_with fail
      rw [HW.out]
      refine HB.out.mono ?_
      rintro e w4 ⟨rfl, hE⟩
      go_wp2_with fail
      go_ret
      exact ⟨ret_i HN.out.symm, Ext.trans HE.out (Ext.trans (Ext.alloc _ _) hE)⟩
    · simp only [Bool.and_eq_true] at hbd
      obtain ⟨⟨ha, hb⟩, hp⟩ := hbd
      rw [ha, hb, hp] at HB
      have hs : side a b p = sgI (b.x - a.x) (p.y - a.y) (b.y - a.y) (p.x - a.x) := by unfold side; rw [ha, hb, hp]; rfl
      have ha' := (bnd_iff a).1 ha
      have hb' := (bnd_iff b).1 hb
      have hp' := (bnd_iff p).1 hp
      have e1 : wrap64 (b.x - a.x) = b.x - a.x := by unfold wrap64; omega
      have e2 : wrap64 (b.y - a.y) = b.y - a.y := by unfold wrap64; omega
      have e3 : wrap64 (p.x - a.x) = p.x - a.x := by unfold wrap64; omega
      have e4 : wrap64 (p.y - a.y) = p.y - a.y := by unfold wrap64; omega
      have H2 := Lib.hid (sign2_any (b.x - a.x) (p.y - a.y) (b.y - a.y) (p.x - a.x) (by unfold I64; omega) (by unfold I64; omega) (by unfold I64; omega) (by unfold I64; omega))
      rw [← hs] at H2
      have HS := Lib.hid sub_any
      clear ha hb hp ha' hb' hp' hs
      go_enter Tryz.func229, Tryz.ntmps229
      go_wp2_with fail
      rw [HW.out]
      refine HB.out.mono ?_
      rintro e w4 ⟨rfl, hE⟩
      have hE0 := Ext.trans (Ext.alloc w3 _) hE
      have HQ := Lib.hid (fun W (h : Ext w4.drew W) => HC.out W (Ext.trans hE0 (Ext.trans (Ext.drew w4) h)))
      have HE4 := Lib.hid (Ext.trans HE.out hE0)
      clear hE hE0 HB HC HE HW hq
      generalize w.heap.size = g at *
      go_wp2_with fail
      apply wp_region_new (E := Ext) [6, 7] (fun h => Ext.sz h) Ext.refl (@Ext.trans) (l := [_, _, _, _, _, _, _, _]) (t := [_, _]) [some 20, some 21, some 22, some 23, some 24, some 25, some 7, some 8, none, none] [[], [], [0, 1], [], [], [3, 4], [], [], [2, 6], [5, 7]] [8, 8, 8, 5, 5, 8, 8, 8] [eql _, eql _, (eql (.agg #[.int .i64 (b.x - a.x), .int .i64 (b.y - a.y)])), eql _, eql _, (eql (.agg #[.int .i64 (p.x - a.x), .int .i64 (p.y - a.y)])), (newB w4.heap.size 73 #[.int .i64 0, .int .i64 0]), (newB w4.heap.size 73 #[.int .i64 0, .int .i64 0])] (by kernel_rfl) (by kernel_rfl) (by kernel_rfl) ⟨?o0, ?o1, ?o2, ?o3, ?o4, ?o5, ?o6, ?o7, trivial⟩ ?last
      case o0 => -- Op.load 73 (Operand.tmp 4)
        intro xv W hE _
        obtain ⟨c0, c1, c2, c3, c4, c5⟩ := HQ.out W hE
        simp only [putD, List.foldl_nil, List.getD_cons_zero]
        refine OpGoal.plain ?_
        go_wp2_with fail
        exact ⟨rfl, Ext.refl _, rfl⟩
      case o1 => -- Op.load 73 (Operand.tmp 3)
        intro xv W hE _
        obtain ⟨c0, c1, c2, c3, c4, c5⟩ := HQ.out W hE
        simp only [putD, List.foldl_nil, List.getD_cons_zero, List.getD_cons_succ]
        refine OpGoal.plain ?_
        go_wp2_with fail
        exact ⟨rfl, Ext.refl _, rfl⟩
      case o2 => -- Op.call { callee := Callee.value (Operand.func 72), args := #[Operand.tmp 20, Op
        intro xv W hE hp
        have r0 : xv 0 = _ := hp.1
        have r1 : xv 1 = _ := hp.2.1
        clear hp
        simp only [putD, List.foldl_nil, List.foldl_cons, List.getD_cons_zero, List.getD_cons_succ, Act.put, List.setIfInBounds_toArray, List.set_cons_zero, List.set_cons_succ]
        refine OpGoal.plain ?_
        go_wp2_with fail
        refine (HS.out b a W).mono ?_
        rintro e w' ⟨rfl, hE'⟩
        simp only [e1, e2]
        go_wp2_with fail
        exact ⟨rfl, ⟨hE', rfl⟩, fun h => absurd h (by decide)⟩
      case o3 => -- Op.load 73 (Operand.tmp 5)
        intro xv W hE _
        obtain ⟨c0, c1, c2, c3, c4, c5⟩ := HQ.out W hE
        simp only [putD, List.foldl_nil, List.getD_cons_zero, List.getD_cons_succ]
        refine OpGoal.plain ?_
        go_wp2_with fail
        exact ⟨rfl, Ext.refl _, rfl⟩
      case o4 => -- Op.load 73 (Operand.tmp 3)
        intro xv W hE _
        obtain ⟨c0, c1, c2, c3, c4, c5⟩ := HQ.out W hE
        simp only [putD, List.foldl_nil, List.getD_cons_zero, List.getD_cons_succ]
        refine OpGoal.plain ?_
        go_wp2_with fail
        exact ⟨rfl, Ext.refl _, rfl⟩
      case o5 => -- Op.call { callee := Callee.value (Operand.func 72), args := #[Operand.tmp 23, Op
        intro xv W hE hp
        have r3 : xv 3 = _ := hp.1
        have r4 : xv 4 = _ := hp.2.1
        clear hp
        simp only [putD, List.foldl_nil, List.foldl_cons, List.getD_cons_zero, List.getD_cons_succ, Act.put, List.setIfInBounds_toArray, List.set_cons_zero, List.set_cons_succ]
        refine OpGoal.plain ?_
        go_wp2_with fail
        refine (HS.out p a W).mono ?_
        rintro e w' ⟨rfl, hE'⟩
        simp only [e3, e4]
        go_wp2_with fail
        exact ⟨rfl, ⟨hE', rfl⟩, fun h => absurd h (by decide)⟩
      case o6 => -- Op.alloc 73
        intro xv W hE _
        simp only [putD, List.foldl_nil, List.getD_cons_zero, List.getD_cons_succ]
        refine OpGoal.plain ?_
        go_wp2_with fail
        exact ⟨rfl, ⟨Ext.alloc _ _, W.heap.size, rfl, Ext.sz (Ext.trans (Ext.drew w4) hE), Go.heap_alloc_new _ _⟩, ⟨W.heap.size, rfl, Nat.le_refl _, by simp⟩⟩
      case o7 => -- Op.alloc 73
        intro xv W hE _
        simp only [putD, List.foldl_nil, List.getD_cons_zero, List.getD_cons_succ]
        refine OpGoal.plain ?_
        go_wp2_with fail
        exact ⟨rfl, ⟨Ext.alloc _ _, W.heap.size, rfl, Ext.sz (Ext.trans (Ext.drew w4) hE), Go.heap_alloc_new _ _⟩, ⟨W.heap.size, rfl, Nat.le_refl _, by simp⟩⟩
      case last =>
        intro xv W hE hp hpr
        have r0 : xv 0 = _ := hp.1
        have r1 : xv 1 = _ := hp.2.1
        have r2 : xv 2 = _ := hp.2.2.1
        have r3 : xv 3 = _ := hp.2.2.2.1
        have r4 : xv 4 = _ := hp.2.2.2.2.1
        have r5 : xv 5 = _ := hp.2.2.2.2.2.1
        obtain ⟨g6, r6, l6, B6⟩ := hp.2.2.2.2.2.2.1
        obtain ⟨g7, r7, l7, B7⟩ := hp.2.2.2.2.2.2.2.1
        clear hp
        simp only [putD, List.foldl_nil, List.foldl_cons, List.getD_cons_zero, List.getD_cons_succ, Act.put, List.length_cons, List.length_nil, List.range_succ, List.range_zero, List.nil_append, List.cons_append, List.setIfInBounds_toArray, List.set_cons_zero, List.set_cons_succ]
        have hne : g6 ≠ g7 := fun e => hpr 6 (by simp) 7 (by simp) (by simp) (by simp) (by decide) (by rw [r6, r7, e])
        have z0 := cells_of B6 0 (.int .i64 0) rfl
        have z1 := cells_of B6 1 (.int .i64 0) rfl
        have y0 := cells_of B7 0 (.int .i64 0) rfl
        have y1 := cells_of B7 1 (.int .i64 0) rfl
        have f6 := blk_free B6
        have f7 := blk_free B7
        have hne2 : g7 ≠ g6 := Ne.symm hne
        have hsz := Ext.sz HE4.out
        have hX := Ext.trans HE4.out (Ext.trans (Ext.drew w4) hE)
        have hX := exs (i := 1) (v := .int .i64 (p.y - a.y)) (exs (i := 0) (v := .int .i64 (p.x - a.x)) (exs (i := 1) (v := .int .i64 (b.y - a.y)) (exs (i := 0) (v := .int .i64 (b.x - a.x)) hX (Nat.le_trans hsz l6)) (Nat.le_trans hsz l6)) (Nat.le_trans hsz l7)) (Nat.le_trans hsz l7)
        have HX := Lib.hid hX
        simp only [r6, r7]
        clear hpr HQ HS B6 B7 hX hsz l6 l7
        go_wp2_with fail
        refine (H2.out _).mono ?_
        rintro e w7 ⟨rfl, hE7⟩
        go_wp2_with fail
        go_ret
        exact ⟨rfl, Ext.trans HX.out hE7⟩
end Go.Proofs.YtompfgofaplffaaGreatDoor

namespace Go.Proofs.YtompfgofaplffaaGreatDoor
open Go.RowKit Hach

theorem nine_new {w W : World} {a b p : Pt} {T : TypeId} (hE : Ext (w.alloc (.cells #[.int .i64 a.x, .int .i64 a.y, .int .i64 1, .int .i64 b.x, .int .i64 b.y, .int .i64 1, .int .i64 p.x, .int .i64 p.y, .int .i64 1] T)) W) (j : Nat) (hj : j < 3) :
    W.rangeAt w.heap.size (0 + j * 3) [.int .i64 (gp [a, b, p] j).x, .int .i64 (gp [a, b, p] j).y, .int .i64 1] := by
  have hc := fun i v h => cell_ext hE (cells_of (Go.heap_alloc_new w (.cells #[.int .i64 a.x, .int .i64 a.y, .int .i64 1, .int .i64 b.x, .int .i64 b.y, .int .i64 1, .int .i64 p.x, .int .i64 p.y, .int .i64 1] T)) i v h)
  intro i v hv
  match j, hj, i, hv with
  | 0, _, 0, hv => cases hv; exact hc 0 _ rfl
  | 0, _, 1, hv => cases hv; exact hc 1 _ rfl
  | 0, _, 2, hv => cases hv; exact hc 2 _ rfl
  | 1, _, 0, hv => cases hv; exact hc 3 _ rfl
  | 1, _, 1, hv => cases hv; exact hc 4 _ rfl
  | 1, _, 2, hv => cases hv; exact hc 5 _ rfl
  | 2, _, 0, hv => cases hv; exact hc 6 _ rfl
  | 2, _, 1, hv => cases hv; exact hc 7 _ rfl
  | 2, _, 2, hv => cases hv; exact hc 8 _ rfl
end Go.Proofs.YtompfgofaplffaaGreatDoor

namespace Go.Proofs.YtompfgofaplffaaGreatDoor
open Go.RowKit Hach

def IP (p : Pt) : Prop := I64 p.x ∧ I64 p.y
/-- Two spots and a point, each in a block. -/
def rayB (o t d e : Bool) : Int := if (!o && t && d) = true then 1 else if (o && !t && e) = true then -1 else 0
theorem rayP_eq (a b p : Pt) : rayP a b p = rayB (decide (p.y < a.y)) (decide (p.y < b.y)) (decide (sside a b p < 0)) (decide (sside b a p < 0)) := by
  unfold rayP rayB
  by_cases h1 : p.y < a.y <;> by_cases h2 : p.y < b.y <;> by_cases h3 : sside a b p < 0 <;> by_cases h4 : sside b a p < 0 <;> simp [h1, h2, h3, h4]
end Go.Proofs.YtompfgofaplffaaGreatDoor

namespace Go.Proofs.YtompfgofaplffaaGreatDoor
open Go.RowKit Hach

def rsC (s : Rs) : Array Value := #[.int .i64 s.a.x, .int .i64 s.a.y, .int .i64 1, .int .i64 s.b.x, .int .i64 s.b.y, .int .i64 1, .int .i64 s.east]
theorem two_blk (w : World) (A B : Array Value) (T : TypeId) : ∃ w3, ((w.alloc (.cells A T)).alloc (.cells B T)) = w3 ∧ Ext w w3 ∧ w3.heap.size = w.heap.size + 1 + 1 ∧
    ∀ W, Ext w3 W → (∀ i v, A[i]? = some v → W.cell? ⟨w.heap.size, i, none⟩ = some v) ∧ (∀ i v, B[i]? = some v → W.cell? ⟨w.heap.size + 1, i, none⟩ = some v) := by
  obtain ⟨w3, hw, hE0, hC⟩ := boxes w [.cells A T, .cells B T]
  refine ⟨w3, hw, hE0, by rw [← hw]; simp [allocs], fun W h => ?_⟩
  have B0 : W.heap[w.heap.size]? = _ := hC W h 0 _ rfl
  have B1 : W.heap[w.heap.size + 1]? = _ := hC W h 1 _ rfl
  exact ⟨cells_of B0, cells_of B1⟩
def beyB (c : Bool) (r1 r2 r3 r4 : Int) : Bool := if c = true then decide (orI r1 r2 < 0) else decide (0 < orI r3 r4)
theorem beyond_eq (s t : Rs) : beyond s t = beyB (decide (0 ≤ cmpI t.a.y s.a.y)) (sside s.a s.b t.a) (sside s.a s.b t.b) (sside t.a t.b s.a) (sside t.a t.b s.b) := by
  unfold beyond beyB
  by_cases h : 0 ≤ cmpI t.a.y s.a.y <;> simp [h]
def sd7 (n a b : Int) : Int := if cmpI n a = cmpI n b then cmpI n a else 0
theorem hasP_eq (a b p : Pt) : hasP a b p = (decide (sside a b p = 0) && (decide (sd7 p.x a.x b.x = 0) && decide (sd7 p.y a.y b.y = 0))) := by
  unfold hasP sd7
  have h1 := between_side (cmpI_three p.x a.x) (cmpI_three p.x b.x)
  have h2 := between_side (cmpI_three p.y a.y) (cmpI_three p.y b.y)
  rw [Bool.eq_iff_iff]
  simp only [Bool.and_eq_true, decide_eq_true_eq, h1, h2]
  constructor
  · rintro ⟨⟨a, b⟩, c⟩; exact ⟨c, a, b⟩
  · rintro ⟨c, a, b⟩; exact ⟨⟨a, b⟩, c⟩
theorem eq_beq (x : Int) : decide (x = 0) = (x == 0) := rfl
end Go.Proofs.YtompfgofaplffaaGreatDoor

namespace Go.Proofs.YtompfgofaplffaaGreatDoor
open Go.RowKit Hach

/-- The first number that is not 0. -/
def orL : List Int → Int
  | [] => 0
  | x :: l => if x ≠ 0 then x else orL l
theorem orL_hit : ∀ {l : List Int} {k : Nat}, k < l.length → (∀ j, j < k → gi l j = 0) → gi l k ≠ 0 → orL l = gi l k
  | [], k, h, _, _ => by simp at h
  | x :: l, 0, _, _, h => by
    have h' : x ≠ 0 := h
    unfold orL; rw [if_pos h']; rfl
  | x :: l, k + 1, hk, h0, h => by
    have hx : x = 0 := h0 0 (by omega)
    unfold orL
    rw [if_neg (by simpa using hx)]
    exact orL_hit (k := k) (by simpa using hk) (fun j hj => h0 (j + 1) (by omega)) h
theorem orL_zero : ∀ {l : List Int}, (∀ j, j < l.length → gi l j = 0) → orL l = 0
  | [], _ => rfl
  | x :: l, h => by
    have hx : x = 0 := h 0 (by simp)
    unfold orL
    rw [if_neg (by simpa using hx)]
    exact orL_zero fun j hj => h (j + 1) (by simpa using hj)
set_option maxHeartbeats 1000000 in
theorem or_any (l : List Int) (A : Option Addr) (c : Nat) (w : World) (hr : ∀ j, j < l.length → ∃ b o, A = some ⟨b, o, none⟩ ∧ w.cell? ⟨b, o + j, none⟩ = some (.int .i64 (gi l j))) (hn : l.length < 9223372036854775808) :
    Calls Tryz.prog 64 #[.slice A l.length c] w fun e w' => e = .returned (.int .i64 (orL l)) ∧ w' = w := by
  have HR := Lib.hid hr
  have HZ := Lib.hid (orL_zero (l := l))
  have HH := Lib.hid (fun k => orL_hit (l := l) (k := k))
  have HN := Lib.hid hn
  clear hr
  generalize orL l = R at *
  go_enter Tryz.func64, Tryz.ntmps64
  go_wp2_with fail
  go_loopw [8] (fun kv wr => ∃ k : Nat, k ≤ l.length ∧ kv = .int .i64 k ∧ Hid (∀ j, j < k → gi l j = 0) ∧ wr = w) (fun kv _ => l.length - (intOf kv).toNat)
  case atStart => exact ⟨0, Nat.zero_le _, rfl, Lib.hid (fun j h => absurd h (Nat.not_lt_zero _)), rfl⟩
  case round =>
    obtain ⟨k, hk, rfl, HK, rfl⟩ := hrel
    by_cases hlt : k < l.length
    · have t : decide (k < l.length) = true := by simpa using hlt
      obtain ⟨b, o, rfl, hc⟩ := HR.out k hlt
      by_cases hz : gi l k = 0
      · have HK' : Hid (∀ j, j < k + 1 → gi l j = 0) := Lib.hid fun j hj => by
          rcases Nat.lt_or_ge j k with h | h
          · exact HK.out j h
          · rw [show j = k by omega]; exact hz
        rw [hz] at hc
        clear hz
        go_wp2_with fail
        go_roundw
        case rel => exact ⟨k + 1, by omega, by go_num, HK', trivial⟩
        case measure => simp [intOf]; omega
      · have HI := Lib.hid (HH.out k hlt HK.out hz)
        have tz : (gi l k != 0) = true := by simpa using hz
        clear hz
        go_wp2_with fail
        go_ret
        exact ⟨ret_i HI.out.symm, rfl⟩
    · have t : decide (k < l.length) = false := by simp; omega
      have HI := Lib.hid (HZ.out (fun j hj => HK.out j (by omega)))
      go_wp2_with fail
      go_ret
      exact ⟨ret_i HI.out.symm, rfl⟩
theorem orL_two (x y : Int) : orL [x, y] = orI x y := by
  unfold orL orI orL orL
  by_cases hx : x = 0 <;> simp [hx]
  intro h; exact h.symm
theorem or2_any (x y : Int) (w : World) (g : Nat) (hg : w.heap.size = g) :
    Calls Tryz.prog 64 #[.slice (some ⟨g, 0, none⟩) 2 2] (w.alloc (.cells #[.int .i64 x, .int .i64 y] 3)) fun e w' => e = .returned (.int .i64 (orI x y)) ∧ w' = w.alloc (.cells #[.int .i64 x, .int .i64 y] 3) := by
  subst hg
  have h := or_any [x, y] (some ⟨w.heap.size, 0, none⟩) 2 (w.alloc (.cells #[.int .i64 x, .int .i64 y] 3)) (fun j hj => two_new (Ext.refl _) j hj) (by simp)
  rw [orL_two] at h
  exact h
/-- Two numbers in a slice of their own. -/
def sl2 (x y : Int) : SP := ⟨fun v W => ∃ g, v = .slice (some ⟨g, 0, none⟩) 2 2 ∧ W.cell? ⟨g, 0, none⟩ = some (.int .i64 x) ∧ W.cell? ⟨g, 1, none⟩ = some (.int .i64 y), fun h hE => by
  obtain ⟨g, e, h0, h1⟩ := h
  exact ⟨g, e, cell_ext hE h0, cell_ext hE h1⟩⟩
def riC (a b : Pt) (l r : Int) : Array Value := #[.int .i64 a.x, .int .i64 a.y, .int .i64 1, .int .i64 b.x, .int .i64 b.y, .int .i64 1, .int .i64 l, .int .i64 r]
end Go.Proofs.YtompfgofaplffaaGreatDoor

namespace Go.Proofs.YtompfgofaplffaaGreatDoor
open Go.RowKit Hach

def lowI (d : Pt) : Int := if lowerD d = true then 0 else 1
def nearR (a0 a1 a2 a3 b0 b1 b2 b3 : Int) : Bool := decide (a0 ≤ b2) && decide (b0 ≤ a2) && decide (a1 ≤ b3) && decide (b1 ≤ a3)
/-- Two points in two boxes. -/
theorem two_pts (w : World) (a b : Pt) : ∃ w3, ((w.alloc (.cells #[.int .i64 a.x, .int .i64 a.y] 73)).alloc (.cells #[.int .i64 b.x, .int .i64 b.y] 73)) = w3 ∧ Ext w w3 ∧
    ∀ W, Ext w3 W → W.cell? ⟨w.heap.size, 0, none⟩ = some (.int .i64 a.x) ∧ W.cell? ⟨w.heap.size, 1, none⟩ = some (.int .i64 a.y) ∧ W.cell? ⟨w.heap.size + 1, 0, none⟩ = some (.int .i64 b.x) ∧ W.cell? ⟨w.heap.size + 1, 1, none⟩ = some (.int .i64 b.y) := by
  obtain ⟨w3, hw, hE0, hsz, hC⟩ := two_blk w #[.int .i64 a.x, .int .i64 a.y] #[.int .i64 b.x, .int .i64 b.y] 73
  exact ⟨w3, hw, hE0, fun W h => ⟨(hC W h).1 0 _ rfl, (hC W h).1 1 _ rfl, (hC W h).2 0 _ rfl, (hC W h).2 1 _ rfl⟩⟩
/-- Points in order: by X, and then by Y. -/
def cmp2 (a b : Pt) : Int := orI (cmpI a.x b.x) (cmpI a.y b.y)
theorem or2s (s1 s2 : Int) (W : World) (g : Nat) (h0 : W.cell? ⟨g, 0, none⟩ = some (.int .i64 s1)) (h1 : W.cell? ⟨g, 1, none⟩ = some (.int .i64 s2)) :
    Calls Tryz.prog 64 #[.slice (some ⟨g, 0, none⟩) 2 2] W fun e w' => e = .returned (.int .i64 (orI s1 s2)) ∧ w' = W := by
  have h := or_any [s1, s2] (some ⟨g, 0, none⟩) 2 W (fun j hj => ⟨g, 0, rfl, by
    rw [Nat.zero_add]
    match j, hj with
    | 0, _ => exact h0
    | 1, _ => exact h1⟩) (by simp)
  rwa [orL_two] at h
theorem cmpi_any (x y : Int) (w : World) : Calls Tryz.prog 65 #[.int .i64 x, .int .i64 y] w fun e w' => e = .returned (.int .i64 (cmpI x y)) ∧ w' = w := by
  have h := Tryz.cmp_Compare_int x y w
  rwa [compI] at h
set_option maxHeartbeats 2000000 in
theorem pcompare_any (a b : Pt) (w : World) : Calls Tryz.prog 231 #[.agg #[.int .i64 a.x, .int .i64 a.y], .agg #[.int .i64 b.x, .int .i64 b.y]] w fun e w' => e = .returned (.int .i64 (cmp2 a b)) ∧ Ext w w' := by
  have HA := Lib.hid (cmpi_any a.x b.x)
  have HB := Lib.hid (cmpi_any a.y b.y)
  have HO := Lib.hid (or2s (cmpI a.x b.x) (cmpI a.y b.y))
  obtain ⟨w3, hw, hE0, hQ⟩ := two_pts w a b
  have HW := Lib.hid hw
  have HQ := Lib.hid (fun W (h : Ext w3.drew W) => hQ W (Ext.trans (Ext.drew w3) h))
  have HE := Lib.hid (exd hE0)
  have hR : cmp2 a b = orI (cmpI a.x b.x) (cmpI a.y b.y) := rfl
  rw [hR]
  clear hw hQ hE0 hR
  generalize orI (cmpI a.x b.x) (cmpI a.y b.y) = R at *
  generalize cmpI a.x b.x = s1 at *
  generalize cmpI a.y b.y = s2 at *
  go_enter Tryz.func231, Tryz.ntmps231
  go_wp2_with fail
  rw [HW.out]
  generalize w.heap.size = k at *
  apply wp_region_seq (l := [_, _, _, _, _, _, _, _, _, _, _, _]) (t := [_]) [some 5, some 6, some 7, some 8, some 9, some 10, some 11, some 12, some 13, some 14, some 15, some 16, some 4] [[], [0], [], [2], [1, 3], [], [5], [], [7], [6, 8], [4, 9], [10], [11]] [12, 12, 12, 12, 12, 12, 12, 12, 12, 12, 12, 12] [eqv _, eqv _, eqv _, eqv _, (eqv (.int .i64 s1)), eqv _, eqv _, eqv _, eqv _, (eqv (.int .i64 s2)), (sl2 s1 s2), (eqv (.int .i64 R))] (by kernel_rfl) (by kernel_rfl) ⟨?o0, ?o1, ?o2, ?o3, ?o4, ?o5, ?o6, ?o7, ?o8, ?o9, ?o10, ?o11, trivial⟩ ?last
  case o0 => -- Op.fieldAddr 73 (Operand.tmp 2) 0
    intro xv W hE _
    simp only [putD, List.foldl_nil, List.getD_cons_zero]
    refine OpGoal.plain ?_
    go_wp2_with fail
    exact ⟨rfl, Ext.refl _, rfl⟩
  case o1 => -- Op.load 3 (Operand.tmp 5)
    intro xv W hE hp
    have r0 : xv 0 = _ := hp.1
    clear hp
    obtain ⟨c0, c1, c2, c3⟩ := HQ.out W hE
    simp only [putD, List.foldl_nil, List.foldl_cons, List.getD_cons_zero, List.getD_cons_succ, Act.put, List.setIfInBounds_toArray, List.set_cons_zero, List.set_cons_succ]
    refine OpGoal.plain ?_
    go_wp2_with fail
    exact ⟨rfl, Ext.refl _, rfl⟩
  case o2 => -- Op.fieldAddr 73 (Operand.tmp 3) 0
    intro xv W hE _
    simp only [putD, List.foldl_nil, List.getD_cons_zero, List.getD_cons_succ]
    refine OpGoal.plain ?_
    go_wp2_with fail
    exact ⟨rfl, Ext.refl _, rfl⟩
  case o3 => -- Op.load 3 (Operand.tmp 7)
    intro xv W hE hp
    have r2 : xv 2 = _ := hp.1
    clear hp
    obtain ⟨c0, c1, c2, c3⟩ := HQ.out W hE
    simp only [putD, List.foldl_nil, List.foldl_cons, List.getD_cons_zero, List.getD_cons_succ, Act.put, List.setIfInBounds_toArray, List.set_cons_zero, List.set_cons_succ]
    refine OpGoal.plain ?_
    go_wp2_with fail
    exact ⟨rfl, Ext.refl _, rfl⟩
  case o4 => -- Op.call { callee := Callee.value (Operand.func 65), args := #[Operand.tmp 6, Ope
    intro xv W hE hp
    have r1 : xv 1 = _ := hp.1
    have r3 : xv 3 = _ := hp.2.1
    clear hp
    simp only [putD, List.foldl_nil, List.foldl_cons, List.getD_cons_zero, List.getD_cons_succ, Act.put, List.setIfInBounds_toArray, List.set_cons_zero, List.set_cons_succ]
    refine OpGoal.plain ?_
    go_wp2_with fail
    refine (HA.out W).mono ?_
    rintro e w' ⟨rfl, rfl⟩
    go_wp2_with fail
    exact ⟨rfl, Ext.refl _, rfl⟩
  case o5 => -- Op.fieldAddr 73 (Operand.tmp 2) 1
    intro xv W hE _
    simp only [putD, List.foldl_nil, List.getD_cons_zero, List.getD_cons_succ]
    refine OpGoal.plain ?_
    go_wp2_with fail
    exact ⟨rfl, Ext.refl _, rfl⟩
  case o6 => -- Op.load 3 (Operand.tmp 10)
    intro xv W hE hp
    have r5 : xv 5 = _ := hp.1
    clear hp
    obtain ⟨c0, c1, c2, c3⟩ := HQ.out W hE
    simp only [putD, List.foldl_nil, List.foldl_cons, List.getD_cons_zero, List.getD_cons_succ, Act.put, List.setIfInBounds_toArray, List.set_cons_zero, List.set_cons_succ]
    refine OpGoal.plain ?_
    go_wp2_with fail
    exact ⟨rfl, Ext.refl _, rfl⟩
  case o7 => -- Op.fieldAddr 73 (Operand.tmp 3) 1
    intro xv W hE _
    simp only [putD, List.foldl_nil, List.getD_cons_zero, List.getD_cons_succ]
    refine OpGoal.plain ?_
    go_wp2_with fail
    exact ⟨rfl, Ext.refl _, rfl⟩
  case o8 => -- Op.load 3 (Operand.tmp 12)
    intro xv W hE hp
    have r7 : xv 7 = _ := hp.1
    clear hp
    obtain ⟨c0, c1, c2, c3⟩ := HQ.out W hE
    simp only [putD, List.foldl_nil, List.foldl_cons, List.getD_cons_zero, List.getD_cons_succ, Act.put, List.setIfInBounds_toArray, List.set_cons_zero, List.set_cons_succ]
    refine OpGoal.plain ?_
    go_wp2_with fail
    exact ⟨rfl, Ext.refl _, rfl⟩
  case o9 => -- Op.call { callee := Callee.value (Operand.func 65), args := #[Operand.tmp 11, Op
    intro xv W hE hp
    have r6 : xv 6 = _ := hp.1
    have r8 : xv 8 = _ := hp.2.1
    clear hp
    simp only [putD, List.foldl_nil, List.foldl_cons, List.getD_cons_zero, List.getD_cons_succ, Act.put, List.setIfInBounds_toArray, List.set_cons_zero, List.set_cons_succ]
    refine OpGoal.plain ?_
    go_wp2_with fail
    refine (HB.out W).mono ?_
    rintro e w' ⟨rfl, rfl⟩
    go_wp2_with fail
    exact ⟨rfl, Ext.refl _, rfl⟩
  case o10 => -- Op.buildSlice 130 2 #[(0, Operand.tmp 9), (1, Operand.tmp 14)]
    intro xv W hE hp
    have r4 : xv 4 = _ := hp.1
    have r9 : xv 9 = _ := hp.2.1
    clear hp
    simp only [putD, List.foldl_nil, List.foldl_cons, List.getD_cons_zero, List.getD_cons_succ, Act.put, List.setIfInBounds_toArray, List.set_cons_zero, List.set_cons_succ]
    refine OpGoal.plain ?_
    go_wp2_with fail
    exact ⟨rfl, Ext.alloc _ _, W.heap.size, rfl, cells_of (Go.heap_alloc_new _ _) 0 _ rfl, cells_of (Go.heap_alloc_new _ _) 1 _ rfl⟩
  case o11 => -- Op.call { callee := Callee.value (Operand.func 64), args := #[Operand.tmp 15], a
    intro xv W hE hp
    obtain ⟨g10, r10, z0, z1⟩ := hp.1
    clear hp
    simp only [putD, List.foldl_nil, List.foldl_cons, List.getD_cons_zero, List.getD_cons_succ, Act.put, List.setIfInBounds_toArray, List.set_cons_zero, List.set_cons_succ]
    refine OpGoal.plain ?_
    go_wp2_with fail
    refine (HO.out W g10 z0 z1).mono ?_
    rintro e w' ⟨rfl, rfl⟩
    go_wp2_with fail
    exact ⟨rfl, Ext.refl _, rfl⟩
  case last =>
    intro xv W hE hp
    have r0 : xv 0 = _ := hp.1
    have r1 : xv 1 = _ := hp.2.1
    have r2 : xv 2 = _ := hp.2.2.1
    have r3 : xv 3 = _ := hp.2.2.2.1
    have r4 : xv 4 = _ := hp.2.2.2.2.1
    have r5 : xv 5 = _ := hp.2.2.2.2.2.1
    have r6 : xv 6 = _ := hp.2.2.2.2.2.2.1
    have r7 : xv 7 = _ := hp.2.2.2.2.2.2.2.1
    have r8 : xv 8 = _ := hp.2.2.2.2.2.2.2.2.1
    have r9 : xv 9 = _ := hp.2.2.2.2.2.2.2.2.2.1
    obtain ⟨g10, r10, z0, z1⟩ := hp.2.2.2.2.2.2.2.2.2.2.1
    have r11 : xv 11 = _ := hp.2.2.2.2.2.2.2.2.2.2.2.1
    clear hp
    simp only [putD, List.foldl_nil, List.foldl_cons, List.getD_cons_zero, List.getD_cons_succ, Act.put, List.length_cons, List.length_nil, List.range_succ, List.range_zero, List.nil_append, List.cons_append, List.setIfInBounds_toArray, List.set_cons_zero, List.set_cons_succ]
    go_wp2_with fail
    go_ret
    exact ⟨rfl, Ext.trans HE.out hE⟩
/-- Branches in order. -/
def cmpB (b c : Pt) : Int := orI (cmpI (lowI b) (lowI c)) (-cmpI (crossP b c) 0)
theorem sub_exact {a b : Pt} (ha : rightP a = true) (hb : rightP b = true) : wrap64 (b.x - a.x) = b.x - a.x ∧ wrap64 (b.y - a.y) = b.y - a.y := by
  rw [rightP_iff] at ha hb
  unfold wrap64
  omega
theorem mul_bd {x y : Int} (hx : -32768 ≤ x ∧ x ≤ 32768) (hy : -32768 ≤ y ∧ y ≤ 32768) : -1073741824 ≤ x * y ∧ x * y ≤ 1073741824 := by
  have key : ∀ x y : Int, 0 ≤ x → x ≤ 32768 → 0 ≤ y → y ≤ 32768 → 0 ≤ x * y ∧ x * y ≤ 1073741824 := fun x y h1 h2 h3 h4 =>
    ⟨Int.mul_nonneg h1 h3, Int.le_trans (Int.mul_le_mul h2 h4 h3 (by decide)) (by decide)⟩
  rcases Int.le_total 0 x with h | h <;> rcases Int.le_total 0 y with g | g
  · have := key x y h hx.2 g hy.2; omega
  · have := key x (-y) h hx.2 (by omega) (by omega); rw [Int.mul_neg] at this; omega
  · have := key (-x) y (by omega) (by omega) g hy.2; rw [Int.neg_mul] at this; omega
  · have := key (-x) (-y) (by omega) (by omega) (by omega) (by omega); rw [Int.neg_mul_neg] at this; omega
/-- A direction between right points. -/
def DirP (d : Pt) : Prop := (-32768 ≤ d.x ∧ d.x ≤ 32768) ∧ -32768 ≤ d.y ∧ d.y ≤ 32768
theorem cross_exact {a b : Pt} (ha : DirP a) (hb : DirP b) : wrap64 (wrap64 (a.x * b.y) - wrap64 (a.y * b.x)) = crossP a b := by
  have h1 := mul_bd ha.1 hb.2
  have h2 := mul_bd ha.2 hb.1
  unfold crossP wrap64
  omega
theorem dot_exact {a b : Pt} (ha : rightP a = true) (hb : rightP b = true) : wrap64 (wrap64 ((b.x - a.x) * (b.x - a.x)) + wrap64 ((b.y - a.y) * (b.y - a.y))) = dot a b := by
  rw [rightP_iff] at ha hb
  have h1 := mul_bd (x := b.x - a.x) (y := b.x - a.x) (by omega) (by omega)
  have h2 := mul_bd (x := b.y - a.y) (y := b.y - a.y) (by omega) (by omega)
  unfold dot wrap64
  omega
end Go.Proofs.YtompfgofaplffaaGreatDoor

namespace Go.Proofs.YtompfgofaplffaaGreatDoor
open Go.RowKit Hach

/-- A row of n structs, of k cells each. -/
def RowAt (W : World) (A : Option Addr) (n k : Nat) (E : Nat → List Value) : Prop :=
  ∀ j, j < n → ∃ b o, A = some ⟨b, o, none⟩ ∧ b < W.heap.size ∧ W.rangeAt b (o + j * k) (E j)
theorem RowAt.keep {w w' : World} {A : Option Addr} {n k : Nat} {E : Nat → List Value} (h : RowAt w A n k E) (hE : Ext w w') : RowAt w' A n k E := fun j hj => by
  obtain ⟨b, o, e, hb, hr⟩ := h j hj
  exact ⟨b, o, e, Nat.lt_of_lt_of_le hb hE.sz, fun i v hv => (hE.old (p := ⟨b, o + j * k + i, none⟩) hb).trans (hr i v hv)⟩
theorem RowAt.below {B : Nat} {w w' : World} {A : Option Addr} {n k : Nat} {E : Nat → List Value} (h : RowAt w A n k E) (hA : ∀ b o, A = some ⟨b, o, none⟩ → b < B) (hE : Below B w w') : RowAt w' A n k E := fun j hj => by
  obtain ⟨b, o, e, hb, hr⟩ := h j hj
  exact ⟨b, o, e, Nat.lt_of_lt_of_le hb hE.size, fun i v hv => (hE.cell (p := ⟨b, o + j * k + i, none⟩) (hA b o e)).trans (hr i v hv)⟩
theorem RowAt.at_ {W : World} {b o n k : Nat} {E : Nat → List Value} (h : RowAt W (some ⟨b, o, none⟩) n k E) {j : Nat} (hj : j < n) : W.rangeAt b (o + j * k) (E j) := by
  obtain ⟨b', o', e, _, hr⟩ := h j hj
  cases e; exact hr
theorem RowAt.some_ {W : World} {A : Option Addr} {n k : Nat} {E : Nat → List Value} (h : RowAt W A n k E) (hn : 0 < n) : ∃ b o, A = some ⟨b, o, none⟩ ∧ b < W.heap.size := by
  obtain ⟨b, o, e, hb, _⟩ := h 0 hn
  exact ⟨b, o, e, hb⟩
theorem RowAt.less {W : World} {A : Option Addr} {n n' k : Nat} {E : Nat → List Value} (h : RowAt W A n k E) (hn : n' ≤ n) : RowAt W A n' k E := fun j hj => h j (by omega)
theorem RowAt.nil {W : World} {A : Option Addr} {k : Nat} {E : Nat → List Value} : RowAt W A 0 k E := fun j hj => absurd hj (Nat.not_lt_zero j)
theorem RowAt.cell {W : World} {b o n k : Nat} {E : Nat → List Value} (h : RowAt W (some ⟨b, o, none⟩) n k E) {j i : Nat} {v : Value} (hj : j < n) (hv : (E j)[i]? = some v) : W.cell? ⟨b, o + j * k + i, none⟩ = some v := h.at_ hj i v hv

def ptC (p : Pt) : List Value := [.int .i64 p.x, .int .i64 p.y]
def Pts (W : World) (A : Option Addr) (l : List Pt) : Prop := RowAt W A l.length 2 fun j => ptC (gp l j)
def strV (l : List UInt8) : Value := .string ⟨l.toArray⟩
/-- Where the lines of a list lie. -/
structure Ls where
  a : Nat → Option Addr
  c : Nat → Nat
def edC (L : Ls) (es : List Ed) (j : Nat) : List Value := [.int .i64 (ed es j).id, .slice (L.a j) (ed es j).line.length (L.c j), .int .i64 (ed es j).left, .int .i64 (ed es j).right]
def fa (fs : List Fa) (i : Nat) : Fa := fs.getD i ⟨0, [], [], 0, 0⟩
def pl (ps : List Pl) (i : Nat) : Pl := ps.getD i zeroPl
def faC (f : Fa) : List Value := [.int .i64 f.id, strV f.cls, strV f.name, .int .i64 f.weight, .int .i64 f.district]
def wyC (L : Ls) (ws : List Wy) (j : Nat) : List Value :=
  [.int .i64 (wy ws j).id, .slice (L.a j) (wy ws j).line.length (L.c j), .int .i64 (wy ws j).level, strV (wy ws j).cls, strV (wy ws j).name, .bool (wy ws j).stairs, .int .i64 (wy ws j).weight, .int .i64 (wy ws j).district]
def plC (p : Pl) : List Value := [.int .i64 p.id, .int .i64 p.pt.x, .int .i64 p.pt.y, strV p.cls, strV p.name, .int .i64 p.weight, .int .i64 p.district]
def EdsAt (W : World) (A : Option Addr) (L : Ls) (es : List Ed) : Prop := RowAt W A es.length 4 (edC L es) ∧ ∀ j, j < es.length → Pts W (L.a j) (ed es j).line ∧ (ed es j).line.length < 4611686018427387904 ∧ (ed es j).line.length ≤ L.c j
def FasAt (W : World) (A : Option Addr) (fs : List Fa) : Prop := RowAt W A fs.length 5 fun j => faC (fa fs j)
def WysAt (W : World) (A : Option Addr) (L : Ls) (ws : List Wy) : Prop := RowAt W A ws.length 8 (wyC L ws) ∧ ∀ j, j < ws.length → Pts W (L.a j) (wy ws j).line ∧ (wy ws j).line.length < 4611686018427387904 ∧ (wy ws j).line.length ≤ L.c j
def PlsAt (W : World) (A : Option Addr) (ps : List Pl) : Prop := RowAt W A ps.length 7 fun j => plC (pl ps j)
/-- Where a map lies. -/
structure Ma where
  ea : Option Addr
  ec : Nat
  el : Ls
  fa : Option Addr
  fc : Nat
  wa : Option Addr
  wc : Nat
  wl : Ls
  pa : Option Addr
  pc : Nat
def Ma.cells (a : Ma) (m : Mp) : List Value := [.slice a.ea m.edges.length a.ec, .slice a.fa m.faces.length a.fc, .slice a.wa m.ways.length a.wc, .slice a.pa m.places.length a.pc]
structure MpAt (W : World) (a : Ma) (m : Mp) : Prop where
  edges : EdsAt W a.ea a.el m.edges
  faces : FasAt W a.fa m.faces
  ways : WysAt W a.wa a.wl m.ways
  places : PlsAt W a.pa m.places
  small : m.edges.length < 4611686018427387904 ∧ m.faces.length < 4611686018427387904 ∧ m.ways.length < 4611686018427387904 ∧ m.places.length < 4611686018427387904
theorem EdsAt.keep {w w' : World} {A : Option Addr} {L : Ls} {es : List Ed} (h : EdsAt w A L es) (hE : Ext w w') : EdsAt w' A L es := ⟨h.1.keep hE, fun j hj => ⟨(h.2 j hj).1.keep hE, (h.2 j hj).2⟩⟩
theorem WysAt.keep {w w' : World} {A : Option Addr} {L : Ls} {ws : List Wy} (h : WysAt w A L ws) (hE : Ext w w') : WysAt w' A L ws := ⟨h.1.keep hE, fun j hj => ⟨(h.2 j hj).1.keep hE, (h.2 j hj).2⟩⟩
theorem MpAt.keep {w w' : World} {a : Ma} {m : Mp} (h : MpAt w a m) (hE : Ext w w') : MpAt w' a m := ⟨h.edges.keep hE, RowAt.keep h.faces hE, h.ways.keep hE, RowAt.keep h.places hE, h.small⟩
theorem ed_mem' {es : List Ed} {j : Nat} (h : j < es.length) : ed es j ∈ es := by
  unfold ed; rw [List.getD_eq_getElem?_getD, List.getElem?_eq_getElem h]; exact List.getElem_mem h
theorem fa_mem {fs : List Fa} {j : Nat} (h : j < fs.length) : fa fs j ∈ fs := by
  unfold fa; rw [List.getD_eq_getElem?_getD, List.getElem?_eq_getElem h]; exact List.getElem_mem h
theorem fa_get {fs : List Fa} {j : Nat} (h : j < fs.length) : fs[j]? = some (fa fs j) := by
  unfold fa; rw [List.getD_eq_getElem?_getD, List.getElem?_eq_getElem h]; rfl
theorem ed_get {es : List Ed} {j : Nat} (h : j < es.length) : es[j]? = some (ed es j) := by
  unfold ed; rw [List.getD_eq_getElem?_getD, List.getElem?_eq_getElem h]; rfl
end Go.Proofs.YtompfgofaplffaaGreatDoor
