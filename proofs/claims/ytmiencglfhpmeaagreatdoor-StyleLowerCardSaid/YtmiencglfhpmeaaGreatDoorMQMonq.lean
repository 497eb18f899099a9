/- The law of regions that draw their order, where what is said of an operation may name the values of those that it looks at (printed by gen_monq.py from XMono, XMonor). -/
import Derived.Test.YtmiencglfhpmeaaGreatDoorMQXa
set_option linter.unusedSimpArgs false
set_option linter.unusedVariables false
namespace Hach
open Go Go.RowKit
section
variable {P : Program}
structure ComeL (ops : Array Oper) (a : Act) (E : World → World → Prop) (F : Nat → (Nat → Value) → Value → World → Prop) (w : World) (l : Array Bool) (a' : Act) (W : World) (x : Nat → Value) : Prop where
 ext : E w W
 lsz : l.size = ops.size
 dfs : a'.defers = a.defers
 asz : a'.tmps.size = a.tmps.size
 shut : ∀ k o, ops[k]? = some o → l.getD k true = true → ∀ p ∈ preds o, l.getD p true = true
 val : ∀ k, k < ops.size → l.getD k true = true → F k x (x k) W
 get : ∀ t, a'.tmps[t]? = match wr ops t with
  | some k => if l.getD k true then some (x k) else a.tmps[t]?
  | none => a.tmps[t]?
theorem ComeL.first {ops : Array Oper} {N : Nat} (m : Mono ops N) {a : Act} (hN : N ≤ a.tmps.size) {E : World → World → Prop} {F : Nat → (Nat → Value) → Value → World → Prop} {w : World} {l : Array Bool} {a' : Act} {W : World} {x : Nat → Value}
  (c : ComeL ops a E F w l a' W x) {i : Nat} (hi : i ≤ ops.size) (h : ∀ k, k < i → l.getD k true = true) (h2 : ∀ k, i ≤ k → k < ops.size → l.getD k true = false) : a' = putAll ops x (List.range i) a := by
 refine act_ext (c.asz.trans (putAll_size ops x _ a).1.symm) (c.dfs.trans (putAll_size ops x _ a).2.symm) fun t => ?_
 rw [c.get t, putAll_get m x t _ a hN (fun k hk => Nat.lt_of_lt_of_le (List.mem_range.1 hk) hi)]
 cases hw : wr ops t with
 | none => rfl
 | some k =>
  have hk := (wr_some hw).1
  by_cases e : k < i
  ·simp [h k e, e]
  ·simp [h2 k (by omega) hk, e]
theorem wpAny_link {ops : Array Oper} {Q : Exit → Act → World → Prop} {a : Act} {w : World} (M : Nat) (X : List Nat) (hck : monoOk ops a.tmps.size = true) (hM : M ≤ ops.size) (htl : tailOk ops M X = true)
  (E : World → World → Prop) (hr : ∀ w, E w w) (ht : ∀ {u v w}, E u v → E v w → E u w) (F : Nat → (Nat → Value) → Value → World → Prop) (hF : ∀ {i x v W W'}, F i x v W → E W W' → F i x v W') (hL : ∀ {i : Nat} {o : Oper} {x x' : Nat → Value} {v : Value} {W : World}, ops[i]? = some o → (∀ j ∈ preds o, x' j = x j) → F i x v W → F i x' v W)
  (hops : ∀ (i : Nat) (o : Oper), ops[i]? = some o → i < M → ∀ (x : Nat → Value) W, E w.drew W → (∀ k ∈ preds o, F k x (x k) W) →
   if Region.wanted o (yielded ops (putAll ops x (preds o) a).tmps) then Gives P (fun v W' => E W W' ∧ F i x v W') ((execOp (putAll ops x (preds o) a).eval o).run P W) else F i x undef W)
  (hfin : ∀ (x : Nat → Value) W, E w.drew W → (∀ k, k < M → F k x (x k) W) → wpOps P ops Q (List.range' M (ops.size - M)) (putAll ops x (List.range M) a) W) :
  wpAny P .any ops Q ops.size (Array.replicate ops.size false) a w.drew := by
 have m := mono_of hck
 refine wpAny_inv
  (fun l a' W => (∃ x, ComeL ops a E F w.drew l a' W x ∧ ∀ k, M ≤ k → k < ops.size → l.getD k true = false) ∨
   (l.size = ops.size ∧ ∃ i, M ≤ i ∧ i ≤ ops.size ∧ (∀ k, k < i → l.getD k true = true) ∧ (∀ k, i ≤ k → k < ops.size → l.getD k true = false) ∧ wpOps P ops Q (List.range' i (ops.size - i)) a' W))
  ?_ ?_ ?_ _ _ _ _ (Nat.le_trans (List.countP_le_length) (by simp)) ?_
 ·rintro l a' W (⟨x, c, _⟩ | ⟨h, _⟩)
  ·exact c.lsz
  ·exact h
 ·-- a tail operation, walked
  have htail : ∀ (l : Array Bool) (a' : Act) (W : World) (i : Nat), l.size = ops.size → M ≤ i → i < ops.size → (∀ k, k < i → l.getD k true = true) → (∀ k, i ≤ k → k < ops.size → l.getD k true = false) →
    wpOps P ops Q (List.range' i (ops.size - i)) a' W →
    wpOp P ops Q i (fun a'' W' => (∃ x, ComeL ops a E F w.drew (l.setIfInBounds i true) a'' W' x ∧ ∀ k, M ≤ k → k < ops.size → (l.setIfInBounds i true).getD k true = false) ∨
   ((l.setIfInBounds i true).size = ops.size ∧ ∃ i', M ≤ i' ∧ i' ≤ ops.size ∧ (∀ k, k < i' → (l.setIfInBounds i true).getD k true = true) ∧ (∀ k, i' ≤ k → k < ops.size → (l.setIfInBounds i true).getD k true = false) ∧ wpOps P ops Q (List.range' i' (ops.size - i')) a'' W')) a' W := by
   intro l a' W i hsz hMi hin h1 h2 hw
   rw [show ops.size - i = (ops.size - (i + 1)) + 1 by omega, List.range'_succ, wpOps_cons] at hw
   refine wpOp_mono (fun a'' W' h => .inr ⟨by simp [hsz], i + 1, by omega, by omega, fun k hk => ?_, fun k hk hk2 => ?_, h⟩) hw
   ·by_cases e : i = k
    ·subst e; simp [Array.getD_eq_getD_getElem?, hsz, hin]
    ·rw [Array.getD_eq_getD_getElem?, Array.getElem?_setIfInBounds_ne e, ← Array.getD_eq_getD_getElem?]; exact h1 k (by omega)
   ·rw [Array.getD_eq_getD_getElem?, Array.getElem?_setIfInBounds_ne (by omega), ← Array.getD_eq_getD_getElem?]; exact h2 k (by omega) hk2
  rintro l a' W i (⟨x, c, hno⟩ | ⟨hsz, i', hMi, hi', h1, h2, hw⟩) hi
  ·obtain ⟨o, ho, hli, hp⟩ := ready_iff.1 hi
   have hin := lt_of_some ho
   have hpl : ∀ p ∈ preds o, p < ops.size := fun p hp' => Nat.lt_trans (m.lt i o ho p hp') hin
   have hpt : ∀ p ∈ preds o, l.getD p true = true := fun p hp' => by rw [getD_lt (by rw [c.lsz]; exact hpl p hp') true false]; exact hp p hp'
   by_cases hiM : i < M
   ·have hlook : ∀ t ∈ o.looksAt ops, a'.tmps[t]? = (putAll ops x (preds o) a).tmps[t]? := fun t ht' => by
     rw [c.get t, putAll_get m x t _ a (Nat.le_refl _) hpl]
     cases hw : wr ops t with
     | none => rfl
     | some k =>
      rcases m.look i o ho t ht' k hw with h | h | ⟨ok, hok, h⟩
      ·simp [h, hpt k h]
      ·subst h
       have hni : ¬ k ∈ preds o := fun h => absurd (m.lt k o ho k h) (Nat.lt_irrefl _)
       simp [hni, hli]
      ·have hkl : l.getD k true = false := by
        cases hc : l.getD k true with
        | false => rfl
        | true => have := c.shut k ok hok hc i h; rw [hli] at this; cases this
       have hnk : ¬ k ∈ preds o := fun h' => by have := hpt k h'; rw [hkl] at this; cases this
       simp [hnk, hkl]
    have hex := exec_of_look (m.sel i o ho) hlook
    have hwa := wanted_of_look hlook
    have hval : ∀ k ∈ preds o, F k x (x k) W := fun k hk => c.val k (hpl k hk) (hpt k hk)
    have hshut : ∀ (k : Nat) (o' : Oper), ops[k]? = some o' → (l.setIfInBounds i true).getD k true = true → ∀ p ∈ preds o', (l.setIfInBounds i true).getD p true = true := fun k o' ho' hk p hp' => by
     by_cases e : i = p
     ·subst e; simp [Array.getD_eq_getD_getElem?, c.lsz, hin]
     ·rw [Array.getD_eq_getD_getElem?, Array.getElem?_setIfInBounds_ne e, ← Array.getD_eq_getD_getElem?]
      by_cases e2 : i = k
      ·subst e2; rw [ho] at ho'; cases ho'; exact hpt p hp'
      ·rw [Array.getD_eq_getD_getElem?, Array.getElem?_setIfInBounds_ne e2, ← Array.getD_eq_getD_getElem?] at hk
       exact c.shut k o' ho' hk p hp'
    have hg := hops i o ho hiM x W c.ext hval
    have hnext : ∀ v W', E W W' → F i x v W' → ComeL ops a E F w.drew (l.setIfInBounds i true) (a'.put o.dst v) W' (fun k => if k = i then v else x k) := fun v W' hE hv => by
     have hdi : o.dst = dstOf ops i := by simp [dstOf, ho]
     refine ⟨ht c.ext hE, by simp [c.lsz], ?_, ?_, hshut, fun k hk hlk => ?_, fun t => ?_⟩
     ·rw [← c.dfs]; cases o.dst <;> rfl
     ·rw [← c.asz]; cases o.dst <;> simp [Act.put]
     ·by_cases e : k = i
      ·subst e
       simp only [if_true]
       exact hL ho (fun j hj => if_neg (fun e => by rw [e] at hj; exact absurd (m.lt k o ho k hj) (Nat.lt_irrefl _))) hv
      ·simp only [e, if_false]
       rw [Array.getD_eq_getD_getElem?, Array.getElem?_setIfInBounds_ne (Ne.symm e), ← Array.getD_eq_getD_getElem?] at hlk
       obtain ⟨ok, hok⟩ : ∃ ok, ops[k]? = some ok := ⟨ops[k], Array.getElem?_eq_getElem hk⟩
       refine hL hok (fun j hj => if_neg (fun e => ?_)) (hF (c.val k hk hlk) hE)
       have := c.shut k ok hok hlk j hj
       rw [e, hli] at this; cases this
     ·rw [hdi, put_get m (by rw [c.asz]; exact Nat.le_refl _) hin v t, c.get t]
      cases hw : wr ops t with
      | none => simp
      | some k =>
       by_cases e : k = i
       ·subst e; simp [Array.getD_eq_getD_getElem?, c.lsz, hin]
       ·simp only [Option.some.injEq, e, if_false]
        rw [Array.getD_eq_getD_getElem? (i := k) (xs := l.setIfInBounds i true), Array.getElem?_setIfInBounds_ne (Ne.symm e), ← Array.getD_eq_getD_getElem?]
    have hno' : ∀ k, M ≤ k → k < ops.size → (l.setIfInBounds i true).getD k true = false := fun k hk hk2 => by
     rw [Array.getD_eq_getD_getElem?, Array.getElem?_setIfInBounds_ne (by omega), ← Array.getD_eq_getD_getElem?]; exact hno k hk hk2
    unfold wpOp
    rw [ho]
    simp only []
    rw [hwa]
    split
    ·rename_i hw
     rw [if_pos hw] at hg
     rw [← hex] at hg
     exact .inl (hg.upon fun v W' hv => .inl ⟨_, hnext v W' hv.1 hv.2, hno'⟩)
    ·rename_i hw
     rw [if_neg hw] at hg
     exact .inl ⟨_, hnext undef W (hr W) hg, hno'⟩
   ·-- the first of the tail
    have hall := tail_all htl c.shut ho (Nat.le_of_not_lt hiM) hpt
    have hiM2 : i = M := by
     by_cases e : i = M
     ·exact e
     ·have := hall M (by omega); rw [hno M (Nat.le_refl _) (by omega)] at this; cases this
    subst hiM2
    have ha := c.first m (Nat.le_refl _) hM hall hno
    have hf := hfin x W c.ext (fun k hk => c.val k (by omega) (hall k hk))
    rw [← ha] at hf
    exact htail l a' W i c.lsz (Nat.le_refl _) hin hall hno hf
  ·obtain ⟨o, ho, hli, hp⟩ := ready_iff.1 hi
   have hin := lt_of_some ho
   have hge : i' ≤ i := by
    rcases Nat.lt_or_ge i i' with h | h
    ·rw [h1 i h] at hli; cases hli
    ·exact h
   have hii : i = i' := by
    by_cases e : i = i'
    ·exact e
    ·exfalso
     have h3 := List.all_eq_true.1 htl (i - 1) (List.mem_range.2 (by omega))
     rw [if_neg (by omega), show i - 1 + 1 = i by omega, ho] at h3
     have := hp (i - 1) (by simpa using h3)
     rw [getD_lt (by omega) false true, h2 (i - 1) (by omega) (by omega)] at this
     cases this
   subst hii
   exact htail l a' W i hsz hMi hin h1 h2 hw
 ·rintro l a' W (⟨x, c, hno⟩ | ⟨hsz, i', hMi, hi', h1, h2, hw⟩) hn
  ·have hall := all_of_none m c.lsz hn
   have hMe : M = ops.size := by
    by_cases e : M = ops.size
    ·exact e
    ·have := hno M (Nat.le_refl _) (by omega); rw [hall M (by omega)] at this; cases this
   have ha := c.first m (Nat.le_refl _) hM (fun k hk => hall k (by omega)) hno
   have hf := hfin x W c.ext (fun k hk => c.val k (by omega) (hall k (by omega)))
   rw [← ha, hMe, Nat.sub_self] at hf
   exact hf
  ·have hall := all_of_none m hsz hn
   have hie : i' = ops.size := by
    by_cases e : i' = ops.size
    ·exact e
    ·have := h2 i' (Nat.le_refl _) (by omega); rw [hall i' (by omega)] at this; cases this
   subst hie
   rw [Nat.sub_self] at hw
   exact hw
 ·refine .inl ⟨fun _ => undef, ⟨hr _, by simp, rfl, rfl, fun k o ho hk => ?_, fun k hk hlk => ?_, fun t => ?_⟩, fun k _ hk => ?_⟩
  ·simp [Array.getD_eq_getD_getElem?, lt_of_some ho] at hk
  ·simp [Array.getD_eq_getD_getElem?, hk] at hlk
  ·cases hw : wr ops t with
   | none => rfl
   | some k => simp [Array.getD_eq_getD_getElem?, (wr_some hw).1]
  ·simp [Array.getD_eq_getD_getElem?, hk]
structure SPl (E : World → World → Prop) where
 on : List Nat
 p : (Nat → Value) → Value → World → Prop
 st : ∀ {x v W W'}, p x v W → E W W' → p x v W'
 loc : ∀ {x x' v W}, (∀ j ∈ on, x' j = x j) → p x v W → p x' v W
variable {E : World → World → Prop}
def eql (c : Value) : SPl E := ⟨[], fun _ v _ => v = c, fun h _ => h, fun _ h => h⟩
def anyl : SPl E := ⟨[], fun _ _ _ => True, fun _ _ => trivial, fun _ h => h⟩
def SPr.l (s : SPr E) : SPl E := ⟨[], fun _ v W => s.p v W, fun h hE => s.st h hE, fun _ h => h⟩
def FofL (F : List (SPl E)) (k : Nat) (x : Nat → Value) (v : Value) (W : World) : Prop := (F.getD k anyl).p x v W
def linkOk (ops : Array Oper) (F : List (SPl E)) : Bool := (List.range F.length).all fun i => match ops[i]? with | some o => (F.getD i anyl).on.all fun j => decide (j ∈ preds o) | none => true
def KnownL (F : List (SPl E)) (x : Nat → Value) (W : World) : List Nat → Prop
 | [] => True
 | k :: ks => (F.getD k anyl).p x (x k) W ∧ KnownL F x W ks
theorem knownL_of {F : List (SPl E)} {x : Nat → Value} {W : World} : ∀ {ks : List Nat}, (∀ k ∈ ks, (F.getD k anyl).p x (x k) W) → KnownL F x W ks
 | [], _ => trivial
 | k :: _, h => ⟨h k (List.mem_cons_self ..), knownL_of fun j hj => h j (List.mem_cons_of_mem _ hj)⟩
def OpsOkL (P : Program) (ds : List (Option Tmp)) (a : Act) (w : World) (F : List (SPl E)) (D : List (List Nat)) : Nat → List Oper → Prop
 | _, [] => True
 | i, o :: l => (∀ (x : Nat → Value) (W : World), E w W → KnownL F x W (D.getD i []) → OpGoal P ds o (fun v W' => E W W' ∧ (F.getD i anyl).p x v W') (putD ds x (D.getD i []) a) W) ∧ OpsOkL P ds a w F D (i + 1) l
theorem OpsOkL.at_ {ds : List (Option Tmp)} {a : Act} {w : World} {F : List (SPl E)} {D : List (List Nat)} : ∀ {l : List Oper} {i : Nat}, OpsOkL P ds a w F D i l → ∀ (j : Nat) (o : Oper), l[j]? = some o → ∀ (x : Nat → Value) (W : World), E w W → KnownL F x W (D.getD (i + j) []) →
      OpGoal P ds o (fun v W' => E W W' ∧ (F.getD (i + j) anyl).p x v W') (putD ds x (D.getD (i + j) []) a) W
  | [], _, _, j, o, h => by simp at h
  | o' :: l, i, hk, j, o, h => by
    cases j with
    | zero =>
      simp only [List.getElem?_cons_zero, Option.some.injEq] at h
      subst h
      exact hk.1
    | succ j =>
      have := OpsOkL.at_ hk.2 j o (by simpa using h)
      rw [show i + 1 + j = i + (j + 1) by omega] at this
      exact this
theorem wpAny_rell (refl : ∀ w, E w w) (trans : ∀ {u v w : World}, E u v → E v w → E u w) {l t : List Oper} {Q : Exit → Act → World → Prop} {a : Act} {w : World} (ds : List (Option Tmp)) (D : List (List Nat)) (X : List Nat) (F : List (SPl E))
  (hck : (monoOk (l ++ t).toArray a.tmps.size && depsOk (l ++ t).toArray D && ((l ++ t).map (·.dst) == ds) && tailOk (l ++ t).toArray l.length X) = true) (hlk : linkOk (l ++ t).toArray F = true) (hops : OpsOkL P ds a w.drew F D 0 l)
  (hfin : ∀ (x : Nat → Value) (W : World), E w.drew W → KnownL F x W (List.range l.length) → wpList P (l ++ t).toArray Q t (putD ds x (List.range l.length) a) W) :
  wpAny P .any (l ++ t).toArray Q (l ++ t).toArray.size (Array.replicate (l ++ t).toArray.size false) a w.drew := by
 simp only [Bool.and_eq_true] at hck
 obtain ⟨⟨⟨hc1, hc2⟩, hc3⟩, hc4⟩ := hck
 have m := mono_of hc1
 refine wpAny_link l.length X hc1 (by simp) hc4 E refl (@trans) (FofL F) (fun h hE => (F.getD _ anyl).st h hE) (fun {i o x x' v W} ho hx h => ?_) ?_ ?_
 ·by_cases hi : i < F.length
  ·have h1 := List.all_eq_true.1 hlk i (List.mem_range.2 hi)
   rw [ho] at h1
   exact (F.getD i anyl).loc (fun j hj => hx j (of_decide_eq_true (List.all_eq_true.1 h1 j hj))) h
  ·have e : F.getD i anyl = anyl := by rw [List.getD_eq_getElem?_getD, List.getElem?_eq_none (by omega)]; rfl
   show (F.getD i anyl).p x' v W
   rw [e]; trivial
 ·intro i o ho hi x W hE hp
  obtain ⟨hs, hlk⟩ := look_same m hc2 (Nat.le_refl _) x ho
  have hg := hops.at_ i o (by simpa [List.getElem?_append_left hi] using ho) x W hE (knownL_of fun k hk => by rw [Nat.zero_add] at hk; exact hp k (hs k hk))
  rw [Nat.zero_add] at hg
  have hg := hg.use hc3 (fun d hd => by rw [← putD_eq hc3, (putAll_size _ _ _ _).1]; exact (m.one i d (lt_of_some ho) (by simp only [dstOf, ho, Option.bind_some]; exact hd)).2)
  rw [← putD_eq hc3] at hg
  rw [← wanted_of_look hlk, ← exec_of_look (m.sel i o ho) hlk] at hg
  split
  ·rename_i hw; rw [if_pos hw] at hg; exact hg
  ·rename_i hw; rw [if_neg hw] at hg; exact hg.2
 ·intro x W hE h
  have hf := hfin x W hE (knownL_of fun k hk => h k (List.mem_range.1 hk))
  rw [← putD_eq hc3] at hf
  have e : (l ++ t).toArray.size - l.length = t.length := by simp
  rw [e, wpOps_eq_wpList t l.length (fun j => by simp [List.getElem?_append_right])]
  exact hf
theorem wp_region_link (refl : ∀ w, E w w) (trans : ∀ {u v w : World}, E u v → E v w → E u w) {l t : List Oper} {Q : Exit → Act → World → Prop} {id : Nat} {a : Act} {w : World} (ds : List (Option Tmp)) (D : List (List Nat)) (X : List Nat) (F : List (SPl E)) (hm : P.follows .mixedOrders = true)
  (hck : (monoOk (l ++ t).toArray a.tmps.size && depsOk (l ++ t).toArray D && ((l ++ t).map (·.dst) == ds) && tailOk (l ++ t).toArray l.length X) = true) (hlk : linkOk (l ++ t).toArray F = true) (hops : OpsOkL P ds a w.drew F D 0 l)
  (hfin : ∀ (x : Nat → Value) (W : World), E w.drew W → KnownL F x W (List.range l.length) → wpList P (l ++ t).toArray Q t (putD ds x (List.range l.length) a) W) :
  (Code.region id (l ++ t).toArray true).wp P Q a w := wp_region_any hm (wpAny_rell refl trans ds D X F hck hlk hops hfin)
end
end Hach
