/- The law of regions that draw their order, where what stays true is not that all old memory stays, but a relation of one's own (a block may be written). -/
import Derived.Test.YtggkkjnfonbpkaaGreatDoorQMono

set_option linter.unusedSimpArgs false
set_option linter.unusedVariables false
namespace Hach
open Go Go.RowKit
section
variable {P : Program}
structure SPr (E : World → World → Prop) where
  p : Value → World → Prop
  st : ∀ {v W W'}, p v W → E W W' → p v W'
variable {E : World → World → Prop}
def eqr (c : Value) : SPr E := ⟨fun v _ => v = c, fun h _ => h⟩
def anyr : SPr E := ⟨fun _ _ => True, fun _ _ => trivial⟩
def FofR (F : List (SPr E)) (k : Nat) (v : Value) (W : World) : Prop := (F.getD k anyr).p v W
def KnownR (F : List (SPr E)) (x : Nat → Value) (W : World) : List Nat → Prop
  | [] => True
  | k :: ks => (F.getD k anyr).p (x k) W ∧ KnownR F x W ks
theorem knownR_of {F : List (SPr E)} {x : Nat → Value} {W : World} : ∀ {ks : List Nat}, (∀ k ∈ ks, (F.getD k anyr).p (x k) W) → KnownR F x W ks
  | [], _ => trivial
  | k :: _, h => ⟨h k (List.mem_cons_self ..), knownR_of fun j hj => h j (List.mem_cons_of_mem _ hj)⟩
def OpsOkR (P : Program) (ds : List (Option Tmp)) (a : Act) (w : World) (F : List (SPr E)) (D : List (List Nat)) : Nat → List Oper → Prop
  | _, [] => True
  | i, o :: l => (∀ (x : Nat → Value) (W : World), E w W → KnownR F x W (D.getD i []) → OpGoal P ds o (fun v W' => E W W' ∧ (F.getD i anyr).p v W') (putD ds x (D.getD i []) a) W) ∧ OpsOkR P ds a w F D (i + 1) l
theorem OpsOkR.at_ {ds : List (Option Tmp)} {a : Act} {w : World} {F : List (SPr E)} {D : List (List Nat)} : ∀ {l : List Oper} {i : Nat}, OpsOkR P ds a w F D i l → ∀ (j : Nat) (o : Oper), l[j]? = some o → ∀ (x : Nat → Value) (W : World), E w W → KnownR F x W (D.getD (i + j) []) →
      OpGoal P ds o (fun v W' => E W W' ∧ (F.getD (i + j) anyr).p v W') (putD ds x (D.getD (i + j) []) a) W
  | [], _, _, j, o, h => by simp at h
  | o' :: l, i, hk, j, o, h => by
    cases j with
    | zero =>
      simp only [List.getElem?_cons_zero, Option.some.injEq] at h
      subst h
      exact hk.1
    | succ j =>
      have := OpsOkR.at_ hk.2 j o (by simpa using h)
      rw [show i + 1 + j = i + (j + 1) by omega] at this
      exact this
theorem wpAny_rel (refl : ∀ w, E w w) (trans : ∀ {u v w : World}, E u v → E v w → E u w) {l t : List Oper} {Q : Exit → Act → World → Prop} {a : Act} {w : World} (ds : List (Option Tmp)) (D : List (List Nat)) (X : List Nat) (F : List (SPr E))
    (hck : (monoOk (l ++ t).toArray a.tmps.size && depsOk (l ++ t).toArray D && ((l ++ t).map (·.dst) == ds) && tailOk (l ++ t).toArray l.length X) = true) (hops : OpsOkR P ds a w.drew F D 0 l)
    (hfin : ∀ (x : Nat → Value) (W : World), E w.drew W → KnownR F x W (List.range l.length) → wpList P (l ++ t).toArray Q t (putD ds x (List.range l.length) a) W) :
    wpAny P .any (l ++ t).toArray Q (l ++ t).toArray.size (Array.replicate (l ++ t).toArray.size false) a w.drew := by
  simp only [Bool.and_eq_true] at hck
  obtain ⟨⟨⟨hc1, hc2⟩, hc3⟩, hc4⟩ := hck
  have m := mono_of hc1
  refine wpAny_mono l.length X hc1 (by simp) hc4 E refl (@trans) (FofR F) (fun h hE => (F.getD _ anyr).st h hE) ?_ ?_
  · intro i o ho hi x W hE hp
    obtain ⟨hs, hlk⟩ := look_same m hc2 (Nat.le_refl _) x ho
    have hg := hops.at_ i o (by simpa [List.getElem?_append_left hi] using ho) x W hE (knownR_of fun k hk => by rw [Nat.zero_add] at hk; exact hp k (hs k hk))
    rw [Nat.zero_add] at hg
    have hg := hg.use hc3 (fun d hd => by rw [← putD_eq hc3, (putAll_size _ _ _ _).1]; exact (m.one i d (lt_of_some ho) (by simp only [dstOf, ho, Option.bind_some]; exact hd)).2)
    rw [← putD_eq hc3] at hg
    rw [← wanted_of_look hlk, ← exec_of_look (m.sel i o ho) hlk] at hg
    split
    · rename_i hw; rw [if_pos hw] at hg; exact hg
    · rename_i hw; rw [if_neg hw] at hg; exact hg.2
  · intro x W hE h
    have hf := hfin x W hE (knownR_of fun k hk => h k (List.mem_range.1 hk))
    rw [← putD_eq hc3] at hf
    have e : (l ++ t).toArray.size - l.length = t.length := by simp
    rw [e, wpOps_eq_wpList t l.length (fun j => by simp [List.getElem?_append_right])]
    exact hf
theorem wp_region_rel (refl : ∀ w, E w w) (trans : ∀ {u v w : World}, E u v → E v w → E u w) {l t : List Oper} {Q : Exit → Act → World → Prop} {id : Nat} {a : Act} {w : World} (ds : List (Option Tmp)) (D : List (List Nat)) (X : List Nat) (F : List (SPr E)) (hm : P.follows .mixedOrders = true)
    (hck : (monoOk (l ++ t).toArray a.tmps.size && depsOk (l ++ t).toArray D && ((l ++ t).map (·.dst) == ds) && tailOk (l ++ t).toArray l.length X) = true) (hops : OpsOkR P ds a w.drew F D 0 l)
    (hfin : ∀ (x : Nat → Value) (W : World), E w.drew W → KnownR F x W (List.range l.length) → wpList P (l ++ t).toArray Q t (putD ds x (List.range l.length) a) W) :
    (Code.region id (l ++ t).toArray true).wp P Q a w := wp_region_any hm (wpAny_rel refl trans ds D X F hck hops hfin)
end
end Hach

/- The law of regions that draw their order, where an operation may panic: whatever has come by then, what is said of the panic must suffice. -/
namespace Hach
open Go Go.RowKit
section
variable {P : Program}
def GivesZ (P : Program) (Z : List PanicEntry → World → Prop) (R : Value → World → Prop) : Result Next → Prop
  | .ok (.value v) w' => R v w'
  | .ok .skip w' => R undef w'
  | .ok (.enter f args) w' => Calls P f args w' fun e w'' => match e with
      | .returned v => R v w''
      | .panicked ch => Z ch w''
      | _ => False
  | .ok (.row row args) w' => Rows P row args w' R
  | _ => False
theorem givesZ_enter (Z : List PanicEntry → World → Prop) (R : Value → World → Prop) (f : FuncId) (args : Array Value) (w : World) : GivesZ P Z R (.ok (.enter f args) w) = Calls P f args w fun e w'' => match e with
      | .returned v => R v w''
      | .panicked ch => Z ch w''
      | _ => False := rfl
attribute [go_sem] givesZ_enter
theorem Gives.toZ {Z : List PanicEntry → World → Prop} {R : Value → World → Prop} {r : Result Next} (h : Gives P R r) : GivesZ P Z R r := by
  cases r with
  | ok n w' =>
    cases n <;> simp only [Gives] at h <;> simp only [GivesZ]
    case value v => exact h
    case skip => exact h
    case enter f args => exact Calls.mono h (fun e w'' he => by cases e <;> first | exact he | exact he.elim)
    case row row args => exact h
  | halt x w' => exact (h : False).elim
theorem GivesZ.upon {o : Oper} {a : Act} {Z : List PanicEntry → World → Prop} {R : Value → World → Prop} {K : Act → World → Prop} {Q : Exit → Act → World → Prop} {r : Result Next} (h : GivesZ P Z R r) (hz : ∀ ch w, Z ch w → Q (.panic ch) a w) (hk : ∀ v w, R v w → K (a.put o.dst v) w) : o.upon P a K Q r := by
  cases r with
  | ok n w' =>
    cases n <;> simp only [GivesZ] at h <;> simp only [Oper.upon]
    case value v => exact hk _ _ h
    case skip => exact hk _ _ h
    case enter f args => exact Calls.mono h (fun e w'' he => by cases e <;> first | exact hk _ _ he | exact hz _ _ he | exact he.elim)
    case row row args => exact Rows.mono h (fun v w'' he => hk _ _ he)
  | halt x w' => exact (h : False).elim
/- THE LAW. E: what may become of the world; F k: what the value of the operation k is like; from the operation M on all is walked in the text's order. -/
theorem wpAny_monoZ (Z : List PanicEntry → World → Prop) {ops : Array Oper} {Q : Exit → Act → World → Prop} {a : Act} {w : World} (M : Nat) (X : List Nat) (hck : monoOk ops a.tmps.size = true) (hM : M ≤ ops.size) (htl : tailOk ops M X = true)
    (E : World → World → Prop) (hr : ∀ w, E w w) (ht : ∀ {u v w}, E u v → E v w → E u w) (F : Nat → Value → World → Prop) (hF : ∀ {i v W W'}, F i v W → E W W' → F i v W')
    (hops : ∀ (i : Nat) (o : Oper), ops[i]? = some o → i < M → ∀ (x : Nat → Value) W, E w.drew W → (∀ k ∈ preds o, F k (x k) W) →
      if Region.wanted o (yielded ops (putAll ops x (preds o) a).tmps) then GivesZ P Z (fun v W' => E W W' ∧ F i v W') ((execOp (putAll ops x (preds o) a).eval o).run P W) else F i undef W)
    (hz : ∀ (a' : Act) ch W, a'.defers = a.defers → Z ch W → Q (.panic ch) a' W)
    (hfin : ∀ (x : Nat → Value) W, E w.drew W → (∀ k, k < M → F k (x k) W) → wpOps P ops Q (List.range' M (ops.size - M)) (putAll ops x (List.range M) a) W) :
    wpAny P .any ops Q ops.size (Array.replicate ops.size false) a w.drew := by
  have m := mono_of hck
  refine wpAny_inv
    (fun l a' W => (∃ x, Come ops a E F w.drew l a' W x ∧ ∀ k, M ≤ k → k < ops.size → l.getD k true = false) ∨
      (l.size = ops.size ∧ ∃ i, M ≤ i ∧ i ≤ ops.size ∧ (∀ k, k < i → l.getD k true = true) ∧ (∀ k, i ≤ k → k < ops.size → l.getD k true = false) ∧ wpOps P ops Q (List.range' i (ops.size - i)) a' W))
    ?_ ?_ ?_ _ _ _ _ (Nat.le_trans (List.countP_le_length) (by simp)) ?_
  · rintro l a' W (⟨x, c, _⟩ | ⟨h, _⟩)
    · exact c.lsz
    · exact h
  · -- a tail operation, walked
    have htail : ∀ (l : Array Bool) (a' : Act) (W : World) (i : Nat), l.size = ops.size → M ≤ i → i < ops.size → (∀ k, k < i → l.getD k true = true) → (∀ k, i ≤ k → k < ops.size → l.getD k true = false) →
        wpOps P ops Q (List.range' i (ops.size - i)) a' W →
        wpOp P ops Q i (fun a'' W' => (∃ x, Come ops a E F w.drew (l.setIfInBounds i true) a'' W' x ∧ ∀ k, M ≤ k → k < ops.size → (l.setIfInBounds i true).getD k true = false) ∨
      ((l.setIfInBounds i true).size = ops.size ∧ ∃ i', M ≤ i' ∧ i' ≤ ops.size ∧ (∀ k, k < i' → (l.setIfInBounds i true).getD k true = true) ∧ (∀ k, i' ≤ k → k < ops.size → (l.setIfInBounds i true).getD k true = false) ∧ wpOps P ops Q (List.range' i' (ops.size - i')) a'' W')) a' W := by
      intro l a' W i hsz hMi hin h1 h2 hw
      rw [show ops.size - i = (ops.size - (i + 1)) + 1 by omega, List.range'_succ, wpOps_cons] at hw
      refine wpOp_mono (fun a'' W' h => .inr ⟨by simp [hsz], i + 1, by omega, by omega, fun k hk => ?_, fun k hk hk2 => ?_, h⟩) hw
      · by_cases e : i = k
        · subst e; simp [Array.getD_eq_getD_getElem?, hsz, hin]
        · rw [Array.getD_eq_getD_getElem?, Array.getElem?_setIfInBounds_ne e, ← Array.getD_eq_getD_getElem?]; exact h1 k (by omega)
      · rw [Array.getD_eq_getD_getElem?, Array.getElem?_setIfInBounds_ne (by omega), ← Array.getD_eq_getD_getElem?]; exact h2 k (by omega) hk2
    rintro l a' W i (⟨x, c, hno⟩ | ⟨hsz, i', hMi, hi', h1, h2, hw⟩) hi
    · obtain ⟨o, ho, hli, hp⟩ := ready_iff.1 hi
      have hin := lt_of_some ho
      have hpl : ∀ p ∈ preds o, p < ops.size := fun p hp' => Nat.lt_trans (m.lt i o ho p hp') hin
      have hpt : ∀ p ∈ preds o, l.getD p true = true := fun p hp' => by rw [getD_lt (by rw [c.lsz]; exact hpl p hp') true false]; exact hp p hp'
      by_cases hiM : i < M
      · have hlook : ∀ t ∈ o.looksAt ops, a'.tmps[t]? = (putAll ops x (preds o) a).tmps[t]? := fun t ht' => by
          rw [c.get t, putAll_get m x t _ a (Nat.le_refl _) hpl]
          cases hw : wr ops t with
          | none => rfl
          | some k =>
            rcases m.look i o ho t ht' k hw with h | h | ⟨ok, hok, h⟩
            · simp [h, hpt k h]
            · subst h
              have hni : ¬ k ∈ preds o := fun h => absurd (m.lt k o ho k h) (Nat.lt_irrefl _)
              simp [hni, hli]
            · have hkl : l.getD k true = false := by
                cases hc : l.getD k true with
                | false => rfl
                | true => have := c.shut k ok hok hc i h; rw [hli] at this; cases this
              have hnk : ¬ k ∈ preds o := fun h' => by have := hpt k h'; rw [hkl] at this; cases this
              simp [hnk, hkl]
        have hex := exec_of_look (m.sel i o ho) hlook
        have hwa := wanted_of_look hlook
        have hval : ∀ k ∈ preds o, F k (x k) W := fun k hk => c.val k (hpl k hk) (hpt k hk)
        have hshut : ∀ (k : Nat) (o' : Oper), ops[k]? = some o' → (l.setIfInBounds i true).getD k true = true → ∀ p ∈ preds o', (l.setIfInBounds i true).getD p true = true := fun k o' ho' hk p hp' => by
          by_cases e : i = p
          · subst e; simp [Array.getD_eq_getD_getElem?, c.lsz, hin]
          · rw [Array.getD_eq_getD_getElem?, Array.getElem?_setIfInBounds_ne e, ← Array.getD_eq_getD_getElem?]
            by_cases e2 : i = k
            · subst e2; rw [ho] at ho'; cases ho'; exact hpt p hp'
            · rw [Array.getD_eq_getD_getElem?, Array.getElem?_setIfInBounds_ne e2, ← Array.getD_eq_getD_getElem?] at hk
              exact c.shut k o' ho' hk p hp'
        have hg := hops i o ho hiM x W c.ext hval
        have hnext : ∀ v W', E W W' → F i v W' → Come ops a E F w.drew (l.setIfInBounds i true) (a'.put o.dst v) W' (fun k => if k = i then v else x k) := fun v W' hE hv => by
          have hdi : o.dst = dstOf ops i := by simp [dstOf, ho]
          refine ⟨ht c.ext hE, by simp [c.lsz], ?_, ?_, hshut, fun k hk hlk => ?_, fun t => ?_⟩
          · rw [← c.dfs]; cases o.dst <;> rfl
          · rw [← c.asz]; cases o.dst <;> simp [Act.put]
          · by_cases e : k = i
            · subst e; simpa using hv
            · simp only [e, if_false]
              rw [Array.getD_eq_getD_getElem?, Array.getElem?_setIfInBounds_ne (Ne.symm e), ← Array.getD_eq_getD_getElem?] at hlk
              exact hF (c.val k hk hlk) hE
          · rw [hdi, put_get m (by rw [c.asz]; exact Nat.le_refl _) hin v t, c.get t]
            cases hw : wr ops t with
            | none => simp
            | some k =>
              by_cases e : k = i
              · subst e; simp [Array.getD_eq_getD_getElem?, c.lsz, hin]
              · simp only [Option.some.injEq, e, if_false]
                rw [Array.getD_eq_getD_getElem? (i := k) (xs := l.setIfInBounds i true), Array.getElem?_setIfInBounds_ne (Ne.symm e), ← Array.getD_eq_getD_getElem?]
        have hno' : ∀ k, M ≤ k → k < ops.size → (l.setIfInBounds i true).getD k true = false := fun k hk hk2 => by
          rw [Array.getD_eq_getD_getElem?, Array.getElem?_setIfInBounds_ne (by omega), ← Array.getD_eq_getD_getElem?]; exact hno k hk hk2
        unfold wpOp
        rw [ho]
        simp only []
        rw [hwa]
        split
        · rename_i hw
          rw [if_pos hw] at hg
          rw [← hex] at hg
          exact .inl (hg.upon (fun ch w' hzz => hz a' ch w' c.dfs hzz) fun v W' hv => .inl ⟨_, hnext v W' hv.1 hv.2, hno'⟩)
        · rename_i hw
          rw [if_neg hw] at hg
          exact .inl ⟨_, hnext undef W (hr W) hg, hno'⟩
      · -- the first of the tail
        have hall := tail_all htl c.shut ho (Nat.le_of_not_lt hiM) hpt
        have hiM2 : i = M := by
          by_cases e : i = M
          · exact e
          · have := hall M (by omega); rw [hno M (Nat.le_refl _) (by omega)] at this; cases this
        subst hiM2
        have ha := c.first m (Nat.le_refl _) hM hall hno
        have hf := hfin x W c.ext (fun k hk => c.val k (by omega) (hall k hk))
        rw [← ha] at hf
        exact htail l a' W i c.lsz (Nat.le_refl _) hin hall hno hf
    · obtain ⟨o, ho, hli, hp⟩ := ready_iff.1 hi
      have hin := lt_of_some ho
      have hge : i' ≤ i := by
        rcases Nat.lt_or_ge i i' with h | h
        · rw [h1 i h] at hli; cases hli
        · exact h
      have hii : i = i' := by
        by_cases e : i = i'
        · exact e
        · exfalso
          have h3 := List.all_eq_true.1 htl (i - 1) (List.mem_range.2 (by omega))
          rw [if_neg (by omega), show i - 1 + 1 = i by omega, ho] at h3
          have := hp (i - 1) (by simpa using h3)
          rw [getD_lt (by omega) false true, h2 (i - 1) (by omega) (by omega)] at this
          cases this
      subst hii
      exact htail l a' W i hsz hMi hin h1 h2 hw
  · rintro l a' W (⟨x, c, hno⟩ | ⟨hsz, i', hMi, hi', h1, h2, hw⟩) hn
    · have hall := all_of_none m c.lsz hn
      have hMe : M = ops.size := by
        by_cases e : M = ops.size
        · exact e
        · have := hno M (Nat.le_refl _) (by omega); rw [hall M (by omega)] at this; cases this
      have ha := c.first m (Nat.le_refl _) hM (fun k hk => hall k (by omega)) hno
      have hf := hfin x W c.ext (fun k hk => c.val k (by omega) (hall k (by omega)))
      rw [← ha, hMe, Nat.sub_self] at hf
      exact hf
    · have hall := all_of_none m hsz hn
      have hie : i' = ops.size := by
        by_cases e : i' = ops.size
        · exact e
        · have := h2 i' (Nat.le_refl _) (by omega); rw [hall i' (by omega)] at this; cases this
      subst hie
      rw [Nat.sub_self] at hw
      exact hw
  · refine .inl ⟨fun _ => undef, ⟨hr _, by simp, rfl, rfl, fun k o ho hk => ?_, fun k hk hlk => ?_, fun t => ?_⟩, fun k _ hk => ?_⟩
    · simp [Array.getD_eq_getD_getElem?, lt_of_some ho] at hk
    · simp [Array.getD_eq_getD_getElem?, hk] at hlk
    · cases hw : wr ops t with
      | none => rfl
      | some k => simp [Array.getD_eq_getD_getElem?, (wr_some hw).1]
    · simp [Array.getD_eq_getD_getElem?, hk]

variable {E : World → World → Prop}
def OpGoalZ (P : Program) (Z : List PanicEntry → World → Prop) (ds : List (Option Tmp)) (o : Oper) (R : Value → World → Prop) (c : Act) (W : World) : Prop := OpGoal P ds o R c W ∨ (o.guard = none ∧ GivesZ P Z R ((execOp c.eval o).run P W))
theorem OpGoalZ.use {Z : List PanicEntry → World → Prop} {l : List Oper} {ds : List (Option Tmp)} (h : (l.map (·.dst) == ds) = true) {o : Oper} {R : Value → World → Prop} {c : Act} {W : World} (hd : ∀ d, o.dst = some d → d < c.tmps.size) (hg : OpGoalZ P Z ds o R c W) :
    if Region.wanted o (yielded l.toArray c.tmps) then GivesZ P Z R ((execOp c.eval o).run P W) else R undef W := by
  rcases hg with hg | ⟨hgd, hg⟩
  · have h1 := hg.use h hd
    split
    · rename_i hw; rw [if_pos hw] at h1; exact h1.toZ
    · rename_i hw; rw [if_neg hw] at h1; exact h1
  · have hw : Region.wanted o (yielded l.toArray c.tmps) = true := by unfold Region.wanted; rw [hgd]
    rw [if_pos hw]; exact hg
def OpsOkZ (P : Program) (Z : List PanicEntry → World → Prop) (ds : List (Option Tmp)) (a : Act) (w : World) (F : List (SPr E)) (D : List (List Nat)) : Nat → List Oper → Prop
  | _, [] => True
  | i, o :: l => (∀ (x : Nat → Value) (W : World), E w W → KnownR F x W (D.getD i []) → OpGoalZ P Z ds o (fun v W' => E W W' ∧ (F.getD i anyr).p v W') (putD ds x (D.getD i []) a) W) ∧ OpsOkZ P Z ds a w F D (i + 1) l
theorem OpsOkZ.at_ {Z : List PanicEntry → World → Prop} {ds : List (Option Tmp)} {a : Act} {w : World} {F : List (SPr E)} {D : List (List Nat)} : ∀ {l : List Oper} {i : Nat}, OpsOkZ P Z ds a w F D i l → ∀ (j : Nat) (o : Oper), l[j]? = some o → ∀ (x : Nat → Value) (W : World), E w W → KnownR F x W (D.getD (i + j) []) →
      OpGoalZ P Z ds o (fun v W' => E W W' ∧ (F.getD (i + j) anyr).p v W') (putD ds x (D.getD (i + j) []) a) W
  | [], _, _, j, o, h => by simp at h
  | o' :: l, i, hk, j, o, h => by
    cases j with
    | zero =>
      simp only [List.getElem?_cons_zero, Option.some.injEq] at h
      subst h
      exact hk.1
    | succ j =>
      have := OpsOkZ.at_ hk.2 j o (by simpa using h)
      rw [show i + 1 + j = i + (j + 1) by omega] at this
      exact this
theorem wpAny_relZ (Z : List PanicEntry → World → Prop) (refl : ∀ w, E w w) (trans : ∀ {u v w : World}, E u v → E v w → E u w) {l t : List Oper} {Q : Exit → Act → World → Prop} {a : Act} {w : World} (ds : List (Option Tmp)) (D : List (List Nat)) (X : List Nat) (F : List (SPr E))
    (hck : (monoOk (l ++ t).toArray a.tmps.size && depsOk (l ++ t).toArray D && ((l ++ t).map (·.dst) == ds) && tailOk (l ++ t).toArray l.length X) = true) (hops : OpsOkZ P Z ds a w.drew F D 0 l)
    (hz : ∀ (a' : Act) ch W, a'.defers = a.defers → Z ch W → Q (.panic ch) a' W)
    (hfin : ∀ (x : Nat → Value) (W : World), E w.drew W → KnownR F x W (List.range l.length) → wpList P (l ++ t).toArray Q t (putD ds x (List.range l.length) a) W) :
    wpAny P .any (l ++ t).toArray Q (l ++ t).toArray.size (Array.replicate (l ++ t).toArray.size false) a w.drew := by
  simp only [Bool.and_eq_true] at hck
  obtain ⟨⟨⟨hc1, hc2⟩, hc3⟩, hc4⟩ := hck
  have m := mono_of hc1
  refine wpAny_monoZ Z l.length X hc1 (by simp) hc4 E refl (@trans) (FofR F) (fun h hE => (F.getD _ anyr).st h hE) ?_ hz ?_
  · intro i o ho hi x W hE hp
    obtain ⟨hs, hlk⟩ := look_same m hc2 (Nat.le_refl _) x ho
    have hg := hops.at_ i o (by simpa [List.getElem?_append_left hi] using ho) x W hE (knownR_of fun k hk => by rw [Nat.zero_add] at hk; exact hp k (hs k hk))
    rw [Nat.zero_add] at hg
    have hg := hg.use hc3 (fun d hd => by rw [← putD_eq hc3, (putAll_size _ _ _ _).1]; exact (m.one i d (lt_of_some ho) (by simp only [dstOf, ho, Option.bind_some]; exact hd)).2)
    rw [← putD_eq hc3] at hg
    rw [← wanted_of_look hlk, ← exec_of_look (m.sel i o ho) hlk] at hg
    split
    · rename_i hw; rw [if_pos hw] at hg; exact hg
    · rename_i hw; rw [if_neg hw] at hg; exact hg.2
  · intro x W hE h
    have hf := hfin x W hE (knownR_of fun k hk => h k (List.mem_range.1 hk))
    rw [← putD_eq hc3] at hf
    have e : (l ++ t).toArray.size - l.length = t.length := by simp
    rw [e, wpOps_eq_wpList t l.length (fun j => by simp [List.getElem?_append_right])]
    exact hf
theorem wp_region_relZ (Z : List PanicEntry → World → Prop) (refl : ∀ w, E w w) (trans : ∀ {u v w : World}, E u v → E v w → E u w) {l t : List Oper} {Q : Exit → Act → World → Prop} {id : Nat} {a : Act} {w : World} (ds : List (Option Tmp)) (D : List (List Nat)) (X : List Nat) (F : List (SPr E)) (hm : P.follows .mixedOrders = true)
    (hck : (monoOk (l ++ t).toArray a.tmps.size && depsOk (l ++ t).toArray D && ((l ++ t).map (·.dst) == ds) && tailOk (l ++ t).toArray l.length X) = true) (hops : OpsOkZ P Z ds a w.drew F D 0 l)
    (hz : ∀ (a' : Act) ch W, a'.defers = a.defers → Z ch W → Q (.panic ch) a' W)
    (hfin : ∀ (x : Nat → Value) (W : World), E w.drew W → KnownR F x W (List.range l.length) → wpList P (l ++ t).toArray Q t (putD ds x (List.range l.length) a) W) :
    (Code.region id (l ++ t).toArray true).wp P Q a w := wp_region_any hm (wpAny_relZ Z refl trans ds D X F hck hops hz hfin)
end
end Hach
