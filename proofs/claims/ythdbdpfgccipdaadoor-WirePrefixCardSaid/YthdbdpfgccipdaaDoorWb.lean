/- What a reader reads, what a writer writes: bytes, plain, of no program. -/
import Derived.Test.YthdbdpfgccipdaaDoorWa
import Derived.Lib.IndexMore
namespace Go.Proofs.YthdbdpfgccipdaaDoor.Num
open Go.Lib

/- the first place of a byte parts a list -/
def cutB (c : UInt8) : List UInt8 → Option (List UInt8 × List UInt8)
  | [] => none
  | x :: l => if x = c then some ([], l) else (cutB c l).map fun p => (x :: p.1, p.2)
theorem cutB_some {c : UInt8} : ∀ {l a b : List UInt8}, cutB c l = some (a, b) → l = a ++ c :: b ∧ c ∉ a
  | [], a, b, h => by cases h
  | x :: l, a, b, h => by
    unfold cutB at h
    split at h
    · rename_i e
      simp only [Option.some.injEq, Prod.mk.injEq] at h
      obtain ⟨rfl, rfl⟩ := h
      subst e
      exact ⟨rfl, by simp⟩
    · rename_i e
      match h' : cutB c l with
      | none => rw [h'] at h; cases h
      | some (a', b') =>
        rw [h'] at h
        simp only [Option.map_some, Option.some.injEq, Prod.mk.injEq] at h
        obtain ⟨rfl, rfl⟩ := h
        obtain ⟨h1, h2⟩ := cutB_some h'
        subst h1
        refine ⟨rfl, fun hm => ?_⟩
        rcases List.mem_cons.1 hm with hm | hm
        · exact e hm.symm
        · exact h2 hm
theorem cutB_at {c : UInt8} : ∀ (a b : List UInt8), c ∉ a → cutB c (a ++ c :: b) = some (a, b)
  | [], b, _ => by simp [cutB]
  | x :: a, b, h => by
    have h1 : ¬ x = c := fun e => h (by rw [e]; exact List.mem_cons_self)
    simp only [List.cons_append, cutB]
    rw [if_neg h1, cutB_at a b (fun hm => h (List.mem_cons_of_mem _ hm))]
    rfl
theorem cutB_none {c : UInt8} : ∀ {l : List UInt8}, cutB c l = none ↔ c ∉ l
  | [] => by simp [cutB]
  | x :: l => by
    simp only [cutB]
    split
    · rename_i e; subst e; simp
    · rename_i e
      simp only [Option.map_eq_none_iff, List.mem_cons, not_or]
      rw [cutB_none]
      exact ⟨fun h => ⟨fun e' => e e'.symm, h⟩, fun h => h.2⟩
theorem cut_one (c : UInt8) (l : List UInt8) : cut l [c] = match cutB c l with | some (a, b) => (a, b, true) | none => (l, [], false) := by
  match h : cutB c l with
  | some (a, b) =>
    obtain ⟨rfl, hn⟩ := cutB_some h
    have hi : index (a ++ c :: b) [c] = a.length := index_first (by simp) (by simp [occAt]) (fun j hj => by
      unfold occAt
      rw [List.drop_append_of_le_length (by omega)]
      have : a.drop j = a[j] :: a.drop (j + 1) := List.drop_eq_getElem_cons hj
      rw [this]
      simp only [List.cons_append, List.isPrefixOf, Bool.and_true, beq_eq_false_iff_ne]
      intro e
      exact hn (by rw [e]; exact List.getElem_mem hj))
    unfold cut
    rw [hi, if_pos (by omega)]
    simp
  | none =>
    have hn := cutB_none.1 h
    have hi : index l [c] = -1 := index_none (fun j hj => by
      unfold occAt
      match h' : l.drop j with
      | [] => rfl
      | x :: r =>
        simp only [List.isPrefixOf, Bool.and_true, beq_eq_false_iff_ne]
        intro e
        subst e
        exact hn (List.mem_of_mem_drop (by rw [h']; exact List.mem_cons_self)))
    unfold cut
    rw [hi, if_neg (by decide)]

/- readers -/
def rdNum (e : UInt8) (l : List UInt8) : Option (Int × List UInt8) := match cutB e l with | none => none | some (d, r) => (num d).map fun v => (v, r)
def rdInt (l : List UInt8) : Option (Int × List UInt8) := rdNum 59 l
def rdText (l : List UInt8) : Option (List UInt8 × List UInt8) := match rdNum 58 l with | none => none | some (n, r) => if n < 0 ∨ (r.length : Int) < n then none else some (r.take n.toNat, r.drop n.toNat)
def rdElems {α : Type} (f : List UInt8 → Option (α × List UInt8)) : Nat → List UInt8 → Option (List α × List UInt8)
  | 0, _ => none
  | _ + 1, [] => none
  | k + 1, c :: r => if c = 93 then some ([], r) else match f (c :: r) with | none => none | some (x, r') => (rdElems f k r').map fun p => (x :: p.1, p.2)
def rdList {α : Type} (f : List UInt8 → Option (α × List UInt8)) : List UInt8 → Option (List α × List UInt8)
  | [] => none
  | c :: r => if c = 91 then rdElems f (r.length + 1) r else none

/- writers -/
def wrInt (v : Int) : List UInt8 := itoa v ++ [59]
def wrText (s : List UInt8) : List UInt8 := itoa (s.length : Int) ++ 58 :: s
def wrList {α : Type} (g : α → List UInt8) (l : List α) : List UInt8 := 91 :: ((l.map g).flatten ++ [93])

/- a writer and its reader -/
structure Twin {α : Type} (f : List UInt8 → Option (α × List UInt8)) (g : α → List UInt8) (V : α → Prop) : Prop where
  back : ∀ v r, V v → f (g v ++ r) = some (v, r)
  sole : ∀ l v r, f l = some (v, r) → V v ∧ l = g v ++ r
  ne : ∀ v, g v ≠ []
  first : ∀ v, (g v).head? ≠ some 93

theorem not_mem_itoa {c : UInt8} (h : ¬ (c.toNat = 45 ∨ (48 ≤ c.toNat ∧ c.toNat ≤ 57))) (v : Int) : c ∉ itoa v := fun hm => h (itoa_mem hm)
theorem rdNum_back (e : UInt8) (he : ¬ (e.toNat = 45 ∨ (48 ≤ e.toNat ∧ e.toNat ≤ 57))) {v : Int} (hv : InI v) (r : List UInt8) : rdNum e (itoa v ++ e :: r) = some (v, r) := by
  unfold rdNum
  rw [cutB_at _ _ (not_mem_itoa he v)]
  simp only
  rw [num_itoa hv]
  rfl
theorem rdNum_only {e : UInt8} {l r : List UInt8} {v : Int} (h : rdNum e l = some (v, r)) : InI v ∧ l = itoa v ++ e :: r := by
  unfold rdNum at h
  match h' : cutB e l with
  | none => rw [h'] at h; cases h
  | some (d, b) =>
    rw [h'] at h
    simp only at h
    match h2 : num d with
    | none => rw [h2] at h; cases h
    | some u =>
      rw [h2] at h
      simp only [Option.map_some, Option.some.injEq, Prod.mk.injEq] at h
      obtain ⟨rfl, rfl⟩ := h
      obtain ⟨e1, hv⟩ := num_some h2
      obtain ⟨e2, _⟩ := cutB_some h'
      exact ⟨hv, by rw [e2, e1]⟩
theorem head_itoa (v : Int) (r : List UInt8) : (itoa v ++ r).head? ≠ some 93 := by
  match h : itoa v with
  | [] => exact absurd h (itoa_ne_nil v)
  | c :: t =>
    have := itoa_mem (v := v) (c := c) (by rw [h]; exact List.mem_cons_self)
    simp only [List.cons_append, List.head?_cons, ne_eq, Option.some.injEq]
    intro e
    subst e
    exact absurd this (by decide)
theorem twinInt : Twin rdInt wrInt InI where
  back v r hv := by
    unfold rdInt wrInt
    rw [List.append_assoc]
    exact rdNum_back 59 (by decide) hv r
  sole l v r h := by
    obtain ⟨hv, e⟩ := rdNum_only h
    exact ⟨hv, by rw [e]; unfold wrInt; rw [List.append_assoc]; rfl⟩
  ne v := by unfold wrInt; simp
  first v := head_itoa v _
theorem twinText : Twin rdText wrText (fun s => InI (s.length : Int)) where
  back s r hs := by
    unfold rdText wrText
    rw [List.append_assoc, List.cons_append, rdNum_back 58 (by decide) hs]
    simp only
    rw [if_neg (by rw [List.length_append]; omega), Int.toNat_natCast, List.take_left, List.drop_left]
  sole l s r h := by
    unfold rdText at h
    match h' : rdNum 58 l with
    | none => rw [h'] at h; cases h
    | some (n, b) =>
      rw [h'] at h
      simp only at h
      split at h
      · cases h
      · rename_i hn
        simp only [Option.some.injEq, Prod.mk.injEq] at h
        obtain ⟨rfl, rfl⟩ := h
        obtain ⟨hv, e⟩ := rdNum_only h'
        have hl : ((b.take n.toNat).length : Int) = n := by rw [List.length_take]; omega
        refine ⟨by rw [hl]; exact hv, ?_⟩
        unfold wrText
        rw [hl, e, List.append_assoc, List.cons_append, List.take_append_drop]
  ne v := by unfold wrText; simp
  first v := head_itoa _ _
variable {α : Type} {f : List UInt8 → Option (α × List UInt8)} {g : α → List UInt8} {V : α → Prop}
theorem Twin.less (T : Twin f g V) {l r : List UInt8} {v : α} (h : f l = some (v, r)) : r.length < l.length := by
  obtain ⟨_, e⟩ := T.sole l v r h
  have := List.length_pos_iff.2 (T.ne v)
  rw [e, List.length_append]; omega
theorem elems_back (T : Twin f g V) : ∀ (l : List α) (k : Nat) (r : List UInt8), (∀ v ∈ l, V v) → ((l.map g).flatten ++ 93 :: r).length ≤ k → rdElems f k ((l.map g).flatten ++ 93 :: r) = some (l, r)
  | [], k, r, _, hk => by
    match k, hk with
    | k + 1, _ => simp [rdElems]
  | v :: l, k, r, hV, hk => by
    have hne := T.ne v
    have hfst := T.first v
    have hb := T.back v ((l.map g).flatten ++ 93 :: r) (hV v List.mem_cons_self)
    simp only [List.map_cons, List.flatten_cons, List.append_assoc] at hk ⊢
    match hg : g v with
    | [] => exact absurd hg hne
    | c :: t =>
      rw [hg] at hb hk hfst
      match k, hk with
      | 0, hk => simp at hk
      | k + 1, hk =>
        simp only [List.cons_append, rdElems] at hb ⊢
        rw [if_neg (by simpa using hfst), hb]
        simp only
        rw [elems_back T l k r (fun x hx => hV x (List.mem_cons_of_mem _ hx)) (by simp only [List.cons_append, List.length_cons, List.length_append] at hk ⊢; omega)]
        rfl
theorem elems_only (T : Twin f g V) : ∀ (k : Nat) (b : List UInt8) (l : List α) (r : List UInt8), rdElems f k b = some (l, r) → (∀ v ∈ l, V v) ∧ b = (l.map g).flatten ++ 93 :: r
  | 0, b, l, r, h => by cases h
  | k + 1, [], l, r, h => by cases h
  | k + 1, c :: b, l, r, h => by
    unfold rdElems at h
    split at h
    · rename_i e
      simp only [Option.some.injEq, Prod.mk.injEq] at h
      obtain ⟨rfl, rfl⟩ := h
      subst e
      exact ⟨fun _ h => (by cases h), rfl⟩
    · match h' : f (c :: b) with
      | none => rw [h'] at h; cases h
      | some (x, r') =>
        rw [h'] at h
        simp only at h
        match h2 : rdElems f k r' with
        | none => rw [h2] at h; cases h
        | some (xs, r2) =>
          rw [h2] at h
          simp only [Option.map_some, Option.some.injEq, Prod.mk.injEq] at h
          obtain ⟨rfl, rfl⟩ := h
          obtain ⟨i1, i2⟩ := elems_only T k r' xs r2 h2
          obtain ⟨j1, j2⟩ := T.sole _ _ _ h'
          refine ⟨fun v hv => ?_, ?_⟩
          · rcases List.mem_cons.1 hv with rfl | hv
            · exact j1
            · exact i1 v hv
          · rw [j2, i2]; simp
theorem twinList (T : Twin f g V) : Twin (rdList f) (wrList g) (fun l => ∀ v ∈ l, V v) where
  back l r hl := by
    unfold wrList rdList
    simp only [List.cons_append]
    rw [if_pos trivial]
    have := elems_back T l (((l.map g).flatten ++ 93 :: r).length + 1) r hl (by omega)
    simpa using this
  sole b l r h := by
    cases b with
    | nil => cases h
    | cons c b =>
      simp only [rdList] at h
      split at h
      · rename_i e
        subst e
        obtain ⟨i1, i2⟩ := elems_only T _ b l r h
        exact ⟨i1, by rw [i2]; simp [wrList]⟩
      · cases h
  ne l := by unfold wrList; simp
  first l := by unfold wrList; simp
/- nothing shorter is read; nothing else begins so -/
theorem Twin.cut_none (T : Twin f g V) {v : α} (hv : V v) {p q : List UInt8} (h : g v = p ++ q) (hq : q ≠ []) : f p = none := by
  match h' : f p with
  | none => rfl
  | some (u, r) =>
    obtain ⟨hu, e⟩ := T.sole p u r h'
    have b1 := T.back v [] hv
    have b2 := T.back u (r ++ q) hu
    rw [List.append_nil, h, e, List.append_assoc, b2] at b1
    simp only [Option.some.injEq, Prod.mk.injEq, List.append_eq_nil_iff] at b1
    exact absurd b1.2.2 hq
theorem Twin.begins (T : Twin f g V) {v u : α} (hv : V v) (hu : V u) {q : List UInt8} (h : g v = g u ++ q) : v = u ∧ q = [] := by
  have b1 := T.back v [] hv
  have b2 := T.back u q hu
  rw [List.append_nil, h, b2] at b1
  simp only [Option.some.injEq, Prod.mk.injEq] at b1
  exact ⟨b1.1.symm, b1.2⟩
end Go.Proofs.YthdbdpfgccipdaaDoor.Num
