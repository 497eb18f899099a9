/- A region whose operations only make memory: it may be walked operation by operation, whatever order is drawn. For each operation one says what its value is like (F), in words that later new memory leaves true; each is walked alone, in any world in which its predecessors have come. -/
import Derived.Orders
import Derived.Tactics
import Derived.Below
import Derived.Lib.Mul64
set_option linter.unusedSimpArgs false
set_option linter.unusedVariables false
namespace Hach
open Go Go.RowKit
section
variable {P : Program}

/- the value that an operation comes to -/
def Gives (P : Program) (R : Value → World → Prop) : Result Next → Prop
  | .ok (.value v) w' => R v w'
  | .ok .skip w' => R undef w'
  | .ok (.enter f args) w' => Calls P f args w' fun e w'' => match e with
      | .returned v => R v w''
      | _ => False
  | .ok (.row row args) w' => Rows P row args w' R
  | _ => False
theorem gives_value (R : Value → World → Prop) (v : Value) (w : World) : Gives P R (.ok (.value v) w) = R v w := rfl
theorem gives_skip (R : Value → World → Prop) (w : World) : Gives P R (.ok .skip w) = R undef w := rfl
theorem gives_enter (R : Value → World → Prop) (f : FuncId) (args : Array Value) (w : World) : Gives P R (.ok (.enter f args) w) = Calls P f args w fun e w'' => match e with
      | .returned v => R v w''
      | _ => False := rfl
theorem Gives.upon {o : Oper} {a : Act} {R : Value → World → Prop} {K : Act → World → Prop} {Q : Exit → Act → World → Prop} {r : Result Next} (h : Gives P R r) (hk : ∀ v w, R v w → K (a.put o.dst v) w) : o.upon P a K Q r := by
  cases r with
  | ok n w' =>
    cases n <;> simp only [Gives] at h <;> simp only [Oper.upon]
    case value v => exact hk _ _ h
    case skip => exact hk _ _ h
    case enter f args => exact Calls.mono h (fun e w'' he => by cases e <;> first | exact hk _ _ he | exact he.elim)
    case row row args => exact Rows.mono h (fun v w'' he => hk _ _ he)
  | halt x w' => exact (h : False).elim

/- the operations that an operation waits for -/
def preds (o : Oper) : List Nat := (o.after.toList.filter (Region.binds .any)).map (·.on)
def dstOf (ops : Array Oper) (k : Nat) : Option Tmp := (ops[k]?).bind (·.dst)
/- which operation writes a slot -/
def wr (ops : Array Oper) (t : Tmp) : Option Nat := (List.range ops.size).find? fun k => dstOf ops k == some t
/- the values x of the operations ks, each in its slot -/
def putAll (ops : Array Oper) (x : Nat → Value) (ks : List Nat) (a : Act) : Act := ks.foldl (fun a k => a.put (dstOf ops k) (x k)) a

/- what is asked of a region: no slot is written twice; whoever looks at a slot waits for who writes it, or the other way round -/
def monoOk (ops : Array Oper) (N : Nat) : Bool :=
  ((List.range ops.size).all fun k => match dstOf ops k with
    | some t => wr ops t == some k && decide (t < N)
    | none => true) &&
  ((List.range ops.size).all fun i => match ops[i]? with
    | none => true
    | some o => (match o.op with
        | .select _ _ => false
        | _ => true) && ((preds o).all fun p => decide (p < i)) &&
      ((o.looksAt ops).all fun t => match wr ops t with
        | none => true
        | some k => (preds o).contains k || k == i || (match ops[k]? with
            | some ok => (preds ok).contains i
            | none => false)))
/- from the operation m on all come in the text's order: X k: one that waits for k -/
def tailOk (ops : Array Oper) (m : Nat) (X : List Nat) : Bool :=
  (List.range ops.size).all fun k => if k < m then (decide (ops.size ≤ m) || (decide (k < X.getD k 0) && decide (X.getD k 0 ≤ m) && (match ops[X.getD k 0]? with
      | some o => (preds o).contains k
      | none => false)))
    else match ops[k + 1]? with
      | some o => (preds o).contains k
      | none => true

theorem wr_some {ops : Array Oper} {t : Tmp} {k : Nat} (h : wr ops t = some k) : k < ops.size ∧ dstOf ops k = some t := by
  unfold wr at h
  have h1 := List.find?_some h
  have h2 := List.mem_of_find?_eq_some h
  exact ⟨List.mem_range.1 h2, by simpa using h1⟩

structure Mono (ops : Array Oper) (N : Nat) : Prop where
  one : ∀ k t, k < ops.size → dstOf ops k = some t → wr ops t = some k ∧ t < N
  sel : ∀ (i : Nat) (o : Oper), ops[i]? = some o → ∀ cs b, o.op ≠ .select cs b
  lt : ∀ (i : Nat) (o : Oper), ops[i]? = some o → ∀ p ∈ preds o, p < i
  look : ∀ (i : Nat) (o : Oper), ops[i]? = some o → ∀ t ∈ o.looksAt ops, ∀ k, wr ops t = some k → k ∈ preds o ∨ k = i ∨ ∃ ok, ops[k]? = some ok ∧ i ∈ preds ok

theorem lt_of_some {ops : Array Oper} {i : Nat} {o : Oper} (h : ops[i]? = some o) : i < ops.size := (Array.getElem?_eq_some_iff.1 h).1

theorem mono_of {ops : Array Oper} {N : Nat} (h : monoOk ops N = true) : Mono ops N := by
  unfold monoOk at h
  simp only [Bool.and_eq_true] at h
  obtain ⟨h1, h2⟩ := h
  have k1 : ∀ k t, k < ops.size → dstOf ops k = some t → wr ops t = some k ∧ t < N := fun k t hk hd => by
    have := List.all_eq_true.1 h1 k (List.mem_range.2 hk)
    rw [hd] at this
    simp only [Bool.and_eq_true, beq_iff_eq, decide_eq_true_eq] at this
    exact this
  have k2 : ∀ (i : Nat) (o : Oper), ops[i]? = some o → (∀ cs b, o.op ≠ .select cs b) ∧ (∀ p ∈ preds o, p < i) ∧ (∀ t ∈ o.looksAt ops, ∀ k, wr ops t = some k → k ∈ preds o ∨ k = i ∨ ∃ ok, ops[k]? = some ok ∧ i ∈ preds ok) := fun i o ho => by
    have := List.all_eq_true.1 h2 i (List.mem_range.2 (lt_of_some ho))
    rw [ho] at this
    simp only [Bool.and_eq_true] at this
    obtain ⟨⟨a, b⟩, c⟩ := this
    refine ⟨fun cs bb e => ?_, fun p hp => by simpa using List.all_eq_true.1 b p hp, fun t ht k hk => ?_⟩
    · rw [e] at a; cases a
    · have := List.all_eq_true.1 c t ht
      rw [hk] at this
      simp only [Bool.or_eq_true, List.contains_iff_mem, beq_iff_eq] at this
      rcases this with (h | h) | h
      · exact .inl h
      · exact .inr (.inl h)
      · cases hok : ops[k]? with
        | none => rw [hok] at h; cases h
        | some ok => rw [hok] at h; exact .inr (.inr ⟨ok, rfl, by simpa using h⟩)
  exact ⟨k1, fun i o ho => (k2 i o ho).1, fun i o ho => (k2 i o ho).2.1, fun i o ho => (k2 i o ho).2.2⟩

/- who comes behind m waits for all before it -/
theorem tail_all {ops : Array Oper} {m : Nat} {X : List Nat} (h : tailOk ops m X = true) {l : Array Bool} (shut : ∀ (k : Nat) (o : Oper), ops[k]? = some o → l.getD k true = true → ∀ p ∈ preds o, l.getD p true = true)
    {i : Nat} {o : Oper} (ho : ops[i]? = some o) (hi : m ≤ i) (hp : ∀ p ∈ preds o, l.getD p true = true) : ∀ k, k < i → l.getD k true = true := by
  have hin := lt_of_some ho
  have key : ∀ d k, k + d + 1 = i → l.getD k true = true := by
    intro d
    induction d using Nat.strongRecOn with
    | ind d ih =>
      intro k hk
      have h1 := List.all_eq_true.1 h k (List.mem_range.2 (by omega))
      have step : ∀ (j : Nat) (oj : Oper), ops[j]? = some oj → k < j → j ≤ i → k ∈ preds oj → l.getD k true = true := fun j oj hoj hkj hji hm => by
        by_cases e : j = i
        · subst e; rw [ho] at hoj; cases hoj; exact hp k hm
        · exact shut j oj hoj (ih (i - j - 1) (by omega) j (by omega)) k hm
      by_cases hkm : k < m
      · rw [if_pos hkm] at h1
        simp only [Bool.or_eq_true, Bool.and_eq_true, decide_eq_true_eq] at h1
        rcases h1 with h1 | ⟨⟨h1, h2⟩, h3⟩
        · omega
        · cases hoj : ops[X.getD k 0]? with
          | none => rw [hoj] at h3; cases h3
          | some oj => rw [hoj] at h3; exact step _ oj hoj h1 (by omega) (by simpa using h3)
      · rw [if_neg hkm] at h1
        cases hoj : ops[k + 1]? with
        | none => have := Array.getElem?_eq_none_iff.1 hoj; omega
        | some oj => rw [hoj] at h1; exact step _ oj hoj (by omega) (by omega) (by simpa using h1)
  exact fun k hk => key (i - k - 1) k (by omega)

theorem put_get {ops : Array Oper} {N : Nat} (m : Mono ops N) {a : Act} (hN : N ≤ a.tmps.size) {k : Nat} (hk : k < ops.size) (v : Value) (t : Tmp) :
    (a.put (dstOf ops k) v).tmps[t]? = if wr ops t = some k then some v else a.tmps[t]? := by
  cases hd : dstOf ops k with
  | none =>
    rw [if_neg]
    · rfl
    · intro h; have := (wr_some h).2; rw [hd] at this; cases this
  | some d =>
    obtain ⟨hw, hlt⟩ := m.one k d hk hd
    simp only [Act.put]
    by_cases e : d = t
    · subst e
      rw [if_pos hw]
      rw [Array.getElem?_setIfInBounds_self_of_lt (Nat.lt_of_lt_of_le hlt hN)]
    · rw [Array.getElem?_setIfInBounds_ne e, if_neg]
      intro h
      have := (wr_some h).2
      rw [hd] at this
      exact e (by cases this; rfl)

theorem putAll_size (ops : Array Oper) (x : Nat → Value) : ∀ (ks : List Nat) (a : Act), (putAll ops x ks a).tmps.size = a.tmps.size ∧ (putAll ops x ks a).defers = a.defers
  | [], _ => ⟨rfl, rfl⟩
  | k :: ks, a => by
    have := putAll_size ops x ks (a.put (dstOf ops k) (x k))
    unfold putAll at this ⊢
    rw [List.foldl_cons]
    refine ⟨this.1.trans ?_, this.2.trans ?_⟩ <;> cases dstOf ops k <;> simp [Act.put]

theorem putAll_get {ops : Array Oper} {N : Nat} (m : Mono ops N) (x : Nat → Value) (t : Tmp) : ∀ (ks : List Nat) (a : Act), N ≤ a.tmps.size → (∀ k ∈ ks, k < ops.size) →
    (putAll ops x ks a).tmps[t]? = match wr ops t with
      | some k => if k ∈ ks then some (x k) else a.tmps[t]?
      | none => a.tmps[t]?
  | [], a, _, _ => by cases wr ops t <;> simp [putAll]
  | k :: ks, a, hN, hks => by
    have hsz : (a.put (dstOf ops k) (x k)).tmps.size = a.tmps.size := by cases dstOf ops k <;> simp [Act.put]
    have ih := putAll_get m x t ks (a.put (dstOf ops k) (x k)) (by rw [hsz]; exact hN) (fun j hj => hks j (List.mem_cons_of_mem _ hj))
    have e : putAll ops x (k :: ks) a = putAll ops x ks (a.put (dstOf ops k) (x k)) := rfl
    rw [e, ih, put_get m hN (hks k (List.mem_cons_self ..))]
    cases hw : wr ops t with
    | none => simp
    | some j =>
      by_cases hj : j ∈ ks
      · simp [hj]
      · by_cases e : j = k
        · subst e; simp [hj]
        · simp [hj, e]

theorem countP_lt (p p' : Nat → Bool) (i : Nat) : ∀ (l : List Nat), (∀ j ∈ l, p' j = true → p j = true) → i ∈ l → p i = true → p' i = false → l.countP p' < l.countP p
  | [], _, h, _, _ => by cases h
  | a :: l, hs, hm, hp, hp' => by
    have hle : l.countP p' ≤ l.countP p := List.countP_mono_left (fun j hj => hs j (List.mem_cons_of_mem _ hj))
    rw [List.countP_cons, List.countP_cons]
    rcases List.mem_cons.1 hm with e | hm
    · subst e; rw [hp, hp']; simp; omega
    · have := countP_lt p p' i l (fun j hj => hs j (List.mem_cons_of_mem _ hj)) hm hp hp'
      have h1 := hs a (List.mem_cons_self ..)
      cases hpa : p' a
      · simp; omega
      · rw [h1 hpa]; simp; omega

/- an invariant of the operations that have come -/
theorem wpAny_inv {md : Region.Mode} {ops : Array Oper} {Q : Exit → Act → World → Prop} (J : Array Bool → Act → World → Prop) (hsz : ∀ l a w, J l a w → l.size = ops.size)
    (hstep : ∀ l a w i, J l a w → i ∈ Region.ready md ops l → wpOp P ops Q i (J (l.setIfInBounds i true)) a w)
    (hdone : ∀ l a w, J l a w → Region.ready md ops l = [] → Q .normal a w) :
    ∀ (fuel : Nat) (l : Array Bool) (a : Act) (w : World), (List.range ops.size).countP (fun i => !l.getD i true) ≤ fuel → J l a w → wpAny P md ops Q fuel l a w := by
  intro fuel
  induction fuel with
  | zero =>
    intro l a w hc hJ
    have hr : Region.ready md ops l = [] := by
      unfold Region.ready
      rw [List.filter_eq_nil_iff]
      intro i hi h
      have h0 : (List.range ops.size).countP (fun i => !l.getD i true) = 0 := by omega
      have := List.countP_eq_zero.1 h0 i hi
      simp only [Bool.and_eq_true] at h
      exact this h.1
    exact ⟨hr, hdone _ _ _ hJ hr⟩
  | succ fuel ih =>
    intro l a w hc hJ
    refine ⟨hdone _ _ _ hJ, fun i hi => wpOp_mono (fun a' w' hJ' => ih _ a' w' ?_ hJ') (hstep _ _ _ i hJ hi)⟩
    have hi' := hi
    unfold Region.ready at hi'
    rw [List.mem_filter] at hi'
    simp only [Bool.and_eq_true] at hi'
    have hil : i < l.size := by rw [hsz _ _ _ hJ]; exact List.mem_range.1 hi'.1
    have := countP_lt (fun i => !l.getD i true) (fun j => !(l.setIfInBounds i true).getD j true) i (List.range ops.size) (fun j _ hj => by
      by_cases e : i = j
      · subst e; simp [hil] at hj
      · simpa [Array.getElem?_setIfInBounds_ne e] using hj) hi'.1 hi'.2.1 (by simp [hil])
    omega

theorem eval_of_get {a b : Act} {t : Tmp} (h : a.tmps[t]? = b.tmps[t]?) : a.eval (.tmp t) = b.eval (.tmp t) := by
  simp only [Act.eval, Array.getD_eq_getD_getElem?, h]
theorem exec_of_look {ops : Array Oper} {o : Oper} (hs : ∀ cs b, o.op ≠ .select cs b) {a b : Act} (h : ∀ t ∈ o.looksAt ops, a.tmps[t]? = b.tmps[t]?) : execOp a.eval o = execOp b.eval o :=
  execOp_congr o hs fun x hx => by
    cases x with
    | tmp t => exact eval_of_get (h t (List.mem_append_left _ (List.mem_filterMap.2 ⟨.tmp t, by simpa using hx, rfl⟩)))
    | const v => rfl
    | global g => rfl
    | func f => rfl
theorem wanted_of_look {ops : Array Oper} {o : Oper} {a b : Act} (h : ∀ t ∈ o.looksAt ops, a.tmps[t]? = b.tmps[t]?) : Region.wanted o (yielded ops a.tmps) = Region.wanted o (yielded ops b.tmps) := by
  unfold Region.wanted
  cases hg : o.guard with
  | none => rfl
  | some gw =>
    obtain ⟨g, want⟩ := gw
    have hy : yielded ops a.tmps g = yielded ops b.tmps g := by
      unfold yielded
      cases ht : (ops[g]?).bind (·.dst) with
      | none => rfl
      | some t =>
        have := h t (by simp [Oper.looksAt, hg, ht])
        simp [this]
    simp only [hy]
theorem act_ext {a b : Act} (hs : a.tmps.size = b.tmps.size) (hd : a.defers = b.defers) (h : ∀ t : Nat, a.tmps[t]? = b.tmps[t]?) : a = b := by
  obtain ⟨at_, ad⟩ := a
  obtain ⟨bt, bd⟩ := b
  simp only at hs hd h
  subst hd
  congr 1
  exact Array.ext_getElem? h

/- what is known when the operations l have come -/
structure Come (ops : Array Oper) (a : Act) (E : World → World → Prop) (F : Nat → Value → World → Prop) (w : World) (l : Array Bool) (a' : Act) (W : World) (x : Nat → Value) : Prop where
  ext : E w W
  lsz : l.size = ops.size
  dfs : a'.defers = a.defers
  asz : a'.tmps.size = a.tmps.size
  shut : ∀ k o, ops[k]? = some o → l.getD k true = true → ∀ p ∈ preds o, l.getD p true = true
  val : ∀ k, k < ops.size → l.getD k true = true → F k (x k) W
  get : ∀ t, a'.tmps[t]? = match wr ops t with
    | some k => if l.getD k true then some (x k) else a.tmps[t]?
    | none => a.tmps[t]?

theorem ready_iff {ops : Array Oper} {l : Array Bool} {i : Nat} : i ∈ Region.ready .any ops l ↔ ∃ o, ops[i]? = some o ∧ l.getD i true = false ∧ ∀ p ∈ preds o, l.getD p false = true := by
  unfold Region.ready
  rw [List.mem_filter, List.mem_range]
  constructor
  · rintro ⟨hi, h⟩
    simp only [Bool.and_eq_true] at h
    refine ⟨ops[i], Array.getElem?_eq_getElem hi, by simpa using h.1, fun p hp => ?_⟩
    have h2 := h.2
    rw [Array.getElem?_eq_getElem hi] at h2
    simp only [Option.map_some, Option.getD_some] at h2
    unfold preds at hp
    rw [List.mem_map] at hp
    obtain ⟨e, he, rfl⟩ := hp
    rw [List.mem_filter] at he
    have := Array.all_eq_true_iff_forall_mem.1 h2 e (by simpa using he.1)
    simpa [he.2] using this
  · rintro ⟨o, ho, hl, hp⟩
    refine ⟨lt_of_some ho, ?_⟩
    rw [ho, hl]
    simp only [Bool.not_false, Bool.true_and, Option.map_some, Option.getD_some]
    rw [Array.all_eq_true_iff_forall_mem]
    intro e he
    cases hb : Region.binds .any e
    · rfl
    · simpa using hp e.on (List.mem_map.2 ⟨e, List.mem_filter.2 ⟨by simpa using he, hb⟩, rfl⟩)

theorem getD_lt {l : Array Bool} {p : Nat} (h : p < l.size) (b c : Bool) : l.getD p b = l.getD p c := by
  simp [Array.getD_eq_getD_getElem?, Array.getElem?_eq_getElem h]

theorem all_of_none {ops : Array Oper} {N : Nat} (m : Mono ops N) {l : Array Bool} (hl : l.size = ops.size) (h : Region.ready .any ops l = []) : ∀ k, k < ops.size → l.getD k true = true := by
  intro k
  induction k using Nat.strongRecOn with
  | ind k ih =>
    intro hk
    cases hc : l.getD k true with
    | true => rfl
    | false =>
      have : k ∈ Region.ready .any ops l := ready_iff.2 ⟨ops[k], Array.getElem?_eq_getElem hk, hc, fun p hp => by
        have hpk := m.lt k _ (Array.getElem?_eq_getElem hk) p hp
        rw [getD_lt (by omega) false true]
        exact ih p hpk (by omega)⟩
      rw [h] at this
      cases this

/- the frame, where just the first i operations have come -/
theorem Come.first {ops : Array Oper} {N : Nat} (m : Mono ops N) {a : Act} (hN : N ≤ a.tmps.size) {E : World → World → Prop} {F : Nat → Value → World → Prop} {w : World} {l : Array Bool} {a' : Act} {W : World} {x : Nat → Value}
    (c : Come ops a E F w l a' W x) {i : Nat} (hi : i ≤ ops.size) (h : ∀ k, k < i → l.getD k true = true) (h2 : ∀ k, i ≤ k → k < ops.size → l.getD k true = false) : a' = putAll ops x (List.range i) a := by
  refine act_ext (c.asz.trans (putAll_size ops x _ a).1.symm) (c.dfs.trans (putAll_size ops x _ a).2.symm) fun t => ?_
  rw [c.get t, putAll_get m x t _ a hN (fun k hk => Nat.lt_of_lt_of_le (List.mem_range.1 hk) hi)]
  cases hw : wr ops t with
  | none => rfl
  | some k =>
    have hk := (wr_some hw).1
    by_cases e : k < i
    · simp [h k e, e]
    · simp [h2 k (by omega) hk, e]

/- THE LAW. E: what may become of the world; F k: what the value of the operation k is like; from the operation M on all is walked in the text's order. -/
theorem wpAny_mono {ops : Array Oper} {Q : Exit → Act → World → Prop} {a : Act} {w : World} (M : Nat) (X : List Nat) (hck : monoOk ops a.tmps.size = true) (hM : M ≤ ops.size) (htl : tailOk ops M X = true)
    (E : World → World → Prop) (hr : ∀ w, E w w) (ht : ∀ {u v w}, E u v → E v w → E u w) (F : Nat → Value → World → Prop) (hF : ∀ {i v W W'}, F i v W → E W W' → F i v W')
    (hops : ∀ (i : Nat) (o : Oper), ops[i]? = some o → i < M → ∀ (x : Nat → Value) W, E w.drew W → (∀ k ∈ preds o, F k (x k) W) →
      if Region.wanted o (yielded ops (putAll ops x (preds o) a).tmps) then Gives P (fun v W' => E W W' ∧ F i v W') ((execOp (putAll ops x (preds o) a).eval o).run P W) else F i undef W)
    (hfin : ∀ (x : Nat → Value) W, E w.drew W → (∀ k, k < M → F k (x k) W) → wpOps P ops Q (List.range' M (ops.size - M)) (putAll ops x (List.range M) a) W) :
    wpAny P .any ops Q ops.size (Array.replicate ops.size false) a w.drew := by
  have m := mono_of hck
  refine wpAny_inv
    (fun l a' W => (∃ x, Come ops a E F w.drew l a' W x ∧ ∀ k, M ≤ k → k < ops.size → l.getD k true = false) ∨
      (l.size = ops.size ∧ ∃ i, M ≤ i ∧ i ≤ ops.size ∧ (∀ k, k < i → l.getD k true = true) ∧ (∀ k, i ≤ k → k < ops.size → l.getD k true = false) ∧ wpOps P ops Q (List.range' i (ops.size - i)) a' W))
    ?_ ?_ ?_ _ _ _ _ (Nat.le_trans (List.countP_le_length) (by simp)) ?_
  · rintro l a' W (⟨x, c, _⟩ | ⟨h, _⟩)
    · exact c.lsz
    · exact h
  · -- a tail operation, walked
    have htail : ∀ (l : Array Bool) (a' : Act) (W : World) (i : Nat), l.size = ops.size → M ≤ i → i < ops.size → (∀ k, k < i → l.getD k true = true) → (∀ k, i ≤ k → k < ops.size → l.getD k true = false) →
        wpOps P ops Q (List.range' i (ops.size - i)) a' W →
        wpOp P ops Q i (fun a'' W' => (∃ x, Come ops a E F w.drew (l.setIfInBounds i true) a'' W' x ∧ ∀ k, M ≤ k → k < ops.size → (l.setIfInBounds i true).getD k true = false) ∨
      ((l.setIfInBounds i true).size = ops.size ∧ ∃ i', M ≤ i' ∧ i' ≤ ops.size ∧ (∀ k, k < i' → (l.setIfInBounds i true).getD k true = true) ∧ (∀ k, i' ≤ k → k < ops.size → (l.setIfInBounds i true).getD k true = false) ∧ wpOps P ops Q (List.range' i' (ops.size - i')) a'' W')) a' W := by
      intro l a' W i hsz hMi hin h1 h2 hw
      rw [show ops.size - i = (ops.size - (i + 1)) + 1 by omega, List.range'_succ, wpOps_cons] at hw
      refine wpOp_mono (fun a'' W' h => .inr ⟨by simp [hsz], i + 1, by omega, by omega, fun k hk => ?_, fun k hk hk2 => ?_, h⟩) hw
      · by_cases e : i = k
        · subst e; simp [Array.getD_eq_getD_getElem?, hsz, hin]
        · rw [Array.getD_eq_getD_getElem?, Array.getElem?_setIfInBounds_ne e, ← Array.getD_eq_getD_getElem?]; exact h1 k (by omega)
      · rw [Array.getD_eq_getD_getElem?, Array.getElem?_setIfInBounds_ne (by omega), ← Array.getD_eq_getD_getElem?]; exact h2 k (by omega) hk2
    rintro l a' W i (⟨x, c, hno⟩ | ⟨hsz, i', hMi, hi', h1, h2, hw⟩) hi
    · obtain ⟨o, ho, hli, hp⟩ := ready_iff.1 hi
      have hin := lt_of_some ho
      have hpl : ∀ p ∈ preds o, p < ops.size := fun p hp' => Nat.lt_trans (m.lt i o ho p hp') hin
      have hpt : ∀ p ∈ preds o, l.getD p true = true := fun p hp' => by rw [getD_lt (by rw [c.lsz]; exact hpl p hp') true false]; exact hp p hp'
      by_cases hiM : i < M
      · have hlook : ∀ t ∈ o.looksAt ops, a'.tmps[t]? = (putAll ops x (preds o) a).tmps[t]? := fun t ht' => by
          rw [c.get t, putAll_get m x t _ a (Nat.le_refl _) hpl]
          cases hw : wr ops t with
          | none => rfl
          | some k =>
            rcases m.look i o ho t ht' k hw with h | h | ⟨ok, hok, h⟩
            · simp [h, hpt k h]
            · subst h
              have hni : ¬ k ∈ preds o := fun h => absurd (m.lt k o ho k h) (Nat.lt_irrefl _)
              simp [hni, hli]
            · have hkl : l.getD k true = false := by
                cases hc : l.getD k true with
                | false => rfl
                | true => have := c.shut k ok hok hc i h; rw [hli] at this; cases this
              have hnk : ¬ k ∈ preds o := fun h' => by have := hpt k h'; rw [hkl] at this; cases this
              simp [hnk, hkl]
        have hex := exec_of_look (m.sel i o ho) hlook
        have hwa := wanted_of_look hlook
        have hval : ∀ k ∈ preds o, F k (x k) W := fun k hk => c.val k (hpl k hk) (hpt k hk)
        have hshut : ∀ (k : Nat) (o' : Oper), ops[k]? = some o' → (l.setIfInBounds i true).getD k true = true → ∀ p ∈ preds o', (l.setIfInBounds i true).getD p true = true := fun k o' ho' hk p hp' => by
          by_cases e : i = p
          · subst e; simp [Array.getD_eq_getD_getElem?, c.lsz, hin]
          · rw [Array.getD_eq_getD_getElem?, Array.getElem?_setIfInBounds_ne e, ← Array.getD_eq_getD_getElem?]
            by_cases e2 : i = k
            · subst e2; rw [ho] at ho'; cases ho'; exact hpt p hp'
            · rw [Array.getD_eq_getD_getElem?, Array.getElem?_setIfInBounds_ne e2, ← Array.getD_eq_getD_getElem?] at hk
              exact c.shut k o' ho' hk p hp'
        have hg := hops i o ho hiM x W c.ext hval
        have hnext : ∀ v W', E W W' → F i v W' → Come ops a E F w.drew (l.setIfInBounds i true) (a'.put o.dst v) W' (fun k => if k = i then v else x k) := fun v W' hE hv => by
          have hdi : o.dst = dstOf ops i := by simp [dstOf, ho]
          refine ⟨ht c.ext hE, by simp [c.lsz], ?_, ?_, hshut, fun k hk hlk => ?_, fun t => ?_⟩
          · rw [← c.dfs]; cases o.dst <;> rfl
          · rw [← c.asz]; cases o.dst <;> simp [Act.put]
          · by_cases e : k = i
            · subst e; simpa using hv
            · simp only [e, if_false]
              rw [Array.getD_eq_getD_getElem?, Array.getElem?_setIfInBounds_ne (Ne.symm e), ← Array.getD_eq_getD_getElem?] at hlk
              exact hF (c.val k hk hlk) hE
          · rw [hdi, put_get m (by rw [c.asz]; exact Nat.le_refl _) hin v t, c.get t]
            cases hw : wr ops t with
            | none => simp
            | some k =>
              by_cases e : k = i
              · subst e; simp [Array.getD_eq_getD_getElem?, c.lsz, hin]
              · simp only [Option.some.injEq, e, if_false]
                rw [Array.getD_eq_getD_getElem? (i := k) (xs := l.setIfInBounds i true), Array.getElem?_setIfInBounds_ne (Ne.symm e), ← Array.getD_eq_getD_getElem?]
        have hno' : ∀ k, M ≤ k → k < ops.size → (l.setIfInBounds i true).getD k true = false := fun k hk hk2 => by
          rw [Array.getD_eq_getD_getElem?, Array.getElem?_setIfInBounds_ne (by omega), ← Array.getD_eq_getD_getElem?]; exact hno k hk hk2
        unfold wpOp
        rw [ho]
        simp only []
        rw [hwa]
        split
        · rename_i hw
          rw [if_pos hw] at hg
          rw [← hex] at hg
          exact .inl (hg.upon fun v W' hv => .inl ⟨_, hnext v W' hv.1 hv.2, hno'⟩)
        · rename_i hw
          rw [if_neg hw] at hg
          exact .inl ⟨_, hnext undef W (hr W) hg, hno'⟩
      · -- the first of the tail
        have hall := tail_all htl c.shut ho (Nat.le_of_not_lt hiM) hpt
        have hiM2 : i = M := by
          by_cases e : i = M
          · exact e
          · have := hall M (by omega); rw [hno M (Nat.le_refl _) (by omega)] at this; cases this
        subst hiM2
        have ha := c.first m (Nat.le_refl _) hM hall hno
        have hf := hfin x W c.ext (fun k hk => c.val k (by omega) (hall k hk))
        rw [← ha] at hf
        exact htail l a' W i c.lsz (Nat.le_refl _) hin hall hno hf
    · obtain ⟨o, ho, hli, hp⟩ := ready_iff.1 hi
      have hin := lt_of_some ho
      have hge : i' ≤ i := by
        rcases Nat.lt_or_ge i i' with h | h
        · rw [h1 i h] at hli; cases hli
        · exact h
      have hii : i = i' := by
        by_cases e : i = i'
        · exact e
        · exfalso
          have h3 := List.all_eq_true.1 htl (i - 1) (List.mem_range.2 (by omega))
          rw [if_neg (by omega), show i - 1 + 1 = i by omega, ho] at h3
          have := hp (i - 1) (by simpa using h3)
          rw [getD_lt (by omega) false true, h2 (i - 1) (by omega) (by omega)] at this
          cases this
      subst hii
      exact htail l a' W i hsz hMi hin h1 h2 hw
  · rintro l a' W (⟨x, c, hno⟩ | ⟨hsz, i', hMi, hi', h1, h2, hw⟩) hn
    · have hall := all_of_none m c.lsz hn
      have hMe : M = ops.size := by
        by_cases e : M = ops.size
        · exact e
        · have := hno M (Nat.le_refl _) (by omega); rw [hall M (by omega)] at this; cases this
      have ha := c.first m (Nat.le_refl _) hM (fun k hk => hall k (by omega)) hno
      have hf := hfin x W c.ext (fun k hk => c.val k (by omega) (hall k (by omega)))
      rw [← ha, hMe, Nat.sub_self] at hf
      exact hf
    · have hall := all_of_none m hsz hn
      have hie : i' = ops.size := by
        by_cases e : i' = ops.size
        · exact e
        · have := h2 i' (Nat.le_refl _) (by omega); rw [hall i' (by omega)] at this; cases this
      subst hie
      rw [Nat.sub_self] at hw
      exact hw
  · refine .inl ⟨fun _ => undef, ⟨hr _, by simp, rfl, rfl, fun k o ho hk => ?_, fun k hk hlk => ?_, fun t => ?_⟩, fun k _ hk => ?_⟩
    · simp [Array.getD_eq_getD_getElem?, lt_of_some ho] at hk
    · simp [Array.getD_eq_getD_getElem?, hk] at hlk
    · cases hw : wr ops t with
      | none => rfl
      | some k => simp [Array.getD_eq_getD_getElem?, (wr_some hw).1]
    · simp [Array.getD_eq_getD_getElem?, hk]

/- what was there stays as it was -/
def Ext (w w' : World) : Prop := Below w.heap.size w w'
theorem Ext.refl (w : World) : Ext w w := Below.refl _ _
theorem Ext.trans {u v w : World} (h : Ext u v) (k : Ext v w) : Ext u w := Below.trans h (Below.mono k (Below.size h))
theorem Ext.below {w w' : World} (h : Ext w w') : Below w.heap.size w w' := h
theorem Ext.drew (w : World) : Ext w w.drew := (Below.refl _ _).drew
theorem Ext.alloc (w : World) (o : Obj) : Ext w (w.alloc o) := (Below.refl _ _).alloc (Nat.le_refl _) o
theorem Ext.sz {w w' : World} (h : Ext w w') : w.heap.size ≤ w'.heap.size := Below.size h
theorem Ext.old {w w' : World} (h : Ext w w') {p : Addr} (hp : p.block < w.heap.size) : w'.cell? p = w.cell? p := Below.cell h hp

/- what is said of a value, and stays true -/
structure SP where
  p : Value → World → Prop
  st : ∀ {v W W'}, p v W → Ext W W' → p v W'
def eqv (c : Value) : SP := ⟨fun v _ => v = c, fun h _ => h⟩
def anyv : SP := ⟨fun _ _ => True, fun _ _ => trivial⟩
def Fof (F : List SP) (k : Nat) (v : Value) (W : World) : Prop := (F.getD k anyv).p v W

def depsOk (ops : Array Oper) (D : List (List Nat)) : Bool :=
  (List.range ops.size).all fun i => match ops[i]? with
    | none => true
    | some o => ((D.getD i []).all fun k => (preds o).contains k) && (o.looksAt ops).all fun t => match wr ops t with
        | none => true
        | some k => !(preds o).contains k || (D.getD i []).contains k

/- the same, with the slots written out -/
def putD (ds : List (Option Tmp)) (x : Nat → Value) (ks : List Nat) (a : Act) : Act := ks.foldl (fun a k => a.put (ds.getD k none) (x k)) a
def yieldD (ds : List (Option Tmp)) (a : Act) (j : Nat) : Option Bool :=
  match (ds.getD j none).bind (a.tmps[·]?) with
  | some (.bool b) => some b
  | _ => none
def Known (F : List SP) (x : Nat → Value) (W : World) : List Nat → Prop
  | [] => True
  | k :: ks => (F.getD k anyv).p (x k) W ∧ Known F x W ks
theorem known_of {F : List SP} {x : Nat → Value} {W : World} : ∀ {ks : List Nat}, (∀ k ∈ ks, (F.getD k anyv).p (x k) W) → Known F x W ks
  | [], _ => trivial
  | k :: _, h => ⟨h k (List.mem_cons_self ..), known_of fun j hj => h j (List.mem_cons_of_mem _ hj)⟩
/- what is owed of one operation, as a list of one: 'c': the frame that it sees -/
def KV (dst : Option Tmp) (R : Value → World → Prop) (df : List Deferred) (a : Act) (w : World) : Prop :=
  a.defers = df ∧ match dst with
  | some d => R (a.tmps.getD d undef) w
  | none => ∀ v, R v w
def onNormal (K : Act → World → Prop) : Exit → Act → World → Prop
  | .normal, a, w => K a w
  | _, _, _ => False
def OpGoal (P : Program) (ds : List (Option Tmp)) (o : Oper) (R : Value → World → Prop) (c : Act) (W : World) : Prop :=
  match o.guard with
  | none => wpList P #[] (onNormal (KV o.dst R c.defers)) [{ o with guard := none }] c W
  | some (j, b) => if yieldD ds c j = some b then wpList P #[] (onNormal (KV o.dst R c.defers)) [{ o with guard := none }] c W else R undef W
theorem OpGoal.plain {ds : List (Option Tmp)} {dst : Option Tmp} {op : Op} {type : TypeId} {pos : String} {after : Array Edge} {R : Value → World → Prop} {c : Act} {W : World}
    (h : wpList P #[] (onNormal (KV dst R c.defers)) [⟨dst, op, type, pos, after, none⟩] c W) : OpGoal P ds ⟨dst, op, type, pos, after, none⟩ R c W := h
theorem OpGoal.yes {ds : List (Option Tmp)} {dst : Option Tmp} {op : Op} {type : TypeId} {pos : String} {after : Array Edge} {j : Nat} {b : Bool} {R : Value → World → Prop} {c : Act} {W : World} (hy : yieldD ds c j = some b)
    (h : wpList P #[] (onNormal (KV dst R c.defers)) [⟨dst, op, type, pos, after, none⟩] c W) : OpGoal P ds ⟨dst, op, type, pos, after, some (j, b)⟩ R c W := by
  show if yieldD ds c j = some b then _ else _
  rw [if_pos hy]
  exact h
theorem OpGoal.no {ds : List (Option Tmp)} {dst : Option Tmp} {op : Op} {type : TypeId} {pos : String} {after : Array Edge} {j : Nat} {b : Bool} {R : Value → World → Prop} {c : Act} {W : World} (hy : yieldD ds c j = some (!b)) (h : R undef W) :
    OpGoal P ds ⟨dst, op, type, pos, after, some (j, b)⟩ R c W := by
  show if yieldD ds c j = some b then _ else _
  rw [hy, if_neg (by cases b <;> simp)]
  exact h
theorem gives_of_list {o : Oper} {R : Value → World → Prop} {c : Act} {W : World} (hd : ∀ d, o.dst = some d → d < c.tmps.size) (h : wpList P #[] (onNormal (KV o.dst R c.defers)) [{ o with guard := none }] c W) : Gives P R ((execOp c.eval o).run P W) := by
  have hv : ∀ v w', onNormal (KV o.dst R c.defers) .normal (c.put o.dst v) w' → R v w' := fun v w' hk => by
    cases e : o.dst with
    | none => rw [e] at hk; exact hk.2 v
    | some d =>
      rw [e] at hk
      have : R ((c.put (some d) v).tmps.getD d undef) w' := hk.2
      simpa [Act.put, Array.getD_eq_getD_getElem?, Array.getElem?_setIfInBounds_self_of_lt (hd d e)] using this
  unfold wpList at h
  rw [if_pos (by rfl)] at h
  rcases h with h | ⟨_, a, w, hf⟩
  · unfold Oper.wp at h
    have ee : execOp c.eval ({ o with guard := none } : Oper) = execOp c.eval o := rfl
    rw [ee] at h
    generalize (execOp c.eval o).run P W = r at h
    cases r with
    | ok n w' =>
      cases n <;> simp only [Oper.upon] at h
      case value v => exact hv v w' h
      case skip => exact hv undef w' h
      case defer d =>
        exfalso
        have h1 : ({ c with defers := d :: c.defers }.put o.dst undef : Act).defers = c.defers := h.1
        have h2 : ({ c with defers := d :: c.defers }.put o.dst undef : Act).defers = d :: c.defers := by cases o.dst <;> rfl
        rw [h2] at h1
        have := congrArg List.length h1
        simp at this
      case enter f args =>
        exact Calls.mono h (fun e w'' he => by cases e with
          | returned v => exact hv v w'' he
          | panicked ch => exact he.elim
          | outgrown => obtain ⟨a, w, hf⟩ := he; exact hf.elim)
      case row row args => exact Rows.mono h (fun v w'' he => hv v w'' he)
    | halt x w' => cases x <;> simp only [Oper.upon] at h <;> exact h.elim
  · exact hf.elim
def OpsOk (P : Program) (ds : List (Option Tmp)) (a : Act) (w : World) (F : List SP) (D : List (List Nat)) : Nat → List Oper → Prop
  | _, [] => True
  | i, o :: l => (∀ (x : Nat → Value) (W : World), Ext w W → Known F x W (D.getD i []) → OpGoal P ds o (fun v W' => Ext W W' ∧ (F.getD i anyv).p v W') (putD ds x (D.getD i []) a) W) ∧ OpsOk P ds a w F D (i + 1) l

theorem OpsOk.at_ {ds : List (Option Tmp)} {a : Act} {w : World} {F : List SP} {D : List (List Nat)} : ∀ {l : List Oper} {i : Nat}, OpsOk P ds a w F D i l → ∀ (j : Nat) (o : Oper), l[j]? = some o → ∀ (x : Nat → Value) (W : World), Ext w W → Known F x W (D.getD (i + j) []) →
      OpGoal P ds o (fun v W' => Ext W W' ∧ (F.getD (i + j) anyv).p v W') (putD ds x (D.getD (i + j) []) a) W
  | [], _, _, j, o, h => by simp at h
  | o' :: l, i, hk, j, o, h => by
    cases j with
    | zero =>
      simp only [List.getElem?_cons_zero, Option.some.injEq] at h
      subst h
      exact hk.1
    | succ j =>
      have := OpsOk.at_ hk.2 j o (by simpa using h)
      rw [show i + 1 + j = i + (j + 1) by omega] at this
      exact this
theorem dst_ds {l : List Oper} {ds : List (Option Tmp)} (h : (l.map (·.dst) == ds) = true) (k : Nat) : dstOf l.toArray k = ds.getD k none := by
  have e : l.map (·.dst) = ds := by simpa using h
  subst e
  unfold dstOf
  simp only [List.getElem?_toArray, List.getD_eq_getElem?_getD, List.getElem?_map]
  cases l[k]? <;> rfl
theorem putD_eq {l : List Oper} {ds : List (Option Tmp)} (h : (l.map (·.dst) == ds) = true) (x : Nat → Value) (ks : List Nat) (a : Act) : putAll l.toArray x ks a = putD ds x ks a := by
  unfold putAll putD
  simp only [dst_ds h]
theorem OpGoal.use {l : List Oper} {ds : List (Option Tmp)} (h : (l.map (·.dst) == ds) = true) {o : Oper} {R : Value → World → Prop} {c : Act} {W : World} (hd : ∀ d, o.dst = some d → d < c.tmps.size) (hg : OpGoal P ds o R c W) :
    if Region.wanted o (yielded l.toArray c.tmps) then Gives P R ((execOp c.eval o).run P W) else R undef W := by
  have hy : ∀ j, yielded l.toArray c.tmps j = yieldD ds c j := fun j => by
    have := dst_ds h j
    unfold dstOf at this
    unfold yielded yieldD
    rw [this]
    rfl
  unfold OpGoal at hg
  unfold Region.wanted
  cases hgd : o.guard with
  | none =>
    rw [hgd] at hg
    have := gives_of_list hd hg
    simpa using this
  | some gw =>
    obtain ⟨j, b⟩ := gw
    rw [hgd] at hg
    simp only [hy, beq_iff_eq]
    have hg : if yieldD ds c j = some b then wpList P #[] (onNormal (KV o.dst R c.defers)) [{ o with guard := none }] c W else R undef W := hg
    split
    · rename_i hw; rw [if_pos hw] at hg; exact gives_of_list hd hg
    · rename_i hw; rw [if_neg hw] at hg; exact hg

/- fewer operations put: those that are looked at -/
theorem look_same {ops : Array Oper} {N : Nat} (m : Mono ops N) {D : List (List Nat)} (hD : depsOk ops D = true) {a : Act} (hN : N ≤ a.tmps.size) (x : Nat → Value) {i : Nat} {o : Oper} (ho : ops[i]? = some o) :
    (∀ k ∈ D.getD i [], k ∈ preds o) ∧ ∀ t ∈ o.looksAt ops, (putAll ops x (preds o) a).tmps[t]? = (putAll ops x (D.getD i []) a).tmps[t]? := by
  have hin := lt_of_some ho
  have h := List.all_eq_true.1 hD i (List.mem_range.2 hin)
  rw [ho] at h
  simp only [Bool.and_eq_true] at h
  obtain ⟨h1, h2⟩ := h
  have hs : ∀ k ∈ D.getD i [], k ∈ preds o := fun k hk => by simpa using List.all_eq_true.1 h1 k hk
  refine ⟨hs, fun t ht => ?_⟩
  rw [putAll_get m x t _ a hN (fun p hp => Nat.lt_trans (m.lt i o ho p hp) hin), putAll_get m x t _ a hN (fun p hp => Nat.lt_trans (m.lt i o ho p (hs p hp)) hin)]
  cases hw : wr ops t with
  | none => rfl
  | some k =>
    have := List.all_eq_true.1 h2 t ht
    rw [hw] at this
    simp only [Bool.or_eq_true, Bool.not_eq_true', List.contains_iff_mem] at this
    by_cases hk : k ∈ preds o
    · have hkD : k ∈ D.getD i [] := this.resolve_left (by simp [hk])
      simp only [hk, hkD, if_true]
    · have hkD : ¬ k ∈ D.getD i [] := fun h => hk (hs k h)
      simp only [hk, hkD, if_false]

/- the law over a list of operations: first those of l, in whatever order; then those of t, one after the other -/
theorem wpAny_seq {l t : List Oper} {Q : Exit → Act → World → Prop} {a : Act} {w : World} (ds : List (Option Tmp)) (D : List (List Nat)) (X : List Nat) (F : List SP)
    (hck : (monoOk (l ++ t).toArray a.tmps.size && depsOk (l ++ t).toArray D && ((l ++ t).map (·.dst) == ds) && tailOk (l ++ t).toArray l.length X) = true) (hops : OpsOk P ds a w.drew F D 0 l)
    (hfin : ∀ (x : Nat → Value) (W : World), Ext w.drew W → Known F x W (List.range l.length) → wpList P (l ++ t).toArray Q t (putD ds x (List.range l.length) a) W) :
    wpAny P .any (l ++ t).toArray Q (l ++ t).toArray.size (Array.replicate (l ++ t).toArray.size false) a w.drew := by
  simp only [Bool.and_eq_true] at hck
  obtain ⟨⟨⟨hc1, hc2⟩, hc3⟩, hc4⟩ := hck
  have m := mono_of hc1
  refine wpAny_mono l.length X hc1 (by simp) hc4 Ext Ext.refl Ext.trans (Fof F) (fun h hE => (F.getD _ anyv).st h hE) ?_ ?_
  · intro i o ho hi x W hE hp
    obtain ⟨hs, hlk⟩ := look_same m hc2 (Nat.le_refl _) x ho
    have hg := hops.at_ i o (by simpa [List.getElem?_append_left hi] using ho) x W hE (known_of fun k hk => by rw [Nat.zero_add] at hk; exact hp k (hs k hk))
    rw [Nat.zero_add] at hg
    have hg := hg.use hc3 (fun d hd => by rw [← putD_eq hc3, (putAll_size _ _ _ _).1]; exact (m.one i d (lt_of_some ho) (by simp only [dstOf, ho, Option.bind_some]; exact hd)).2)
    rw [← putD_eq hc3] at hg
    rw [← wanted_of_look hlk, ← exec_of_look (m.sel i o ho) hlk] at hg
    split
    · rename_i hw; rw [if_pos hw] at hg; exact hg
    · rename_i hw; rw [if_neg hw] at hg; exact hg.2
  · intro x W hE h
    have hf := hfin x W hE (known_of fun k hk => h k (List.mem_range.1 hk))
    rw [← putD_eq hc3] at hf
    have e : (l ++ t).toArray.size - l.length = t.length := by simp
    rw [e, wpOps_eq_wpList t l.length (fun j => by simp [List.getElem?_append_right])]
    exact hf

theorem wp_region_seq {l t : List Oper} {Q : Exit → Act → World → Prop} {id : Nat} {a : Act} {w : World} (ds : List (Option Tmp)) (D : List (List Nat)) (X : List Nat) (F : List SP) (hm : P.follows .mixedOrders = true)
    (hck : (monoOk (l ++ t).toArray a.tmps.size && depsOk (l ++ t).toArray D && ((l ++ t).map (·.dst) == ds) && tailOk (l ++ t).toArray l.length X) = true) (hops : OpsOk P ds a w.drew F D 0 l)
    (hfin : ∀ (x : Nat → Value) (W : World), Ext w.drew W → Known F x W (List.range l.length) → wpList P (l ++ t).toArray Q t (putD ds x (List.range l.length) a) W) :
    (Code.region id (l ++ t).toArray true).wp P Q a w := wp_region_any hm (wpAny_seq ds D X F hck hops hfin)

/- a pointer, a slice to bytes that are known -/
def BytesAt (l : List UInt8) (g : Nat) (W : World) : Prop := g < W.heap.size ∧ ∀ j (hj : j < l.length), W.cell? ⟨g, j, none⟩ = some (.int .u8 ((l[j]'hj).toNat : Int))
theorem BytesAt.ext {l : List UInt8} {g : Nat} {W W' : World} (h : BytesAt l g W) (hE : Ext W W') : BytesAt l g W' :=
  ⟨Nat.lt_of_lt_of_le h.1 hE.sz, fun j hj => (hE.old (p := ⟨g, j, none⟩) h.1).trans (h.2 j hj)⟩
def slBytes (l : List UInt8) : SP := ⟨fun v W => ∃ g cap, v = .slice (some ⟨g, 0, none⟩) l.length cap ∧ BytesAt l g W, fun h hE => by
  obtain ⟨g, cap, e, hb⟩ := h
  exact ⟨g, cap, e, hb.ext hE⟩⟩
def ptrBytes (l : List UInt8) : SP := ⟨fun v W => ∃ g, v = .pointer (some ⟨g, 0, none⟩) ∧ BytesAt l g W, fun h hE => by
  obtain ⟨g, e, hb⟩ := h
  exact ⟨g, e, hb.ext hE⟩⟩
attribute [go_sem] gives_value gives_skip gives_enter
end
end Hach

namespace Hach

def rt : Nat → Nat
  | 0 => 0
  | n + 1 => if (rt n + 1) * (rt n + 1) ≤ n + 1 then rt n + 1 else rt n
theorem rt_both (n : Nat) : rt n * rt n ≤ n ∧ n < (rt n + 1) * (rt n + 1) := by
  induction n with
  | zero => decide
  | succ n ih =>
    unfold rt
    have e : (rt n + 1 + 1) * (rt n + 1 + 1) = (rt n + 1) * (rt n + 1) + (2 * (rt n + 1) + 1) := by
      rw [Nat.add_mul (rt n + 1) 1, Nat.mul_add (rt n + 1)]; omega
    split
    · exact ⟨by assumption, by omega⟩
    · exact ⟨by omega, by omega⟩
theorem sq_mono {a b : Nat} (h : a ≤ b) : a * a ≤ b * b := Nat.mul_le_mul h h
theorem rt_eq {n s : Nat} (h1 : s * s ≤ n) (h2 : n < (s + 1) * (s + 1)) : rt n = s := by
  obtain ⟨g1, g2⟩ := rt_both n
  by_cases hl : rt n < s
  · have := sq_mono (show rt n + 1 ≤ s from hl); omega
  · by_cases hg : s < rt n
    · have := sq_mono (show s + 1 ≤ rt n from hg); omega
    · omega
theorem rt_cap {n : Nat} (h : n < 9223372036854775808) : rt n ≤ 3037000499 := by
  by_cases hg : 3037000499 < rt n
  · have := sq_mono (show 3037000500 ≤ rt n from hg); have := (rt_both n).1; omega
  · omega
/-- The root of a number; 0 below 0. -/
def sqI (n : Int) : Int := (rt n.toNat : Int)
theorem sqI_neg {n : Int} (h : n ≤ 0) : sqI n = 0 := by
  unfold sqI; rw [Int.toNat_of_nonpos h]; rfl
theorem sqI_nonneg (n : Int) : 0 ≤ sqI n := Int.natCast_nonneg _
theorem sqI_le {n : Int} (h : n ≤ 9223372036854775807) : sqI n ≤ 3037000499 := by
  unfold sqI; have := rt_cap (n := n.toNat) (by omega); omega

/-- How two numbers stand to each other. -/
def cmpI (x y : Int) : Int := if x < y then -1 else if y < x then 1 else 0
def sgI (a b c d : Int) : Int := (a * b - c * d).sign
theorem cmpI_sign (x y : Int) : cmpI x y = (x - y).sign := by
  unfold cmpI
  split
  · rw [Int.sign_eq_neg_one_of_neg (by omega)]
  · split
    · rw [Int.sign_eq_one_of_pos (by omega)]
    · rw [show x - y = 0 by omega]; rfl
theorem cmpI_zero (x : Int) : cmpI x 0 = x.sign := by rw [cmpI_sign, Int.sub_zero]
theorem sg_two (p q : Int) : (if p.sign ≠ q.sign then cmpI (p.sign - q.sign) 0 else p.sign * cmpI p.natAbs q.natAbs) = (p - q).sign := by
  rw [← cmpI_sign p q]
  unfold cmpI
  rcases Int.lt_trichotomy p 0 with hp | hp | hp <;> rcases Int.lt_trichotomy q 0 with hq | hq | hq
  all_goals first
    | subst hp; first
      | subst hq; decide
      | (rw [Int.sign_eq_neg_one_of_neg hq]; simp; omega)
      | (rw [Int.sign_eq_one_of_pos hq]; simp; omega)
    | subst hq; first
      | (rw [Int.sign_eq_neg_one_of_neg hp]; simp; omega)
      | (rw [Int.sign_eq_one_of_pos hp]; simp; omega)
    | (rw [Int.sign_eq_neg_one_of_neg hp, Int.sign_eq_neg_one_of_neg hq]; simp; omega)
    | (rw [Int.sign_eq_neg_one_of_neg hp, Int.sign_eq_one_of_pos hq]; simp; omega)
    | (rw [Int.sign_eq_one_of_pos hp, Int.sign_eq_neg_one_of_neg hq]; simp; omega)
    | (rw [Int.sign_eq_one_of_pos hp, Int.sign_eq_one_of_pos hq]; simp; omega)
theorem sg_law (a b c d : Int) : (if a.sign * b.sign ≠ c.sign * d.sign then cmpI (a.sign * b.sign - c.sign * d.sign) 0 else a.sign * b.sign * cmpI ((a.natAbs * b.natAbs : Nat) : Int) ((c.natAbs * d.natAbs : Nat) : Int)) = sgI a b c d := by
  rw [← Int.sign_mul, ← Int.sign_mul, ← Int.natAbs_mul, ← Int.natAbs_mul]
  exact sg_two _ _
/-- Products word by word. -/
theorem cmp_words (x y : Nat) : (if cmpI ((x / 18446744073709551616 : Nat) : Int) ((y / 18446744073709551616 : Nat) : Int) ≠ 0 then cmpI ((x / 18446744073709551616 : Nat) : Int) ((y / 18446744073709551616 : Nat) : Int) else cmpI ((x % 18446744073709551616 : Nat) : Int) ((y % 18446744073709551616 : Nat) : Int)) = cmpI x y := by
  unfold cmpI
  split <;> split <;> split <;> (try split) <;> (try split) <;> (try split) <;> omega
theorem sgI_range (a b c d : Int) : sgI a b c d = -1 ∨ sgI a b c d = 0 ∨ sgI a b c d = 1 := by
  unfold sgI
  rcases Int.lt_trichotomy (a * b - c * d) 0 with h | h | h
  · exact Or.inl (Int.sign_eq_neg_one_of_neg h)
  · rw [h]; exact Or.inr (Or.inl rfl)
  · exact Or.inr (Or.inr (Int.sign_eq_one_of_pos h))
end Hach

namespace Hach

structure Pt where
  x : Int
  y : Int
deriving DecidableEq
/-- A point is bounded. -/
def bnd (p : Pt) : Bool := decide (-1152921504606846976 ≤ p.x) && decide (p.x ≤ 1152921504606846976) && (decide (-1152921504606846976 ≤ p.y) && decide (p.y ≤ 1152921504606846976))
def side (a b p : Pt) : Int := if bnd a && bnd b && bnd p then sgI (b.x - a.x) (p.y - a.y) (b.y - a.y) (p.x - a.x) else 0
/-- The order of points: by x, then by y. -/
def lt2 (a b : Pt) : Bool := decide (a.x < b.x) || decide (a.x = b.x) && decide (a.y < b.y)
def lo2 (a b : Pt) : Pt := if lt2 b a then b else a
def hi2 (a b : Pt) : Pt := if lt2 b a then a else b
/-- How many points two segments have in common: 0, 1, or more. -/
def meet (a b c d : Pt) : Int :=
  if bnd a && bnd b && bnd c && bnd d then
    if side a b c = 0 ∧ side a b d = 0 ∧ side c d a = 0 ∧ side c d b = 0 then
      if lt2 (lo2 (hi2 a b) (hi2 c d)) (hi2 (lo2 a b) (lo2 c d)) then 0 else if lo2 (hi2 a b) (hi2 c d) = hi2 (lo2 a b) (lo2 c d) then 1 else 2
    else if 0 < side a b c * side a b d ∨ 0 < side c d a * side c d b then 0 else 1
  else 0
def on (a b p : Pt) : Bool := bnd a && bnd b && bnd p && (decide (min a.x b.x ≤ p.x) && decide (p.x ≤ max a.x b.x) && (decide (min a.y b.y ≤ p.y) && decide (p.y ≤ max a.y b.y))) && decide (side a b p = 0)

theorem lt2_iff (a b : Pt) : lt2 a b = true ↔ a.x < b.x ∨ a.x = b.x ∧ a.y < b.y := by simp [lt2]
theorem lt2_tri (a b : Pt) : lt2 a b = true ∨ a = b ∨ lt2 b a = true := by
  obtain ⟨ax, ay⟩ := a; obtain ⟨bx, by'⟩ := b
  simp only [lt2_iff, Pt.mk.injEq]; omega
theorem lt2_irr (a : Pt) : lt2 a a = false := by simp [lt2]
theorem lt2_asym {a b : Pt} (h : lt2 a b = true) : lt2 b a = false := by
  cases e : lt2 b a with
  | false => rfl
  | true => rw [lt2_iff] at h e; omega
theorem lo2_comm (a b : Pt) : lo2 a b = lo2 b a := by
  unfold lo2
  rcases lt2_tri a b with h | h | h
  · rw [h, lt2_asym h]; rfl
  · rw [h]
  · rw [h, lt2_asym h]; rfl
theorem hi2_comm (a b : Pt) : hi2 a b = hi2 b a := by
  unfold hi2
  rcases lt2_tri a b with h | h | h
  · rw [h, lt2_asym h]; rfl
  · rw [h]
  · rw [h, lt2_asym h]; rfl
theorem side_swap (a b p : Pt) : side b a p = - side a b p := by
  unfold side
  rw [Bool.and_comm (bnd b) (bnd a)]
  split
  · unfold sgI
    rw [← Int.sign_neg]
    congr 1
    have e1 : (a.x - b.x) * (p.y - b.y) = a.x * p.y - a.x * b.y - b.x * p.y + b.x * b.y := by rw [Int.sub_mul, Int.mul_sub, Int.mul_sub]; omega
    have e2 : (a.y - b.y) * (p.x - b.x) = a.y * p.x - a.y * b.x - b.y * p.x + b.y * b.x := by rw [Int.sub_mul, Int.mul_sub, Int.mul_sub]; omega
    have e3 : (b.x - a.x) * (p.y - a.y) = b.x * p.y - b.x * a.y - a.x * p.y + a.x * a.y := by rw [Int.sub_mul, Int.mul_sub, Int.mul_sub]; omega
    have e4 : (b.y - a.y) * (p.x - a.x) = b.y * p.x - b.y * a.x - a.y * p.x + a.y * a.x := by rw [Int.sub_mul, Int.mul_sub, Int.mul_sub]; omega
    rw [e1, e2, e3, e4, Int.mul_comm a.y b.x, Int.mul_comm b.y b.x, Int.mul_comm b.y a.x, Int.mul_comm a.y a.x]
    omega
  · rfl
theorem side_same (a p : Pt) : side a a p = 0 := by
  unfold side
  split
  · unfold sgI; rw [Int.sub_self, Int.sub_self]; simp
  · rfl
theorem meet_comm (a b c d : Pt) : meet a b c d = meet c d a b := by
  unfold meet
  have e : (bnd a && bnd b && bnd c && bnd d) = (bnd c && bnd d && bnd a && bnd b) := by
    cases bnd a <;> cases bnd b <;> cases bnd c <;> cases bnd d <;> rfl
  rw [e, lo2_comm (hi2 c d) (hi2 a b), hi2_comm (lo2 c d) (lo2 a b)]
  congr 1
  have e1 : (side a b c = 0 ∧ side a b d = 0 ∧ side c d a = 0 ∧ side c d b = 0) = (side c d a = 0 ∧ side c d b = 0 ∧ side a b c = 0 ∧ side a b d = 0) := by
    apply propext; constructor <;> (rintro ⟨h1, h2, h3, h4⟩; exact ⟨h3, h4, h1, h2⟩)
  have e2 : (0 < side a b c * side a b d ∨ 0 < side c d a * side c d b) = (0 < side c d a * side c d b ∨ 0 < side a b c * side a b d) := propext (Or.comm)
  simp only [e1, e2]

theorem sq_pos {s : Int} (h : s ≠ 0) : 0 < s * s := by
  rcases Int.lt_or_gt_of_ne h with h | h
  · exact Int.mul_pos_of_neg_of_neg h h
  · exact Int.mul_pos h h
/-- Two segments of which one is a point: the lone extra test of the reference is never met. -/
theorem meet_dead {a c d : Pt} (h : ¬ (side a a c = 0 ∧ side a a d = 0 ∧ side c d a = 0)) : 0 < side c d a * side c d a := by
  refine sq_pos fun e => h ⟨side_same a c, side_same a d, e⟩

theorem side_zero {a b p : Pt} (ha : bnd a = true) (hb : bnd b = true) (hp : bnd p = true) : side a b p = 0 ↔ (b.x - a.x) * (p.y - a.y) = (b.y - a.y) * (p.x - a.x) := by
  unfold side
  rw [ha, hb, hp]
  simp only [Bool.and_self, if_true]
  unfold sgI
  rw [Int.sign_eq_zero_iff_zero]
  omega
/-- On a line that rises from a to b (u > 0 to the right). -/
theorem between_y {u v t s : Int} (hu : 0 < u) (ht : 0 ≤ t) (htu : t ≤ u) (e : u * s = v * t) : min 0 v ≤ s ∧ s ≤ max 0 v := by
  rcases Int.le_total 0 v with hv | hv
  · have h1 : 0 ≤ u * s := by rw [e]; exact Int.mul_nonneg hv ht
    have h2 : u * s ≤ u * v := by rw [e, Int.mul_comm v t]; exact Int.mul_le_mul_of_nonneg_right htu hv
    have h3 : 0 ≤ s := Int.le_of_mul_le_mul_left (by rw [Int.mul_zero]; exact h1) hu
    have h4 : s ≤ v := Int.le_of_mul_le_mul_left h2 hu
    omega
  · have h1 : u * s ≤ 0 := by rw [e]; exact Int.mul_nonpos_of_nonpos_of_nonneg hv ht
    have h2 : u * v ≤ u * s := by rw [e, Int.mul_comm u v]; exact Int.mul_le_mul_of_nonpos_left hv htu
    have h3 : s ≤ 0 := Int.le_of_mul_le_mul_left (by rw [Int.mul_zero]; exact h1) hu
    have h4 : v ≤ s := Int.le_of_mul_le_mul_left h2 hu
    omega
theorem zero_of_mul {u s : Int} (hu : 0 < u) (e : u * s = 0) : s = 0 := by
  rcases Int.mul_eq_zero.1 e with h | h
  · omega
  · exact h
theorem same_of_mul {u v s : Int} (hu : 0 < u) (e : u * s = v * u) : s = v := by
  have : u * (s - v) = 0 := by rw [Int.mul_sub, e, Int.mul_comm v u]; omega
  have := zero_of_mul hu this
  omega
/-- Collinear points: between two in order, just if in their box. -/
theorem box_lex {a b p : Pt} (hab : lt2 b a = false) (e : (b.x - a.x) * (p.y - a.y) = (b.y - a.y) * (p.x - a.x)) :
    (lt2 p a = false ∧ lt2 b p = false) ↔ (min a.x b.x ≤ p.x ∧ p.x ≤ max a.x b.x ∧ min a.y b.y ≤ p.y ∧ p.y ≤ max a.y b.y) := by
  have n1 : lt2 b a = false ↔ ¬ (b.x < a.x ∨ b.x = a.x ∧ b.y < a.y) := by rw [← lt2_iff]; simp
  have n2 : lt2 p a = false ↔ ¬ (p.x < a.x ∨ p.x = a.x ∧ p.y < a.y) := by rw [← lt2_iff]; simp
  have n3 : lt2 b p = false ↔ ¬ (b.x < p.x ∨ b.x = p.x ∧ b.y < p.y) := by rw [← lt2_iff]; simp
  rw [n1] at hab
  rw [n2, n3]
  by_cases hx : a.x < b.x
  · constructor
    · rintro ⟨h1, h2⟩
      have := between_y (u := b.x - a.x) (v := b.y - a.y) (t := p.x - a.x) (s := p.y - a.y) (by omega) (by omega) (by omega) e
      omega
    · rintro ⟨h1, h2, h3, h4⟩
      have k1 : p.x = a.x → p.y = a.y := fun h => by
        rw [h, Int.sub_self, Int.mul_zero] at e
        have := zero_of_mul (u := b.x - a.x) (by omega) e; omega
      have k2 : p.x = b.x → p.y = b.y := fun h => by
        rw [h] at e
        have := same_of_mul (u := b.x - a.x) (by omega) e; omega
      constructor <;> omega
  · omega
theorem on_meet (a b p : Pt) : decide (meet a b p p = 1) = on a b p := by
  unfold on
  cases ha : bnd a with
  | false => simp [meet, ha]
  | true =>
  cases hb : bnd b with
  | false => simp [meet, hb]
  | true =>
  cases hp : bnd p with
  | false => simp [meet, hp]
  | true =>
  by_cases hs : side a b p = 0
  · have e := (side_zero ha hb hp).1 hs
    unfold meet
    rw [ha, hb, hp, hs, side_same, side_same]
    simp only [Bool.and_self, if_true, and_self, decide_true, Bool.and_true, Bool.true_and]
    have hpp : lo2 p p = p ∧ hi2 p p = p := by unfold lo2 hi2; rw [lt2_irr]; exact ⟨rfl, rfl⟩
    rw [hpp.1, hpp.2]
    -- lo ≤ hi
    have key : ∀ l h : Pt, lt2 h l = false → (decide ((if lt2 (lo2 h p) (hi2 l p) = true then (0 : Int) else if lo2 h p = hi2 l p then 1 else 2) = 1)) = (!(lt2 p l) && !(lt2 h p)) := by
      intro l h hlh
      unfold lo2 hi2
      cases h1 : lt2 p l with
      | true =>
        cases h2 : lt2 p h with
        | true => simp [h1]
        | false =>
          exfalso
          have a1 := (lt2_iff p l).1 h1
          have a2 : ¬ (p.x < h.x ∨ p.x = h.x ∧ p.y < h.y) := by rw [← lt2_iff]; simp [h2]
          have a3 : ¬ (h.x < l.x ∨ h.x = l.x ∧ h.y < l.y) := by rw [← lt2_iff]; simp [hlh]
          omega
      | false =>
        cases h2 : lt2 p h with
        | true => simp [lt2_irr, lt2_asym h2]
        | false =>
          rcases lt2_tri h p with h3 | h3 | h3
          · simp [h3]
          · subst h3; simp [lt2_irr]
          · rw [h3] at h2; cases h2
    rcases lt2_tri a b with hl | hl | hl
    · have hl' := lt2_asym hl
      have e1 : lo2 a b = a ∧ hi2 a b = b := by unfold lo2 hi2; rw [hl']; exact ⟨rfl, rfl⟩
      rw [e1.1, e1.2, key a b hl']
      have := box_lex hl' e
      cases h1 : lt2 p a <;> cases h2 : lt2 b p <;> simp [h1, h2] at this ⊢ <;> omega
    · subst hl
      have e1 : lo2 a a = a ∧ hi2 a a = a := by unfold lo2 hi2; rw [lt2_irr]; exact ⟨rfl, rfl⟩
      rw [e1.1, e1.2, key a a (lt2_irr a)]
      have := box_lex (lt2_irr a) e
      cases h1 : lt2 p a <;> cases h2 : lt2 a p <;> simp [h1, h2] at this ⊢ <;> omega
    · have hl' := lt2_asym hl
      have e1 : lo2 a b = b ∧ hi2 a b = a := by unfold lo2 hi2; rw [hl]; exact ⟨rfl, rfl⟩
      have e' : (a.x - b.x) * (p.y - b.y) = (a.y - b.y) * (p.x - b.x) := (side_zero hb ha hp).1 (by rw [side_swap, hs]; rfl)
      rw [e1.1, e1.2, key b a hl']
      have := box_lex hl' e'
      cases h1 : lt2 p b <;> cases h2 : lt2 a p <;> simp [h1, h2] at this ⊢ <;> omega
  · have : meet a b p p = 0 := by
      unfold meet
      rw [ha, hb, hp]
      simp only [Bool.and_self, if_true, hs, false_and, if_false]
      rw [if_pos (Or.inl (sq_pos hs))]
    rw [this]
    simp [hs]
end Hach

namespace Hach

def gp (l : List Pt) (i : Nat) : Pt := l.getD i ⟨0, 0⟩
def lastP (l : List Pt) : Pt := gp l (l.length - 1)
def rightP (p : Pt) : Bool := decide (-16384 ≤ p.x) && decide (p.x ≤ 16384) && (decide (-16384 ≤ p.y) && decide (p.y ≤ 16384))
def closedL (l : List Pt) : Bool := decide (3 < l.length) && decide (gp l 0 = lastP l)
def wantL (l : List Pt) (i k : Nat) : Int := if k + 1 = i ∨ closedL l = true ∧ k = 0 ∧ i = l.length - 2 then 1 else 0
def pairOk (l : List Pt) (i k : Nat) : Bool := decide (meet (gp l k) (gp l (k + 1)) (gp l i) (gp l (i + 1)) = wantL l i k)
def segOk (l : List Pt) (i : Nat) : Bool := !decide (gp l i = gp l (i + 1)) && (List.range i).all (pairOk l i)
/-- The error of a line. -/
def chkLn (l : List Pt) : Int :=
  if l.length < 2 ∨ 40 < l.length then 2 else if l.all rightP = false then 10 else if (List.range (l.length - 1)).all (segOk l) = true then 0 else 11
def endL (l m : List Pt) (i k : Nat) : Bool :=
  [gp l 0, lastP l].any fun p => on (gp l i) (gp l (i + 1)) p && on (gp m k) (gp m (k + 1)) p && (decide (p = gp m 0) || decide (p = lastP m))
def crossAt (l m : List Pt) (i k : Nat) : Bool :=
  decide (meet (gp l i) (gp l (i + 1)) (gp m k) (gp m (k + 1)) = 2) || decide (meet (gp l i) (gp l (i + 1)) (gp m k) (gp m (k + 1)) = 1) && !endL l m i k
/-- Two lines have a common point that is not an end of both. -/
def crossLn (l m : List Pt) : Bool :=
  l.all rightP && m.all rightP && (List.range (l.length - 1)).any fun i => (List.range (m.length - 1)).any (crossAt l m i)
def dot (a b : Pt) : Int := (b.x - a.x) * (b.x - a.x) + (b.y - a.y) * (b.y - a.y)
def lenTo (l : List Pt) : Nat → Int
  | 0 => 0
  | n + 1 => lenTo l n + sqI (dot (gp l n) (gp l (n + 1)))
def lenLn (l : List Pt) : Int := lenTo l (l.length - 1)

theorem rightP_iff (p : Pt) : rightP p = true ↔ (-16384 ≤ p.x ∧ p.x ≤ 16384) ∧ -16384 ≤ p.y ∧ p.y ≤ 16384 := by simp [rightP]
theorem bnd_right {p : Pt} (h : rightP p = true) : bnd p = true := by
  rw [rightP_iff] at h
  simp only [bnd, Bool.and_eq_true, decide_eq_true_eq]; omega
theorem gp_mem {l : List Pt} {i : Nat} (h : i < l.length) : gp l i ∈ l := by
  unfold gp; rw [List.getD_eq_getElem?_getD, List.getElem?_eq_getElem h]; exact List.getElem_mem h
theorem gp_right {l : List Pt} (hr : l.all rightP = true) {i : Nat} (h : i < l.length) : rightP (gp l i) = true := List.all_eq_true.1 hr _ (gp_mem h)
theorem all_range_succ (f : Nat → Bool) (n : Nat) : (List.range (n + 1)).all f = ((List.range n).all f && f n) := by
  rw [List.range_succ, List.all_append]; simp
theorem any_range_succ (f : Nat → Bool) (n : Nat) : (List.range (n + 1)).any f = ((List.range n).any f || f n) := by
  rw [List.range_succ, List.any_append]; simp
theorem all_range_false {f : Nat → Bool} {i n : Nat} (h : i < n) (hf : f i = false) : (List.range n).all f = false := by
  cases e : (List.range n).all f with
  | false => rfl
  | true => rw [List.all_eq_true.1 e i (List.mem_range.2 h)] at hf; cases hf
theorem any_range_true {f : Nat → Bool} {i n : Nat} (h : i < n) (hf : f i = true) : (List.range n).any f = true :=
  List.any_eq_true.2 ⟨i, List.mem_range.2 h, hf⟩
theorem meet_three (a b c d : Pt) : meet a b c d = 0 ∨ meet a b c d = 1 ∨ meet a b c d = 2 := by
  unfold meet; repeat' split
  all_goals simp
theorem dot_bd {a b : Pt} (ha : rightP a = true) (hb : rightP b = true) : 0 ≤ dot a b ∧ dot a b ≤ 2147483648 := by
  rw [rightP_iff] at ha hb
  unfold dot
  have key : ∀ d : Int, -32768 ≤ d → d ≤ 32768 → 0 ≤ d * d ∧ d * d ≤ 1073741824 := fun d h1 h2 => by
    rcases Int.le_total 0 d with h | h
    · exact ⟨Int.mul_nonneg h h, Int.le_trans (Int.mul_le_mul h2 h2 h (by decide)) (by decide)⟩
    · have e : d * d = (-d) * (-d) := by rw [Int.neg_mul_neg]
      rw [e]; exact ⟨Int.mul_nonneg (by omega) (by omega), Int.le_trans (Int.mul_le_mul (show -d ≤ 32768 by omega) (show -d ≤ 32768 by omega) (by omega) (by decide)) (by decide)⟩
  have h1 := key (b.x - a.x) (by omega) (by omega)
  have h2 := key (b.y - a.y) (by omega) (by omega)
  omega
theorem sqI_bd {n : Int} (h : n ≤ 2147483648) : 0 ≤ sqI n ∧ sqI n ≤ 46341 := by
  refine ⟨sqI_nonneg n, ?_⟩
  unfold sqI
  by_cases hg : 46341 < rt n.toNat
  · have := sq_mono (show 46342 ≤ rt n.toNat from hg); have := (rt_both n.toNat).1; omega
  · omega
theorem lenTo_bd {l : List Pt} (hr : l.all rightP = true) : ∀ n, n < l.length → 0 ≤ lenTo l n ∧ lenTo l n ≤ 46341 * n
  | 0, _ => by unfold lenTo; omega
  | n + 1, h => by
    have ih := lenTo_bd hr n (by omega)
    have := sqI_bd (dot_bd (gp_right hr (show n < l.length by omega)) (gp_right hr h)).2
    unfold lenTo; omega
theorem lenLn_bd {l : List Pt} (hr : l.all rightP = true) : 0 ≤ lenLn l ∧ lenLn l ≤ 46341 * l.length := by
  unfold lenLn
  cases e : l.length with
  | zero => simp [lenTo]
  | succ n => have := lenTo_bd hr (n + 1 - 1) (by omega); omega
theorem dot_zero {a b : Pt} (h : dot a b = 0) : a = b := by
  unfold dot at h
  have k : ∀ d : Int, 0 ≤ d * d := fun d => by
    rcases Int.le_total 0 d with h | h
    · exact Int.mul_nonneg h h
    · rw [← Int.neg_mul_neg]; exact Int.mul_nonneg (by omega) (by omega)
  have z : ∀ d : Int, d * d = 0 → d = 0 := fun d h => by rcases Int.mul_eq_zero.1 h with h | h <;> exact h
  have h1 := z (b.x - a.x) (by have := k (b.x - a.x); have := k (b.y - a.y); omega)
  have h2 := z (b.y - a.y) (by have := k (b.x - a.x); have := k (b.y - a.y); omega)
  obtain ⟨ax, ay⟩ := a; obtain ⟨bx, by'⟩ := b
  simp only [Pt.mk.injEq] at *; omega
theorem sqI_pos {n : Int} (h : 0 < n) : 0 < sqI n := by
  unfold sqI
  have := (rt_both n.toNat).2
  cases e : rt n.toNat with
  | zero => rw [e] at this; omega
  | succ k => omega
/-- A right line has some length. -/
theorem lenLn_pos {l : List Pt} (h : chkLn l = 0) : 0 < lenLn l := by
  unfold chkLn at h
  split at h
  · cases h
  · rename_i h1
    split at h
    · cases h
    · rename_i h2
      split at h
      · rename_i h3
        have hr : l.all rightP = true := by simpa using h2
        have h0 := List.all_eq_true.1 h3 0 (List.mem_range.2 (by omega))
        simp only [segOk, Bool.and_eq_true, Bool.not_eq_true', decide_eq_false_iff_not] at h0
        have hd : 0 < dot (gp l 0) (gp l 1) := by
          have := (dot_bd (gp_right hr (show 0 < l.length by omega)) (gp_right hr (show 1 < l.length by omega))).1
          rcases Int.lt_or_eq_of_le this with h | h
          · exact h
          · exact absurd (dot_zero h.symm) h0.1
        have mono : ∀ n, 1 ≤ n → sqI (dot (gp l 0) (gp l 1)) ≤ lenTo l n := by
          intro n hn
          induction n with
          | zero => omega
          | succ n ih =>
            unfold lenTo
            rcases Nat.eq_or_lt_of_le hn with e | e
            · rw [← show 0 = n by omega]; simp [lenTo]
            · have := ih (by omega); have := sqI_nonneg (dot (gp l n) (gp l (n + 1))); omega
        have := mono (l.length - 1) (by omega)
        have := sqI_pos hd
        unfold lenLn; omega
      · cases h
end Hach
