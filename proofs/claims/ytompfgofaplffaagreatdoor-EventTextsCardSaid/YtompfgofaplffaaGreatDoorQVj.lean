/- Plain: edges, and the face in which a point lies. -/
import Derived.Test.YtompfgofaplffaaGreatDoorQVc
set_option linter.unusedSimpArgs false
set_option linter.unusedVariables false
namespace Hach

structure Ed where
  id : Int
  line : List Pt
  left : Int
  right : Int
deriving DecidableEq
/-- A spot (with the divisor 1) is bounded. -/
def bd37 (p : Pt) : Bool := decide (-137438953472 ≤ p.x) && decide (p.x ≤ 137438953472) && (decide (-137438953472 ≤ p.y) && decide (p.y ≤ 137438953472))
def sside (a b p : Pt) : Int := if bd37 a && bd37 b && bd37 p then sgI (b.x - a.x) (p.y - a.y) (b.y - a.y) (p.x - a.x) else 0
def hasP (a b p : Pt) : Bool := decide (cmpI p.x a.x * cmpI p.x b.x ≤ 0) && decide (cmpI p.y a.y * cmpI p.y b.y ≤ 0) && decide (sside a b p = 0)
def rayP (a b p : Pt) : Int :=
  if ¬ p.y < a.y ∧ p.y < b.y ∧ sside a b p < 0 then 1 else if p.y < a.y ∧ ¬ p.y < b.y ∧ sside b a p < 0 then -1 else 0
/-- A rising segment, and the face to its right. -/
structure Rs where
  a : Pt
  b : Pt
  east : Int
deriving DecidableEq
def orI (x y : Int) : Int := if x ≠ 0 then x else y
def beyond (s t : Rs) : Bool :=
  if 0 ≤ cmpI t.a.y s.a.y then decide (orI (sside s.a s.b t.a) (sside s.a s.b t.b) < 0) else decide (0 < orI (sside t.a t.b s.a) (sside t.a t.b s.b))
def newR (a b : Pt) (l r : Int) (p : Pt) : Option Rs := if rayP a b p = 1 then some ⟨a, b, r⟩ else if rayP a b p = -1 then some ⟨b, a, l⟩ else none
def stepR (best : Option Rs) (s : Option Rs) : Option Rs :=
  match s with
  | none => best
  | some s => match best with
    | none => some s
    | some t => if beyond t s = true then some s else some t
def endR : Option Rs → Int
  | none => 0
  | some s => s.east
/-- A segment with the faces on its sides. -/
structure Sg where
  a : Pt
  b : Pt
  l : Int
  r : Int
def segsFrom (e : Ed) (i : Nat) : List Sg := (List.range' i (e.line.length - 1 - i)).map fun j => ⟨gp e.line j, gp e.line (j + 1), e.left, e.right⟩
def segsE (es : List Ed) : List Sg := es.flatMap fun e => segsFrom e 0
def atS (p : Pt) : List Sg → Option Rs → Int × Bool
  | [], best => (endR best, true)
  | s :: l, best => if hasP s.a s.b p = true then (0, false) else atS p l (stepR best (newR s.a s.b s.l s.r p))
/-- The face in which a point lies. -/
def atE (es : List Ed) (p : Pt) : Int × Bool :=
  if bd37 p && es.all (fun e => e.line.all bd37) then atS p (segsE es) none else (0, false)

theorem segsFrom_step {e : Ed} {i : Nat} (h : i + 1 < e.line.length) : segsFrom e i = ⟨gp e.line i, gp e.line (i + 1), e.left, e.right⟩ :: segsFrom e (i + 1) := by
  unfold segsFrom
  rw [show e.line.length - 1 - i = (e.line.length - 1 - (i + 1)) + 1 by omega, List.range'_succ]; rfl
theorem segsFrom_end {e : Ed} {i : Nat} (h : ¬ i + 1 < e.line.length) : segsFrom e i = [] := by
  unfold segsFrom
  rw [show e.line.length - 1 - i = 0 by omega]; rfl
theorem segsE_cons (e : Ed) (es : List Ed) : segsE (e :: es) = segsFrom e 0 ++ segsE es := rfl
theorem cmpI_three (x y : Int) : cmpI x y = -1 ∨ cmpI x y = 0 ∨ cmpI x y = 1 := by
  unfold cmpI; repeat' split
  all_goals simp
theorem cmp_one (x y : Int) : sgI x 1 y 1 = cmpI x y := by rw [cmpI_sign]; unfold sgI; rw [Int.mul_one, Int.mul_one]
/-- The reference's way to say that a number lies between two others. -/
theorem between_side {x y : Int} (hx : x = -1 ∨ x = 0 ∨ x = 1) (hy : y = -1 ∨ y = 0 ∨ y = 1) : (if x = y then x else 0) = 0 ↔ x * y ≤ 0 := by
  rcases hx with rfl | rfl | rfl <;> rcases hy with rfl | rfl | rfl <;> decide
theorem cmpI_pos (x y : Int) : 0 < cmpI x y ↔ y < x := by
  unfold cmpI
  repeat' split
  all_goals omega
theorem sside_range (a b p : Pt) : sside a b p = -1 ∨ sside a b p = 0 ∨ sside a b p = 1 := by
  unfold sside; split
  · exact sgI_range _ _ _ _
  · simp
theorem bd37_right {p : Pt} (h : rightP p = true) : bd37 p = true := by
  rw [rightP_iff] at h
  simp only [bd37, Bool.and_eq_true, decide_eq_true_eq]; omega
end Hach

namespace Hach

def crossP (a b : Pt) : Int := a.x * b.y - a.y * b.x
def subP (a b : Pt) : Pt := ⟨a.x - b.x, a.y - b.y⟩
def lowerD (d : Pt) : Bool := decide (0 < d.x) || decide (d.x = 0) && decide (d.y < 0)
/-- The order of directions, counterclockwise from straight down on. -/
def beforeD (a b : Pt) : Bool := if lowerD a = lowerD b then decide (0 < crossP a b) else lowerD a
def sameD (a b : Pt) : Prop := lowerD a = lowerD b ∧ crossP a b = 0
structure Br where
  to : Pt
  left : Int
  right : Int
deriving DecidableEq

theorem lowerD_iff (d : Pt) : lowerD d = true ↔ 0 < d.x ∨ d.x = 0 ∧ d.y < 0 := by simp [lowerD]
theorem crossP_anti (a b : Pt) : crossP b a = - crossP a b := by unfold crossP; rw [Int.mul_comm b.x, Int.mul_comm b.y]; omega
theorem crossP_self (a : Pt) : crossP a a = 0 := by have := crossP_anti a a; omega
theorem crossP_three (a b c : Pt) : crossP a c * b.x = crossP a b * c.x + crossP b c * a.x := by
  unfold crossP
  rw [Int.sub_mul, Int.sub_mul, Int.sub_mul]
  rw [Int.mul_assoc a.x c.y b.x, Int.mul_assoc a.y c.x b.x, Int.mul_assoc a.x b.y c.x, Int.mul_assoc a.y b.x c.x, Int.mul_assoc b.x c.y a.x, Int.mul_assoc b.y c.x a.x]
  have e1 : a.x * (c.y * b.x) = b.x * (c.y * a.x) := by rw [Int.mul_comm c.y b.x, Int.mul_left_comm, Int.mul_comm a.x c.y]
  have e2 : a.y * (c.x * b.x) = a.y * (b.x * c.x) := by rw [Int.mul_comm c.x]
  have e3 : a.x * (b.y * c.x) = b.y * (c.x * a.x) := by rw [Int.mul_left_comm, Int.mul_comm a.x c.x]
  rw [e1, e2, e3]; omega
theorem pos_of_mul {a b : Int} (hb : 0 < b) (h : 0 < a * b) : 0 < a := by
  rcases Int.lt_or_le 0 a with h1 | h1
  · exact h1
  · have := Int.mul_nonpos_of_nonpos_of_nonneg h1 (Int.le_of_lt hb); omega
/-- Within the lower half. -/
theorem cross_trans_low {a b c : Pt} (ha : lowerD a = true) (hb : lowerD b = true) (hc : lowerD c = true) (h1 : 0 < crossP a b) (h2 : 0 < crossP b c) : 0 < crossP a c := by
  rw [lowerD_iff] at ha hb hc
  have e := crossP_three a b c
  have hbx : 0 < b.x := by
    rcases hb with h | ⟨h, hy⟩
    · exact h
    · exfalso
      have : crossP a b = a.x * b.y := by unfold crossP; rw [h, Int.mul_zero]; omega
      rw [this] at h1
      have := Int.mul_nonpos_of_nonneg_of_nonpos (show 0 ≤ a.x by omega) (show b.y ≤ 0 by omega)
      omega
  refine pos_of_mul hbx ?_
  rw [e]
  have k1 : 0 ≤ crossP a b * c.x := Int.mul_nonneg (by omega) (by omega)
  have k2 : 0 ≤ crossP b c * a.x := Int.mul_nonneg (by omega) (by omega)
  rcases Int.lt_or_eq_of_le (show 0 ≤ c.x by omega) with h | h
  · have := Int.mul_pos h1 h; omega
  · rcases Int.lt_or_eq_of_le (show 0 ≤ a.x by omega) with g | g
    · have := Int.mul_pos h2 g; omega
    · exfalso
      have : crossP b c = b.x * c.y := by unfold crossP; rw [← h, Int.mul_zero]; omega
      rw [this] at h2
      have := Int.mul_nonpos_of_nonneg_of_nonpos (show 0 ≤ b.x by omega) (show c.y ≤ 0 by omega)
      omega
def negP (a : Pt) : Pt := ⟨-a.x, -a.y⟩
theorem crossP_neg (a b : Pt) : crossP (negP a) (negP b) = crossP a b := by unfold crossP negP; simp only [Int.neg_mul_neg]
theorem lowerD_neg {a : Pt} (hz : a ≠ ⟨0, 0⟩) (h : lowerD a = false) : lowerD (negP a) = true := by
  have h' : ¬ (0 < a.x ∨ a.x = 0 ∧ a.y < 0) := by rw [← lowerD_iff]; simp [h]
  rw [lowerD_iff]; unfold negP
  obtain ⟨x, y⟩ := a
  simp only [ne_eq, Pt.mk.injEq] at *; omega
theorem beforeD_trans {a b c : Pt} (ha : a ≠ ⟨0, 0⟩) (hb : b ≠ ⟨0, 0⟩) (hc : c ≠ ⟨0, 0⟩) (h1 : beforeD a b = true) (h2 : beforeD b c = true) : beforeD a c = true := by
  unfold beforeD at *
  cases la : lowerD a <;> cases lb : lowerD b <;> cases lc : lowerD c <;> simp [la, lb, lc] at h1 h2 ⊢
  · rw [← crossP_neg] at h1 h2 ⊢
    exact cross_trans_low (lowerD_neg ha la) (lowerD_neg hb lb) (lowerD_neg hc lc) h1 h2
  · exact cross_trans_low la lb lc h1 h2
theorem beforeD_irr (a : Pt) : beforeD a a = false := by unfold beforeD; simp [crossP_self]
theorem beforeD_tri {a b : Pt} (h : ¬ sameD a b) : beforeD a b = true ∨ beforeD b a = true := by
  unfold sameD at h
  unfold beforeD
  have := crossP_anti a b
  cases la : lowerD a <;> cases lb : lowerD b <;> simp [la, lb] at h ⊢ <;> omega
theorem beforeD_asym {a b : Pt} (h : beforeD a b = true) : beforeD b a = false := by
  unfold beforeD at *
  have := crossP_anti a b
  cases la : lowerD a <;> cases lb : lowerD b <;> simp [la, lb] at h ⊢ <;> omega

/-- A list of branches in strict order. -/
def SortB : List Br → Prop
  | [] => True
  | x :: l => (∀ y ∈ l, beforeD x.to y.to = true) ∧ SortB l
/-- Two lists in strict order with the same members are the same. -/
theorem sortB_eq : ∀ {l m : List Br}, SortB l → SortB m → (∀ x, x ∈ l ↔ x ∈ m) → l = m
  | [], [], _, _, _ => rfl
  | [], y :: m, _, _, h => absurd ((h y).2 List.mem_cons_self) (by simp)
  | x :: l, [], _, _, h => absurd ((h x).1 List.mem_cons_self) (by simp)
  | x :: l, y :: m, h1, h2, h => by
    have e : x = y := by
      rcases List.mem_cons.1 ((h x).1 List.mem_cons_self) with e | hx
      · exact e
      · rcases List.mem_cons.1 ((h y).2 List.mem_cons_self) with e | hy
        · exact e.symm
        · have a := h2.1 x hx
          have b := h1.1 y hy
          rw [beforeD_asym a] at b; cases b
    subst e
    congr 1
    refine sortB_eq h1.2 h2.2 fun z => ?_
    constructor
    · intro hz
      rcases List.mem_cons.1 ((h z).1 (List.mem_cons_of_mem _ hz)) with e | hm
      · subst e; have := h1.1 z hz; rw [beforeD_irr] at this; cases this
      · exact hm
    · intro hz
      rcases List.mem_cons.1 ((h z).2 (List.mem_cons_of_mem _ hz)) with e | hm
      · subst e; have := h2.1 z hz; rw [beforeD_irr] at this; cases this
      · exact hm
/-- A branch put into a list in order. -/
def insB (b : Br) (l : List Br) : List Br :=
  match l with
  | [] => [b]
  | x :: l => if beforeD b.to x.to = true then b :: x :: l else x :: insB b l
theorem mem_insB (b : Br) : ∀ (l : List Br) (x : Br), x ∈ insB b l ↔ x = b ∨ x ∈ l
  | [], x => by simp [insB]
  | y :: l, x => by
    unfold insB
    split
    · simp
    · simp only [List.mem_cons, mem_insB b l x]
      constructor
      · rintro (h | h | h) <;> simp [h]
      · rintro (h | h | h) <;> simp [h]
theorem sortB_insB {b : Br} (hb : b.to ≠ ⟨0, 0⟩) : ∀ {l : List Br}, SortB l → (∀ x ∈ l, x.to ≠ ⟨0, 0⟩ ∧ ¬ sameD b.to x.to) → SortB (insB b l)
  | [], _, _ => ⟨fun y hy => by simp at hy, trivial⟩
  | x :: l, h, hl => by
    unfold insB
    split
    · rename_i hbx
      refine ⟨fun y hy => ?_, h⟩
      rcases List.mem_cons.1 hy with e | hy
      · rw [e]; exact hbx
      · exact beforeD_trans hb (hl x List.mem_cons_self).1 (hl y (List.mem_cons_of_mem _ hy)).1 hbx (h.1 y hy)
    · rename_i hbx
      have hxb : beforeD x.to b.to = true := (beforeD_tri (hl x List.mem_cons_self).2).resolve_left hbx
      refine ⟨fun y hy => ?_, sortB_insB hb h.2 fun y hy => hl y (List.mem_cons_of_mem _ hy)⟩
      rcases (mem_insB b l y).1 hy with e | hy
      · rw [e]; exact hxb
      · exact h.1 y hy
end Hach

namespace Hach

theorem meet_swap (a b c d : Pt) : meet b a c d = meet a b c d := by
  unfold meet
  have e : (bnd b && bnd a && bnd c && bnd d) = (bnd a && bnd b && bnd c && bnd d) := by rw [Bool.and_comm (bnd b)]
  rw [e, side_swap a b c, side_swap a b d, lo2_comm b a, hi2_comm b a]
  congr 1
  have e1 : (-side a b c = 0 ∧ -side a b d = 0 ∧ side c d b = 0 ∧ side c d a = 0) = (side a b c = 0 ∧ side a b d = 0 ∧ side c d a = 0 ∧ side c d b = 0) := by
    apply propext; constructor <;> (rintro ⟨h1, h2, h3, h4⟩; exact ⟨by omega, by omega, h4, h3⟩)
  have e2 : (0 < -side a b c * -side a b d ∨ 0 < side c d b * side c d a) = (0 < side a b c * side a b d ∨ 0 < side c d a * side c d b) := by
    rw [Int.neg_mul_neg, Int.mul_comm (side c d b)]
  simp only [e1, e2]
theorem meet_swap2 (a b c d : Pt) : meet a b d c = meet a b c d := by rw [meet_comm, meet_swap, meet_comm]
theorem side_cross {p q r : Pt} (hp : bnd p = true) (hq : bnd q = true) (hr : bnd r = true) : side p q r = 0 ↔ crossP (subP q p) (subP r p) = 0 := by
  rw [side_zero hp hq hr]; unfold crossP subP; simp only []; omega
theorem subP_zero {p q : Pt} : subP q p = ⟨0, 0⟩ ↔ q = p := by
  obtain ⟨x, y⟩ := p; obtain ⟨u, v⟩ := q
  simp only [subP, Pt.mk.injEq]; omega
theorem mul_zero_right {u s : Int} (hu : u ≠ 0) (e : u * s = 0) : s = 0 := by
  rcases Int.mul_eq_zero.1 e with h | h
  · exact absurd h hu
  · exact h
/-- The same direction: on the same side of the point. -/
theorem sameD_lt {p q r : Pt} (hq : q ≠ p) (hr : r ≠ p) (h : sameD (subP q p) (subP r p)) : (lt2 p q = true ∧ lt2 p r = true) ∨ (lt2 q p = true ∧ lt2 r p = true) := by
  obtain ⟨hl, hc⟩ := h
  have c1 : (q.x - p.x) * (r.y - p.y) = (q.y - p.y) * (r.x - p.x) := by unfold crossP subP at hc; simp only [] at hc; omega
  have l1 : lowerD (subP q p) = true ↔ (0 < q.x - p.x ∨ q.x - p.x = 0 ∧ q.y - p.y < 0) := lowerD_iff _
  have l2 : lowerD (subP r p) = true ↔ (0 < r.x - p.x ∨ r.x - p.x = 0 ∧ r.y - p.y < 0) := lowerD_iff _
  rw [hl, l2] at l1
  rw [lt2_iff, lt2_iff, lt2_iff, lt2_iff]
  have nq : ¬ (q.x - p.x = 0 ∧ q.y - p.y = 0) := fun e => hq (by obtain ⟨x, y⟩ := p; obtain ⟨u, v⟩ := q; simp only [Pt.mk.injEq] at *; omega)
  have nr : ¬ (r.x - p.x = 0 ∧ r.y - p.y = 0) := fun e => hr (by obtain ⟨x, y⟩ := p; obtain ⟨u, v⟩ := r; simp only [Pt.mk.injEq] at *; omega)
  have z1 : q.x - p.x = 0 → r.x - p.x = 0 := fun e => by
    rw [e, Int.zero_mul] at c1
    exact mul_zero_right (u := q.y - p.y) (by omega) c1.symm
  have z2 : r.x - p.x = 0 → q.x - p.x = 0 := fun e => by
    rw [e, Int.mul_zero, Int.mul_comm] at c1
    exact mul_zero_right (u := r.y - p.y) (by omega) c1
  omega
theorem meet_two {p q r : Pt} (hp : bnd p = true) (bq : bnd q = true) (br : bnd r = true) (hq : q ≠ p) (hr : r ≠ p) (h : sameD (subP q p) (subP r p)) : meet p q p r = 2 := by
  have s1 : side p q p = 0 := (side_cross hp bq hp).2 (by rw [subP_zero.2 rfl]; unfold crossP; simp)
  have s2 : side p q r = 0 := (side_cross hp bq br).2 h.2
  have s3 : side p r p = 0 := (side_cross hp br hp).2 (by rw [subP_zero.2 rfl]; unfold crossP; simp)
  have s4 : side p r q = 0 := (side_cross hp br bq).2 (by rw [crossP_anti, h.2]; rfl)
  unfold meet
  rw [hp, bq, br, s1, s2, s3, s4]
  simp only [Bool.and_self, if_true, and_self]
  rcases sameD_lt hq hr h with ⟨h1, h2⟩ | ⟨h1, h2⟩
  · have e1 : lo2 p q = p ∧ hi2 p q = q := by unfold lo2 hi2; rw [lt2_asym h1]; exact ⟨rfl, rfl⟩
    have e2 : lo2 p r = p ∧ hi2 p r = r := by unfold lo2 hi2; rw [lt2_asym h2]; exact ⟨rfl, rfl⟩
    have e3 : hi2 p p = p := by unfold hi2; simp
    rw [e1.1, e1.2, e2.1, e2.2, e3]
    have e4 : lo2 q r = q ∨ lo2 q r = r := by unfold lo2; split <;> simp
    rcases e4 with e | e <;> rw [e]
    · rw [lt2_asym h1, if_neg (by simp), if_neg hq]
    · rw [lt2_asym h2, if_neg (by simp), if_neg hr]
  · have e1 : lo2 p q = q ∧ hi2 p q = p := by unfold lo2 hi2; rw [h1]; exact ⟨rfl, rfl⟩
    have e2 : lo2 p r = r ∧ hi2 p r = p := by unfold lo2 hi2; rw [h2]; exact ⟨rfl, rfl⟩
    have e3 : lo2 p p = p := by unfold lo2; simp
    rw [e1.1, e1.2, e2.1, e2.2, e3]
    have e4 : hi2 q r = q ∨ hi2 q r = r := by unfold hi2; split <;> simp
    rcases e4 with e | e <;> rw [e]
    · rw [lt2_asym h1, if_neg (by simp), if_neg (Ne.symm hq)]
    · rw [lt2_asym h2, if_neg (by simp), if_neg (Ne.symm hr)]
end Hach

namespace Hach

def brAt (e : Ed) (p : Pt) (k : Nat) : List Br :=
  if gp e.line k = p then
    (if k + 1 < e.line.length then [⟨subP (gp e.line (k + 1)) p, e.left, e.right⟩] else []) ++ (if 0 < k then [⟨subP (gp e.line (k - 1)) p, e.right, e.left⟩] else [])
  else []
def brE (e : Ed) (p : Pt) : List Br := (List.range e.line.length).flatMap (brAt e p)
def brs (es : List Ed) (p : Pt) : List Br := es.flatMap fun e => brE e p
def aroundP (es : List Ed) (p : Pt) : List Br := (brs es p).foldl (fun l b => insB b l) []
structure FineE (es : List Ed) : Prop where
  lines : ∀ e ∈ es, chkLn e.line = 0
  apart : es.Pairwise fun a b => crossLn b.line a.line = false

theorem chkLn_right {l : List Pt} (h : chkLn l = 0) : l.all rightP = true ∧ (List.range (l.length - 1)).all (segOk l) = true := by
  unfold chkLn at h
  split at h
  · cases h
  · split at h
    · cases h
    · rename_i h2
      split at h
      · exact ⟨by simpa using h2, by assumption⟩
      · cases h
theorem gp_bnd {l : List Pt} (h : l.all rightP = true) {i : Nat} (hi : i < l.length) : bnd (gp l i) = true := bnd_right (gp_right h hi)
theorem seg_ne {l : List Pt} (h : chkLn l = 0) {i : Nat} (hi : i + 1 < l.length) : gp l i ≠ gp l (i + 1) := by
  have := List.all_eq_true.1 (chkLn_right h).2 i (List.mem_range.2 (by omega))
  simp only [segOk, Bool.and_eq_true, Bool.not_eq_true', decide_eq_false_iff_not] at this
  exact this.1
theorem seg_meet {l : List Pt} (h : chkLn l = 0) {i k : Nat} (hi : i + 1 < l.length) (hk : k < i) : meet (gp l k) (gp l (k + 1)) (gp l i) (gp l (i + 1)) ≠ 2 := by
  have := List.all_eq_true.1 (chkLn_right h).2 i (List.mem_range.2 (by omega))
  simp only [segOk, Bool.and_eq_true] at this
  have := List.all_eq_true.1 this.2 k (List.mem_range.2 hk)
  simp only [pairOk, decide_eq_true_eq] at this
  rw [this]; unfold wantL; split <;> decide
/-- A branch is half of a segment that ends in p. -/
def OfSeg (l : List Pt) (p : Pt) (i : Nat) (d : Pt) : Prop :=
  i + 1 < l.length ∧ ((gp l i = p ∧ d = subP (gp l (i + 1)) p) ∨ (gp l (i + 1) = p ∧ d = subP (gp l i) p))
theorem brAt_seg {e : Ed} {p : Pt} {k : Nat} (hk : k < e.line.length) {b : Br} (h : b ∈ brAt e p k) : ∃ i, (i = k ∨ i + 1 = k) ∧ OfSeg e.line p i b.to := by
  unfold brAt at h
  split at h
  · rename_i hp
    rcases List.mem_append.1 h with h | h
    · split at h
      · rw [List.mem_singleton.1 h]; exact ⟨k, Or.inl rfl, by assumption, Or.inl ⟨hp, rfl⟩⟩
      · cases h
    · split at h
      · rename_i h0
        rw [List.mem_singleton.1 h]
        refine ⟨k - 1, Or.inr (by omega), by omega, Or.inr ⟨?_, rfl⟩⟩
        rw [show k - 1 + 1 = k by omega]; exact hp
      · cases h
  · cases h
/-- Two segments that end in p, in the same direction, meet in more than a point. -/
theorem ofSeg_two {l m : List Pt} {p d f : Pt} {i k : Nat} (hl : l.all rightP = true) (hm : m.all rightP = true) (h1 : OfSeg l p i d) (h2 : OfSeg m p k f)
    (n1 : gp l i ≠ gp l (i + 1)) (n2 : gp m k ≠ gp m (k + 1)) (hs : sameD d f) : meet (gp l i) (gp l (i + 1)) (gp m k) (gp m (k + 1)) = 2 := by
  obtain ⟨g1, h1⟩ := h1
  obtain ⟨g2, h2⟩ := h2
  have a1 := gp_bnd hl (show i < l.length by omega)
  have a2 := gp_bnd hl g1
  have a3 := gp_bnd hm (show k < m.length by omega)
  have a4 := gp_bnd hm g2
  rcases h1 with ⟨e1, rfl⟩ | ⟨e1, rfl⟩ <;> rcases h2 with ⟨e2, rfl⟩ | ⟨e2, rfl⟩
  · rw [e1] at a1 n1; rw [e2] at n2; rw [e1, e2]
    exact meet_two a1 a2 a4 (Ne.symm n1) (Ne.symm n2) hs
  · rw [e1] at a1 n1; rw [e2] at n2; rw [e1, e2, meet_swap2]
    exact meet_two a1 a2 a3 (Ne.symm n1) n2 hs
  · rw [e1] at a2 n1; rw [e2] at n2; rw [e1, e2, meet_swap]
    exact meet_two a2 a1 a4 n1 (Ne.symm n2) hs
  · rw [e1] at a2 n1; rw [e2] at n2; rw [e1, e2, meet_swap, meet_swap2]
    exact meet_two a2 a1 a3 n1 n2 hs
theorem ofSeg_ne {l : List Pt} {p d : Pt} {i : Nat} (h : chkLn l = 0) (h1 : OfSeg l p i d) : d ≠ ⟨0, 0⟩ := by
  obtain ⟨g, h1⟩ := h1
  have := seg_ne h g
  rcases h1 with ⟨e, rfl⟩ | ⟨e, rfl⟩
  · intro z; exact this (by rw [subP_zero.1 z, e])
  · intro z; exact this (by rw [subP_zero.1 z, e])
theorem mem_brE {e : Ed} {p : Pt} {b : Br} (h : b ∈ brE e p) : ∃ i, OfSeg e.line p i b.to := by
  obtain ⟨k, hk, hb⟩ := List.mem_flatMap.1 h
  obtain ⟨i, _, hi⟩ := brAt_seg (List.mem_range.1 hk) hb
  exact ⟨i, hi⟩
theorem ofSeg_own {l : List Pt} {p d f : Pt} {i k : Nat} (h : chkLn l = 0) (hik : i ≠ k) (h1 : OfSeg l p i d) (h2 : OfSeg l p k f) : ¬ sameD d f := by
  intro hs
  have hr := (chkLn_right h).1
  have e := ofSeg_two hr hr h1 h2 (seg_ne h h1.1) (seg_ne h h2.1) hs
  rcases Nat.lt_or_gt_of_ne hik with hl | hl
  · exact seg_meet h h2.1 hl e
  · exact seg_meet h h1.1 hl (by rw [meet_comm]; exact e)
theorem brE_apart {e : Ed} (h : chkLn e.line = 0) (p : Pt) : (brE e p).Pairwise fun b c => ¬ sameD b.to c.to := by
  unfold brE
  rw [List.pairwise_flatMap]
  constructor
  · intro k hk
    unfold brAt
    split
    · rename_i hp
      split
      · rename_i h1
        split
        · rename_i h0
          simp only [List.cons_append, List.nil_append, List.pairwise_cons, List.mem_singleton]
          refine ⟨fun c hc => ?_, by simp, List.Pairwise.nil⟩
          rw [hc]
          refine ofSeg_own h (i := k) (k := k - 1) (by omega) ⟨h1, Or.inl ⟨hp, rfl⟩⟩ ⟨by omega, Or.inr ⟨?_, rfl⟩⟩
          rw [show k - 1 + 1 = k by omega]; exact hp
        · simp
      · split <;> simp
    · exact List.Pairwise.nil
  · refine List.Pairwise.imp_of_mem ?_ (List.pairwise_lt_range (n := e.line.length))
    intro a b ha hb hab x hx y hy
    obtain ⟨i, hi, h1⟩ := brAt_seg (List.mem_range.1 ha) hx
    obtain ⟨k, hk, h2⟩ := brAt_seg (List.mem_range.1 hb) hy
    refine ofSeg_own h ?_ h1 h2
    intro eik
    -- the segment from vertex a to vertex b, both of which are p
    have ea : i = a ∧ i + 1 = b := by omega
    have pa : gp e.line a = p := by unfold brAt at hx; split at hx; assumption; cases hx
    have pb : gp e.line b = p := by unfold brAt at hy; split at hy; assumption; cases hy
    refine seg_ne h h1.1 ?_
    rw [ea.1, show a + 1 = b by omega, pa, pb]
theorem brs_apart {es : List Ed} (h : FineE es) (p : Pt) : (brs es p).Pairwise (fun b c => ¬ sameD b.to c.to) ∧ ∀ b ∈ brs es p, b.to ≠ ⟨0, 0⟩ := by
  constructor
  · unfold brs
    rw [List.pairwise_flatMap]
    refine ⟨fun e he => brE_apart (h.lines e he) p, List.Pairwise.imp_of_mem ?_ h.apart⟩
    intro a b ha hb hab x hx y hy hs
    obtain ⟨i, h1⟩ := mem_brE hx
    obtain ⟨k, h2⟩ := mem_brE hy
    have ra := (chkLn_right (h.lines a ha)).1
    have rb := (chkLn_right (h.lines b hb)).1
    have e := ofSeg_two ra rb h1 h2 (seg_ne (h.lines a ha) h1.1) (seg_ne (h.lines b hb) h2.1) hs
    have ht : crossLn b.line a.line = true := by
      unfold crossLn
      rw [ra, rb]
      refine any_range_true (i := k) (by have := h2.1; omega) (any_range_true (i := i) (by have := h1.1; omega) ?_)
      unfold crossAt
      rw [meet_comm, e]; rfl
    rw [ht] at hab; cases hab
  · intro b hb
    obtain ⟨e, he, hb⟩ := List.mem_flatMap.1 hb
    obtain ⟨i, h1⟩ := mem_brE hb
    exact ofSeg_ne (h.lines e he) h1
theorem mem_foldl_ins : ∀ (l acc : List Br) (x : Br), x ∈ l.foldl (fun l b => insB b l) acc ↔ x ∈ l ∨ x ∈ acc
  | [], acc, x => by simp
  | b :: l, acc, x => by
    rw [List.foldl_cons, mem_foldl_ins l, mem_insB]
    simp only [List.mem_cons]
    constructor
    · rintro (h | h | h) <;> simp [h]
    · rintro ((h | h) | h) <;> simp [h]
theorem sort_foldl_ins : ∀ (l acc : List Br), l.Pairwise (fun b c => ¬ sameD b.to c.to) → (∀ b ∈ l, b.to ≠ ⟨0, 0⟩) → SortB acc → (∀ b ∈ l, ∀ x ∈ acc, x.to ≠ ⟨0, 0⟩ ∧ ¬ sameD b.to x.to) → SortB (l.foldl (fun l b => insB b l) acc)
  | [], _, _, _, h, _ => h
  | b :: l, acc, hp, hz, h, hx => by
    rw [List.pairwise_cons] at hp
    rw [List.foldl_cons]
    refine sort_foldl_ins l _ hp.2 (fun c hc => hz c (List.mem_cons_of_mem _ hc)) (sortB_insB (hz b List.mem_cons_self) h (hx b List.mem_cons_self)) ?_
    intro c hc x hxm
    rcases (mem_insB b acc x).1 hxm with e | hm
    · rw [e]
      refine ⟨hz b List.mem_cons_self, fun hs => hp.1 c hc ?_⟩
      exact ⟨hs.1.symm, by rw [crossP_anti, hs.2]; rfl⟩
    · exact hx c (List.mem_cons_of_mem _ hc) x hm
theorem around_sort {es : List Ed} (h : FineE es) (p : Pt) : SortB (aroundP es p) :=
  sort_foldl_ins _ _ (brs_apart h p).1 (brs_apart h p).2 trivial (fun _ _ x hx => by cases hx)
theorem mem_around (es : List Ed) (p : Pt) (x : Br) : x ∈ aroundP es p ↔ x ∈ brs es p := by
  unfold aroundP; rw [mem_foldl_ins]; simp
end Hach

namespace Hach

inductive Eqv {α : Type} (R : α → α → Prop) : α → α → Prop
  | rel {x y : α} : R x y → Eqv R x y
  | refl (x : α) : Eqv R x x
  | symm {x y : α} : Eqv R x y → Eqv R y x
  | trans {x y z : α} : Eqv R x y → Eqv R y z → Eqv R x z
def eA (e : Ed) : Pt := gp e.line 0
def eB (e : Ed) : Pt := lastP e.line
def shareB (e f : Ed) : Bool := decide (eA e = eA f) || decide (eA e = eB f) || decide (eB e = eA f) || decide (eB e = eB f)
def ed (es : List Ed) (i : Nat) : Ed := es.getD i ⟨0, [], 0, 0⟩
def Share (es : List Ed) (i j : Nat) : Prop := i < es.length ∧ j < es.length ∧ shareB (ed es i) (ed es j) = true
def Conn (es : List Ed) : Nat → Nat → Prop := Eqv (Share es)

/- labels -/
def lg (out : List Nat) (i : Nat) : Nat := out.getD i 0
def relab (a b : Nat) (out : List Nat) : List Nat := out.map fun x => if x = max a b then min a b else x
def stepLab (es : List Ed) (k : Nat) (out : List Nat) (i : Nat) : List Nat :=
  if shareB (ed es k) (ed es i) = true ∧ lg out i ≠ lg out k then relab (lg out i) (lg out k) out else out
def labs (es : List Ed) : List Nat :=
  (List.range es.length).foldl (fun out k => (List.range k).foldl (stepLab es k) out) (List.range es.length)
theorem lg_map {f : Nat → Nat} {out : List Nat} {i : Nat} (h : i < out.length) : lg (out.map f) i = f (lg out i) := by
  unfold lg
  rw [List.getD_eq_getElem?_getD, List.getD_eq_getElem?_getD, List.getElem?_map, List.getElem?_eq_getElem h]; rfl
structure LabOk (es : List Ed) (out : List Nat) : Prop where
  len : out.length = es.length
  le : ∀ i, i < es.length → lg out i ≤ i
  idem : ∀ i, i < es.length → lg out (lg out i) = lg out i
  sound : ∀ i j, i < es.length → j < es.length → lg out i = lg out j → Conn es i j
theorem LabOk.init (es : List Ed) : LabOk es (List.range es.length) := by
  have e : ∀ i, i < es.length → lg (List.range es.length) i = i := fun i h => by
    unfold lg; rw [List.getD_eq_getElem?_getD, List.getElem?_range h]; rfl
  refine ⟨by simp, fun i h => by rw [e i h]; exact Nat.le_refl _, fun i h => by rw [e i h, e i h], fun i j hi hj h => ?_⟩
  rw [e i hi, e j hj] at h; subst h; exact .refl i
theorem relab_lg {a b : Nat} {out : List Nat} {i : Nat} (h : i < out.length) : lg (relab a b out) i = if lg out i = max a b then min a b else lg out i := lg_map h
theorem LabOk.step {es : List Ed} {out : List Nat} (h : LabOk es out) {k i : Nat} (hk : k < es.length) (hi : i < es.length) : LabOk es (stepLab es k out i) := by
  unfold stepLab
  split
  · rename_i hc
    obtain ⟨hs, hne⟩ := hc
    have hki : Conn es k i := .rel ⟨hk, hi, hs⟩
    have L : ∀ j, j < es.length → lg (relab (lg out i) (lg out k) out) j = if lg out j = max (lg out i) (lg out k) then min (lg out i) (lg out k) else lg out j :=
      fun j hj => relab_lg (by rw [h.len]; exact hj)
    have hmn : min (lg out i) (lg out k) = lg out i ∨ min (lg out i) (lg out k) = lg out k := by omega
    have hmx : max (lg out i) (lg out k) = lg out i ∨ max (lg out i) (lg out k) = lg out k := by omega
    have li := h.le i hi
    have lk := h.le k hk
    have ii := h.idem i hi
    have kk := h.idem k hk
    have mnid : lg out (min (lg out i) (lg out k)) = min (lg out i) (lg out k) := by rcases hmn with e | e <;> rw [e] <;> assumption
    refine ⟨by unfold relab; rw [List.length_map]; exact h.len, fun j hj => ?_, fun j hj => ?_, fun j l hj hl e => ?_⟩
    · rw [L j hj]; have := h.le j hj; split <;> omega
    · rw [L j hj]
      have lj := h.le j hj
      split
      · rename_i hm
        rw [L _ (by omega), mnid]
        rw [if_neg (by omega)]
      · rename_i hm
        rw [L _ (by omega), h.idem j hj, if_neg hm]
    · rw [L j hj, L l hl] at e
      have to : ∀ x, x < es.length → lg out x = max (lg out i) (lg out k) ∨ lg out x = min (lg out i) (lg out k) → Conn es x k := by
        intro x hx hm
        have : lg out x = lg out i ∨ lg out x = lg out k := by omega
        rcases this with q | q
        · exact .trans (h.sound x i hx hi q) (.symm hki)
        · exact h.sound x k hx hk q
      split at e
      · rename_i h1
        split at e
        · rename_i h2; exact h.sound j l hj hl (by omega)
        · exact .trans (to j hj (Or.inl h1)) (.symm (to l hl (Or.inr e.symm)))
      · split at e
        · rename_i h2; exact .trans (to j hj (Or.inr e)) (.symm (to l hl (Or.inl h2)))
        · exact h.sound j l hj hl e
  · exact h
/-- Labels only become the same. -/
def Coarser (es : List Ed) (o o' : List Nat) : Prop := ∀ i j, i < es.length → j < es.length → lg o i = lg o j → lg o' i = lg o' j
theorem stepLab_coarser {es : List Ed} {out : List Nat} (h : LabOk es out) (k i : Nat) : Coarser es out (stepLab es k out i) := by
  unfold stepLab
  split
  · intro a b ha hb e
    rw [relab_lg (by rw [h.len]; exact ha), relab_lg (by rw [h.len]; exact hb), e]
  · intro a b _ _ e; exact e
theorem stepLab_eq {es : List Ed} {out : List Nat} (h : LabOk es out) {k i : Nat} (hk : k < es.length) (hi : i < es.length) (hs : shareB (ed es k) (ed es i) = true) :
    lg (stepLab es k out i) i = lg (stepLab es k out i) k := by
  unfold stepLab
  split
  · rw [relab_lg (by rw [h.len]; exact hi), relab_lg (by rw [h.len]; exact hk)]
    split <;> split <;> omega
  · rename_i hc
    by_cases e : lg out i = lg out k
    · exact e
    · exact absurd ⟨hs, e⟩ hc
theorem inner_lab {es : List Ed} {k : Nat} (hk : k < es.length) : ∀ (n : Nat), n ≤ k → ∀ {out : List Nat}, LabOk es out →
    LabOk es ((List.range n).foldl (stepLab es k) out) ∧ Coarser es out ((List.range n).foldl (stepLab es k) out) ∧
    ∀ i, i < n → shareB (ed es k) (ed es i) = true → lg ((List.range n).foldl (stepLab es k) out) i = lg ((List.range n).foldl (stepLab es k) out) k
  | 0, _, out, h => ⟨h, fun _ _ _ _ e => e, fun i hi => by omega⟩
  | n + 1, hn, out, h => by
    obtain ⟨h1, h2, h3⟩ := inner_lab hk n (by omega) h
    rw [List.range_succ, List.foldl_append, List.foldl_cons, List.foldl_nil]
    refine ⟨h1.step hk (by omega), fun i j hi hj e => stepLab_coarser h1 k n i j hi hj (h2 i j hi hj e), fun i hi hs => ?_⟩
    rcases Nat.lt_or_ge i n with hl | hl
    · exact stepLab_coarser h1 k n i k (by omega) hk (h3 i hl hs)
    · rw [show i = n by omega] at hs ⊢
      exact stepLab_eq h1 hk (by omega) hs
theorem outer_lab {es : List Ed} : ∀ (n : Nat), n ≤ es.length →
    LabOk es ((List.range n).foldl (fun out k => (List.range k).foldl (stepLab es k) out) (List.range es.length)) ∧
    ∀ k, k < n → ∀ i, i < k → shareB (ed es k) (ed es i) = true →
      lg ((List.range n).foldl (fun out k => (List.range k).foldl (stepLab es k) out) (List.range es.length)) i = lg ((List.range n).foldl (fun out k => (List.range k).foldl (stepLab es k) out) (List.range es.length)) k
  | 0, _ => ⟨LabOk.init es, fun k hk => by omega⟩
  | n + 1, hn => by
    obtain ⟨h1, h2⟩ := outer_lab (es := es) n (by omega)
    obtain ⟨g1, g2, g3⟩ := inner_lab (es := es) (k := n) (by omega) n (Nat.le_refl _) h1
    rw [List.range_succ, List.foldl_append, List.foldl_cons, List.foldl_nil]
    refine ⟨g1, fun k hk i hi hs => ?_⟩
    rcases Nat.lt_or_ge k n with hl | hl
    · exact g2 i k (show i < es.length by omega) (show k < es.length by omega) (h2 k hl i hi hs)
    · rw [show k = n by omega] at hs hi ⊢
      exact g3 i hi hs
theorem shareB_symm (e f : Ed) : shareB e f = shareB f e := by
  unfold shareB
  rw [show decide (eA e = eA f) = decide (eA f = eA e) by simp only [eq_comm], show decide (eA e = eB f) = decide (eB f = eA e) by simp only [eq_comm], show decide (eB e = eA f) = decide (eA f = eB e) by simp only [eq_comm], show decide (eB e = eB f) = decide (eB f = eB e) by simp only [eq_comm]]
  cases decide (eA f = eA e) <;> cases decide (eB f = eA e) <;> cases decide (eA f = eB e) <;> cases decide (eB f = eB e) <;> rfl
/-- Labels are the same just if edges are connected. -/
theorem labs_conn (es : List Ed) {i j : Nat} (hi : i < es.length) (hj : j < es.length) : lg (labs es) i = lg (labs es) j ↔ Conn es i j := by
  obtain ⟨h1, h2⟩ := outer_lab (es := es) es.length (Nat.le_refl _)
  constructor
  · exact h1.sound i j hi hj
  · intro h
    have key : ∀ {x y : Nat}, Conn es x y → x < es.length → y < es.length ∧ lg (labs es) x = lg (labs es) y ∨ ¬ x < es.length := by
      intro x y h hx
      left
      have : ∀ {x y : Nat}, Conn es x y → (x < es.length ↔ y < es.length) ∧ (x < es.length → y < es.length → lg (labs es) x = lg (labs es) y) := by
        intro x y h
        induction h with
        | rel h =>
          obtain ⟨a, b, s⟩ := h
          rename_i x y
          refine ⟨⟨fun _ => b, fun _ => a⟩, fun _ _ => ?_⟩
          rcases Nat.lt_trichotomy x y with l | l | l
          · exact h2 y b x l (by rw [shareB_symm]; exact s)
          · rw [l]
          · exact (h2 x a y l s).symm
        | refl x => exact ⟨Iff.rfl, fun _ _ => rfl⟩
        | symm _ ih => exact ⟨ih.1.symm, fun a b => (ih.2 b a).symm⟩
        | trans _ _ ih1 ih2 => exact ⟨ih1.1.trans ih2.1, fun a b => (ih1.2 a (ih1.1.1 a)).trans (ih2.2 (ih1.1.1 a) b)⟩
      exact ⟨(this h).1.1 hx, (this h).2 hx ((this h).1.1 hx)⟩
    rcases key h hi with ⟨_, e⟩ | e
    · exact e
    · exact absurd hi e
theorem labs_ok (es : List Ed) : LabOk es (labs es) := (outer_lab (es := es) es.length (Nat.le_refl _)).1
/-- A label is its edge's own index just if no edge before has it. -/
theorem labs_first (es : List Ed) {k : Nat} (hk : k < es.length) : lg (labs es) k = k ↔ ∀ i, i < k → lg (labs es) i ≠ lg (labs es) k := by
  have h := labs_ok es
  constructor
  · intro e i hi he
    have := h.le i (by omega); omega
  · intro hn
    have := h.le k hk
    rcases Nat.lt_or_ge (lg (labs es) k) k with hl | hl
    · exact absurd (h.idem k hk) (hn _ hl)
    · omega

/- roots -/
def findU : List (Pt × Pt) → Pt → Pt
  | [], p => p
  | (a, b) :: U, p => findU U (if p = a then b else p)
theorem findU_append (U V : List (Pt × Pt)) (p : Pt) : findU (U ++ V) p = findU V (findU U p) := by
  induction U generalizing p with
  | nil => rfl
  | cons x U ih => obtain ⟨a, b⟩ := x; exact ih _
/-- The pairs of a map of roots: no key twice, and each leads to what is no key before. -/
def UpOk : List (Pt × Pt) → Prop
  | [] => True
  | (a, b) :: U => a ≠ b ∧ (∀ x ∈ U, x.1 ≠ a ∧ x.2 ≠ a) ∧ UpOk U
theorem findU_notkey : ∀ {U : List (Pt × Pt)} {p : Pt}, (∀ x ∈ U, x.1 ≠ p) → findU U p = p
  | [], _, _ => rfl
  | (a, b) :: U, p, h => by
    unfold findU
    rw [if_neg (fun e => h (a, b) List.mem_cons_self e.symm)]
    exact findU_notkey fun x hx => h x (List.mem_cons_of_mem _ hx)
theorem findU_key : ∀ {U : List (Pt × Pt)} {p q : Pt}, UpOk U → (p, q) ∈ U → findU U p = findU U q ∧ p ≠ q
  | (a, b) :: U, p, q, h, hm => by
    obtain ⟨hab, hU, hok⟩ := h
    rcases List.mem_cons.1 hm with e | hm
    · cases e
      unfold findU
      rw [if_pos rfl, if_neg (Ne.symm hab)]
      exact ⟨rfl, hab⟩
    · have := hU _ hm
      unfold findU
      rw [if_neg this.1, if_neg this.2]
      exact findU_key hok hm
/-- Where a key stands; what it leads to stands later, if it is one. -/
theorem findU_root : ∀ {U : List (Pt × Pt)} (p : Pt), UpOk U → ∀ x ∈ U, x.1 ≠ findU U p
  | (a, b) :: U, p, h, x, hx => by
    obtain ⟨hab, hU, hok⟩ := h
    unfold findU
    rcases List.mem_cons.1 hx with e | hx
    · rw [e]
      have key : ∀ {V : List (Pt × Pt)} (r : Pt), r ≠ a → (∀ x ∈ V, x.1 ≠ a ∧ x.2 ≠ a) → findU V r ≠ a := by
        intro V
        induction V with
        | nil => intro r hr _; exact hr
        | cons y V ih =>
          intro r hr hV
          obtain ⟨c, d⟩ := y
          unfold findU
          refine ih _ ?_ fun z hz => hV z (List.mem_cons_of_mem _ hz)
          split
          · exact (hV (c, d) List.mem_cons_self).2
          · exact hr
      have hr : (if p = a then b else p) ≠ a := by
        split
        · exact Ne.symm hab
        · assumption
      exact Ne.symm (key _ hr hU)
    · exact findU_root _ hok x hx
theorem UpOk.add : ∀ {U : List (Pt × Pt)} {a b : Pt}, UpOk U → a ≠ b → (∀ x ∈ U, x.1 ≠ a) → (∀ x ∈ U, x.1 ≠ b) → UpOk (U ++ [(a, b)])
  | [], a, b, _, hab, _, _ => ⟨hab, fun x hx => absurd hx (by simp), trivial⟩
  | (c, d) :: U, a, b, h, hab, ha, hb => by
    refine ⟨h.1, fun x hx => ?_, UpOk.add h.2.2 hab (fun x hx => ha x (List.mem_cons_of_mem _ hx)) fun x hx => hb x (List.mem_cons_of_mem _ hx)⟩
    rcases List.mem_append.1 hx with hx | hx
    · exact h.2.1 x hx
    · rw [List.mem_singleton.1 hx]
      exact ⟨Ne.symm (ha _ List.mem_cons_self), Ne.symm (hb _ List.mem_cons_self)⟩
def stepUp (U : List (Pt × Pt)) (e : Ed) : List (Pt × Pt) := if findU U (eA e) ≠ findU U (eB e) then U ++ [(findU U (eA e), findU U (eB e))] else U
def ups (es : List Ed) : List (Pt × Pt) := es.foldl stepUp []
theorem findU_step (U : List (Pt × Pt)) (e : Ed) (p : Pt) : findU (stepUp U e) p = if findU U p = findU U (eA e) ∧ findU U (eA e) ≠ findU U (eB e) then findU U (eB e) else findU U p := by
  unfold stepUp
  split
  · rename_i h
    rw [findU_append]
    show (if findU U p = findU U (eA e) then findU U (eB e) else findU U p) = _
    by_cases g : findU U p = findU U (eA e)
    · rw [if_pos g, if_pos ⟨g, h⟩]
    · rw [if_neg g, if_neg (fun c => g c.1)]
  · rename_i h
    rw [if_neg (fun c => h c.2)]
structure UpsOk (es : List Ed) (U : List (Pt × Pt)) (done : List Ed) : Prop where
  ok : UpOk U
  sound : ∀ p, Eqv (fun x y => ∃ e ∈ es, x = eA e ∧ y = eB e) p (findU U p)
  all : ∀ e ∈ done, findU U (eA e) = findU U (eB e)
theorem UpsOk.step {es done : List Ed} {U : List (Pt × Pt)} (h : UpsOk es U done) {e : Ed} (he : e ∈ es) : UpsOk es (stepUp U e) (done ++ [e]) := by
  refine ⟨?_, fun p => ?_, fun f hf => ?_⟩
  · unfold stepUp
    split
    · exact h.ok.add (by assumption) (fun x hx => findU_root _ h.ok x hx) fun x hx => findU_root _ h.ok x hx
    · exact h.ok
  · rw [findU_step]
    split
    · rename_i hc
      refine .trans (h.sound p) ?_
      rw [hc.1]
      exact .trans (.symm (h.sound (eA e))) (.trans (.rel ⟨e, he, rfl, rfl⟩) (h.sound (eB e)))
    · exact h.sound p
  · rw [findU_step, findU_step]
    rcases List.mem_append.1 hf with hf | hf
    · rw [h.all f hf]
    · rw [List.mem_singleton.1 hf]
      by_cases g : findU U (eA e) = findU U (eB e)
      · rw [if_neg (fun c => c.2 g), if_neg (fun c => c.2 g), g]
      · rw [if_pos ⟨rfl, g⟩, if_neg (fun c => g c.1.symm)]
theorem ups_ok (es : List Ed) : UpsOk es (ups es) es := by
  have key : ∀ (l done : List Ed) (U : List (Pt × Pt)), (∀ e ∈ l, e ∈ es) → UpsOk es U done → UpsOk es (l.foldl stepUp U) (done ++ l) := by
    intro l
    induction l with
    | nil => intro done U _ h; rw [List.append_nil]; exact h
    | cons e l ih =>
      intro done U hl h
      rw [List.foldl_cons, show done ++ e :: l = (done ++ [e]) ++ l by simp]
      exact ih _ _ (fun f hf => hl f (List.mem_cons_of_mem _ hf)) (h.step (hl e List.mem_cons_self))
  exact key es [] [] (fun e he => he) ⟨trivial, fun p => .refl p, fun e he => by cases he⟩
theorem ups_conn (es : List Ed) (p q : Pt) : findU (ups es) p = findU (ups es) q ↔ Eqv (fun x y => ∃ e ∈ es, x = eA e ∧ y = eB e) p q := by
  have h := ups_ok es
  constructor
  · intro e
    exact .trans (h.sound p) (by rw [e]; exact .symm (h.sound q))
  · intro c
    induction c with
    | rel c => obtain ⟨e, he, rfl, rfl⟩ := c; exact h.all e he
    | refl x => rfl
    | symm _ ih => exact ih.symm
    | trans _ _ i1 i2 => exact i1.trans i2
theorem ed_mem {es : List Ed} {i : Nat} (h : i < es.length) : ed es i ∈ es := by
  unfold ed; rw [List.getD_eq_getElem?_getD, List.getElem?_eq_getElem h]; exact List.getElem_mem h
theorem mem_ed {es : List Ed} {e : Ed} (h : e ∈ es) : ∃ i, i < es.length ∧ ed es i = e := by
  obtain ⟨i, hi, rfl⟩ := List.getElem_of_mem h
  exact ⟨i, hi, by unfold ed; rw [List.getD_eq_getElem?_getD, List.getElem?_eq_getElem hi]; rfl⟩
/-- Edges are connected just if their first points have the same root. -/
theorem roots_conn (es : List Ed) {i j : Nat} (hi : i < es.length) (hj : j < es.length) : findU (ups es) (eA (ed es i)) = findU (ups es) (eA (ed es j)) ↔ Conn es i j := by
  rw [ups_conn]
  have inc : ∀ {x y : Nat} {p : Pt}, x < es.length → y < es.length → (p = eA (ed es x) ∨ p = eB (ed es x)) → (p = eA (ed es y) ∨ p = eB (ed es y)) → Conn es x y := by
    intro x y p hx hy h1 h2
    refine .rel ⟨hx, hy, ?_⟩
    unfold shareB
    simp only [Bool.or_eq_true, decide_eq_true_eq]
    rcases h1 with h1 | h1 <;> rcases h2 with h2 | h2 <;> rw [h1] at h2 <;> simp [h2]
  constructor
  · intro c
    have T : ∀ {p q : Pt}, Eqv (fun x y => ∃ e ∈ es, x = eA e ∧ y = eB e) p q → p = q ∨
        ((∃ x, x < es.length ∧ (p = eA (ed es x) ∨ p = eB (ed es x))) ∧ (∃ y, y < es.length ∧ (q = eA (ed es y) ∨ q = eB (ed es y))) ∧
          ∀ x y, x < es.length → y < es.length → (p = eA (ed es x) ∨ p = eB (ed es x)) → (q = eA (ed es y) ∨ q = eB (ed es y)) → Conn es x y) := by
      intro p q c
      induction c with
      | rel c =>
        obtain ⟨e, he, rfl, rfl⟩ := c
        obtain ⟨k, hk, rfl⟩ := mem_ed he
        right
        refine ⟨⟨k, hk, Or.inl rfl⟩, ⟨k, hk, Or.inr rfl⟩, fun x y hx hy h1 h2 => ?_⟩
        exact .trans (inc hx hk h1 (Or.inl rfl)) (inc hk hy (Or.inr rfl) h2)
      | refl x => exact Or.inl rfl
      | symm _ ih =>
        rcases ih with e | ⟨h1, h2, h3⟩
        · exact Or.inl e.symm
        · exact Or.inr ⟨h2, h1, fun x y hx hy a b => .symm (h3 y x hy hx b a)⟩
      | trans _ _ i1 i2 =>
        rcases i1 with e | ⟨h1, h2, h3⟩
        · rw [e]; exact i2
        · rcases i2 with e | ⟨g1, g2, g3⟩
          · rw [← e]; exact Or.inr ⟨h1, h2, h3⟩
          · obtain ⟨z, hz, hzz⟩ := h2
            exact Or.inr ⟨h1, g2, fun x y hx hy a b => .trans (h3 x z hx hz a hzz) (g3 z y hz hy hzz b)⟩
    rcases T c with e | ⟨_, _, h⟩
    · exact inc hi hj (Or.inl rfl) (Or.inl e)
    · exact h i j hi hj (Or.inl rfl) (Or.inl rfl)
  · intro c
    induction c with
    | rel c =>
      obtain ⟨a, b, s⟩ := c
      rename_i x y
      unfold shareB at s
      simp only [Bool.or_eq_true, decide_eq_true_eq] at s
      have ex : Eqv (fun x y => ∃ e ∈ es, x = eA e ∧ y = eB e) (eA (ed es x)) (eB (ed es x)) := .rel ⟨_, ed_mem a, rfl, rfl⟩
      have ey : Eqv (fun x y => ∃ e ∈ es, x = eA e ∧ y = eB e) (eA (ed es y)) (eB (ed es y)) := .rel ⟨_, ed_mem b, rfl, rfl⟩
      rcases s with ((s | s) | s) | s
      · rw [s]; exact .refl _
      · rw [s]; exact .symm ey
      · rw [← s]; exact ex
      · rw [← s] at ey; exact .trans ex (.symm ey)
    | refl x => exact .refl _
    | symm _ ih => exact .symm (ih hj hi)
    | trans h1 _ i1 i2 =>
      rename_i x y z _
      by_cases hy : y < es.length
      · exact .trans (i1 hi hy) (i2 hy hj)
      · exfalso
        have : ∀ {x y : Nat}, Conn es x y → (x < es.length ↔ y < es.length) := by
          intro x y h
          induction h with
          | rel h => exact ⟨fun _ => h.2.1, fun _ => h.1⟩
          | refl x => exact Iff.rfl
          | symm _ ih => exact ih.symm
          | trans _ _ a b => exact a.trans b
        exact hy ((this h1).1 hi)
end Hach

namespace Hach

structure Fa where
  id : Int
  cls : List UInt8
  name : List UInt8
  weight : Int
  district : Int
deriving DecidableEq
/-- The first error. -/
def firstE (f : Nat → Int) : Nat → Int
  | 0 => 0
  | n + 1 => if firstE f n ≠ 0 then firstE f n else f n
def gi (l : List Int) (i : Nat) : Int := l.getD i 0
def dupAt (l : List Int) (k : Nat) : Bool := (List.range k).any fun i => decide (gi l i = gi l k)
def idE (l : List Int) (k : Nat) : Int := if gi l k < 1 then 1 else if dupAt l k = true then 6 else 0
def knownF (fs : List Fa) (id : Int) : Bool := decide (id = 0) || fs.any fun f => decide (f.id = id)
def edE (es : List Ed) (fs : List Fa) (k : Nat) : Int :=
  if idE (es.map (·.id)) k ≠ 0 then idE (es.map (·.id)) k else
  if chkLn (ed es k).line ≠ 0 then chkLn (ed es k).line else
  if (ed es k).left = (ed es k).right then 13 else
  if knownF fs (ed es k).left && knownF fs (ed es k).right then 0 else 5
def singleE (es : List Ed) (fs : List Fa) : Int :=
  if firstE (idE (fs.map (·.id))) fs.length ≠ 0 then firstE (idE (fs.map (·.id))) fs.length else firstE (edE es fs) es.length
def crossB (es : List Ed) : Bool := (List.range es.length).any fun k => (List.range k).any fun i => crossLn (ed es k).line (ed es i).line
def brG (l : List Br) (i : Nat) : Br := l.getD i ⟨⟨0, 0⟩, 0, 0⟩
def fitsB (l : List Br) : Bool := (List.range l.length).all fun k => decide ((brG l k).left = (brG l ((k + 1) % l.length)).right)
def nodeB (es : List Ed) (k : Nat) : Bool := fitsB (aroundP es (eA (ed es k))) && fitsB (aroundP es (eB (ed es k)))
def ownE (es : List Ed) (k : Nat) : List Ed := ((List.range es.length).filter fun i => decide (lg (labs es) i = k)).map (ed es)
def otherE (es : List Ed) (k : Nat) : List Ed := ((List.range es.length).filter fun i => !decide (lg (labs es) i = k)).map (ed es)
def minP (p : Pt) (l : List Pt) : Pt := l.foldl (fun s q => if lt2 q s = true then q else s) p
def startP (es : List Ed) : Pt := minP (eA (ed es 0)) (es.flatMap (·.line))
def insideB (es : List Ed) (k : Nat) : Bool :=
  (atE (otherE es k) (startP (ownE es k))).2 && decide ((atE (otherE es k) (startP (ownE es k))).1 = (brG (aroundP (ownE es k) (startP (ownE es k))) ((aroundP (ownE es k) (startP (ownE es k))).length - 1)).left)
def usedB (es : List Ed) (id : Int) : Bool := es.any fun e => decide (e.left = id) || decide (e.right = id)
/-- What is wrong with a partition. -/
def chkCv (es : List Ed) (fs : List Fa) : Int :=
  if 200 < es.length ∨ 80 < fs.length then 2 else
  if singleE es fs ≠ 0 then singleE es fs else
  if crossB es = true then 12 else
  if (List.range es.length).all (nodeB es) = false then 13 else
  if (List.range es.length).all (fun k => !decide (lg (labs es) k = k) || insideB es k) = false then 14 else
  if fs.all (fun f => usedB es f.id) = false then 5 else 0

theorem firstE_zero {f : Nat → Int} : ∀ {n : Nat}, firstE f n = 0 → ∀ i, i < n → f i = 0
  | 0, _, i, hi => by omega
  | n + 1, h, i, hi => by
    unfold firstE at h
    split at h
    · rename_i h1; exact absurd h h1
    · rename_i h1
      rcases Nat.lt_or_ge i n with hl | hl
      · exact firstE_zero (by omega) i hl
      · rw [show i = n by omega]; exact h
theorem firstE_hit {f : Nat → Int} {n k : Nat} (h : firstE f k = 0) (hk : k < n) (hf : f k ≠ 0) : firstE f n = f k := by
  induction n with
  | zero => omega
  | succ n ih =>
    unfold firstE
    rcases Nat.lt_or_ge k n with hl | hl
    · rw [ih hl, if_pos hf]
    · rw [show n = k by omega, h, if_neg (by omega)]
theorem firstE_next {f : Nat → Int} {n : Nat} (h : firstE f n = 0) (hf : f n = 0) : firstE f (n + 1) = 0 := by
  unfold firstE; rw [h, hf]; rfl
theorem edE_line {es : List Ed} {fs : List Fa} {k : Nat} (h : edE es fs k = 0) : chkLn (ed es k).line = 0 ∧ 1 ≤ gi (es.map (·.id)) k ∧ dupAt (es.map (·.id)) k = false ∧ (ed es k).left ≠ (ed es k).right ∧ knownF fs (ed es k).left = true ∧ knownF fs (ed es k).right = true := by
  unfold edE at h
  split at h
  · rename_i h1; exact absurd h h1
  · rename_i h1
    split at h
    · rename_i h2; exact absurd h h2
    · rename_i h2
      split at h
      · cases h
      · rename_i h3
        split at h
        · rename_i h4
          have h1' : idE (es.map (·.id)) k = 0 := by omega
          unfold idE at h1'
          split at h1'
          · cases h1'
          · split at h1'
            · cases h1'
            · rename_i h5 h6
              rw [Bool.and_eq_true] at h4
              exact ⟨by omega, by omega, by simpa using h6, h3, h4.1, h4.2⟩
        · cases h
theorem ed_getElem {es : List Ed} {i : Nat} (h : i < es.length) : ed es i = es[i] := by
  unfold ed; rw [List.getD_eq_getElem?_getD, List.getElem?_eq_getElem h]; rfl
theorem fine_of {es : List Ed} {fs : List Fa} (h : singleE es fs = 0) (hc : crossB es = false) : FineE es := by
  unfold singleE at h
  split at h
  · rename_i h1; exact absurd h h1
  · refine ⟨fun e he => ?_, ?_⟩
    · obtain ⟨i, hi, rfl⟩ := mem_ed he
      exact (edE_line (firstE_zero h i hi)).1
    · rw [List.pairwise_iff_getElem]
      intro i j hi hj hij
      rw [← ed_getElem hi, ← ed_getElem hj]
      cases e : crossLn (ed es j).line (ed es i).line with
      | false => rfl
      | true =>
        have : crossB es = true := any_range_true hj (any_range_true hij e)
        rw [this] at hc; cases hc
theorem FineE.sub {es fs : List Ed} (h : FineE es) (hs : fs.Sublist es) : FineE fs := ⟨fun e he => h.lines e (hs.subset he), h.apart.sublist hs⟩
theorem map_ed (es : List Ed) : (List.range es.length).map (ed es) = es := by
  refine List.ext_getElem (by simp) fun i h1 h2 => ?_
  rw [List.getElem_map, List.getElem_range]
  exact ed_getElem h2
theorem ownE_sub (es : List Ed) (k : Nat) : (ownE es k).Sublist es := by
  have := (List.filter_sublist (p := fun i => decide (lg (labs es) i = k)) (l := List.range es.length)).map (ed es)
  rw [map_ed] at this; exact this
theorem otherE_sub (es : List Ed) (k : Nat) : (otherE es k).Sublist es := by
  have := (List.filter_sublist (p := fun i => !decide (lg (labs es) i = k)) (l := List.range es.length)).map (ed es)
  rw [map_ed] at this; exact this
theorem minP_mem (p : Pt) : ∀ l : List Pt, minP p l = p ∨ minP p l ∈ l
  | [] => Or.inl rfl
  | q :: l => by
    unfold minP
    rw [List.foldl_cons]
    split
    · rcases minP_mem q l with h | h
      · right; unfold minP at h; rw [h]; exact List.mem_cons_self
      · right; exact List.mem_cons_of_mem _ h
    · rcases minP_mem p l with h | h
      · left; exact h
      · right; exact List.mem_cons_of_mem _ h
end Hach

namespace Hach

structure Wy where
  id : Int
  line : List Pt
  level : Int
  cls : List UInt8
  name : List UInt8
  stairs : Bool
  weight : Int
  district : Int
deriving DecidableEq
structure Pl where
  id : Int
  pt : Pt
  cls : List UInt8
  name : List UInt8
  weight : Int
  district : Int
deriving DecidableEq
structure Mp where
  edges : List Ed
  faces : List Fa
  ways : List Wy
  places : List Pl
def wy (l : List Wy) (i : Nat) : Wy := l.getD i ⟨0, [], 0, [], [], false, 0, 0⟩
def wyE (ws : List Wy) (k : Nat) : Int :=
  if idE (ws.map (·.id)) k ≠ 0 then idE (ws.map (·.id)) k else
  if chkLn (wy ws k).line ≠ 0 then chkLn (wy ws k).line else
  if (wy ws k).level < -2 ∨ 2 < (wy ws k).level ∨ (wy ws k).weight < 1 ∨ 255 < (wy ws k).weight then 3 else
  if ((List.range k).any fun i => decide ((wy ws i).level = (wy ws k).level) && crossLn (wy ws i).line (wy ws k).line) = true then 16 else 0
/-- What is wrong with ways. -/
def chkNt (ws : List Wy) : Int := if 80 < ws.length then 2 else firstE (wyE ws) ws.length
def clsOk (s : List UInt8) : Bool := decide (1 ≤ s.length) && decide (s.length ≤ 12) && s.all fun c => decide (97 ≤ c.toNat) && decide (c.toNat ≤ 122)
def namOk (s : List UInt8) : Bool :=
  decide (1 ≤ s.length) && decide (s.length ≤ 24) && !decide ((s.getD 0 0).toNat = 32) && !decide ((s.getD (s.length - 1) 0).toNat = 32) && s.all fun c => decide (32 ≤ c.toNat) && decide (c.toNat ≤ 126) && !decide (c.toNat = 34)
def wordE (cls name : List UInt8) (w d : Int) : Int :=
  if clsOk cls = false ∨ name ≠ [] ∧ namOk name = false then 15 else if w < 1 ∨ 255 < w ∨ d < 1 ∨ 16 < d then 3 else 0
def faE (f : Fa) : Int := wordE f.cls f.name f.weight f.district
def wwE (w : Wy) : Int := wordE w.cls w.name w.weight w.district
def plE (p : Pl) : Int := if wordE p.cls p.name p.weight p.district ≠ 0 then wordE p.cls p.name p.weight p.district else if p.id < 1 then 1 else if rightP p.pt = false then 10 else 0
def firstL {α : Type} (f : α → Int) : List α → Int
  | [] => 0
  | x :: l => if f x ≠ 0 then f x else firstL f l
def idsM (m : Mp) : List Int := m.edges.map (·.id) ++ (m.faces.map (·.id) ++ (m.ways.map (·.id) ++ m.places.map (·.id)))
def faceD (fs : List Fa) (id : Int) : Int :=
  match fs.find? fun f => decide (f.id = id) with
  | some f => f.district
  | none => 0
def insM (m : Mp) (p : Pl) : Bool := (atE m.edges p.pt).2 && decide (faceD m.faces (atE m.edges p.pt).1 = p.district)
/-- What is wrong with a map. -/
def chkMp (m : Mp) : Int :=
  if chkCv m.edges m.faces ≠ 0 then chkCv m.edges m.faces else
  if chkNt m.ways ≠ 0 then chkNt m.ways else
  if 80 < m.places.length then 2 else
  if firstL faE m.faces ≠ 0 then firstL faE m.faces else
  if firstL wwE m.ways ≠ 0 then firstL wwE m.ways else
  if firstL plE m.places ≠ 0 then firstL plE m.places else
  if (idsM m).all (fun i => decide (i ≤ 1073741824)) = false then 1 else
  if (List.range (idsM m).length).any (dupAt (idsM m)) = true then 6 else
  if m.places.all (insM m) = false then 14 else 0

/- Ids in order: the program's way to find what stands twice, and what is too great. -/
def SortI : List Int → Prop
  | [] => True
  | [_] => True
  | x :: y :: l => x ≤ y ∧ SortI (y :: l)
def adjI : List Int → Bool
  | [] => false
  | [_] => false
  | x :: y :: l => decide (x = y) || adjI (y :: l)
theorem sortI_head {x : Int} : ∀ {l : List Int}, SortI (x :: l) → ∀ y ∈ l, x ≤ y
  | [], _, y, hy => by cases hy
  | z :: l, h, y, hy => by
    rcases List.mem_cons.1 hy with e | hy
    · rw [e]; exact h.1
    · exact Int.le_trans h.1 (sortI_head h.2 y hy)
theorem sortI_tail {x : Int} {l : List Int} (h : SortI (x :: l)) : SortI l := by
  cases l with
  | nil => trivial
  | cons y l => exact h.2
theorem adj_nodup : ∀ {l : List Int}, SortI l → (adjI l = false ↔ l.Nodup)
  | [], _ => by simp [adjI]
  | [x], _ => by simp [adjI]
  | x :: y :: l, h => by
    have ih := adj_nodup h.2
    unfold adjI
    rw [List.nodup_cons, ← ih]
    simp only [Bool.or_eq_false_iff, decide_eq_false_iff_not]
    constructor
    · rintro ⟨h1, h2⟩
      refine ⟨fun hm => ?_, h2⟩
      rcases List.mem_cons.1 hm with e | hm
      · exact h1 e
      · have := sortI_head h.2 x hm; have := h.1; omega
    · rintro ⟨h1, h2⟩
      exact ⟨fun e => h1 (by rw [e]; exact List.mem_cons_self), h2⟩
theorem dup_nodup (l : List Int) : (List.range l.length).any (dupAt l) = false ↔ l.Nodup := by
  have gie : ∀ i (h : i < l.length), gi l i = l[i] := fun i h => by unfold gi; rw [List.getD_eq_getElem?_getD, List.getElem?_eq_getElem h]; rfl
  constructor
  · intro h
    rw [List.nodup_iff_pairwise_ne, List.pairwise_iff_getElem]
    intro i j hi hj hij e
    have : (List.range l.length).any (dupAt l) = true := any_range_true hj (any_range_true hij (by rw [gie i hi, gie j hj, e]; simp))
    rw [h] at this; cases this
  · intro h
    rw [List.nodup_iff_pairwise_ne, List.pairwise_iff_getElem] at h
    cases e : (List.range l.length).any (dupAt l) with
    | false => rfl
    | true =>
      obtain ⟨j, hj, hd⟩ := List.any_eq_true.1 e
      obtain ⟨i, hi, hd⟩ := List.any_eq_true.1 hd
      have hj := List.mem_range.1 hj
      have hi := List.mem_range.1 hi
      rw [gie i (by omega), gie j hj, decide_eq_true_eq] at hd
      exact absurd hd (h i j (by omega) hj hi)
theorem sortI_last : ∀ {l : List Int} (hne : l ≠ []), SortI l → ∀ y ∈ l, y ≤ l.getLast hne
  | [x], _, _, y, hy => by rw [List.mem_singleton.1 hy]; simp
  | x :: z :: l, _, h, y, hy => by
    rw [List.getLast_cons (by simp)]
    rcases List.mem_cons.1 hy with e | hy
    · rw [e]; exact Int.le_trans h.1 (sortI_last (by simp) h.2 z List.mem_cons_self)
    · exact sortI_last (by simp) h.2 y hy
theorem firstL_zero {α : Type} {f : α → Int} : ∀ {l : List α}, firstL f l = 0 → ∀ x ∈ l, f x = 0
  | [], _, x, hx => by cases hx
  | y :: l, h, x, hx => by
    unfold firstL at h
    split at h
    · rename_i h1; exact absurd h h1
    · rename_i h1
      rcases List.mem_cons.1 hx with e | hx
      · rw [e]; omega
      · exact firstL_zero h x hx
end Hach
