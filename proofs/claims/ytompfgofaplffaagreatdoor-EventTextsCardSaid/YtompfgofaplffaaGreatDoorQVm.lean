/- Plain: questions and answers; what is nearest; directions. -/
import Derived.Test.YtompfgofaplffaaGreatDoorQVj
set_option linter.unusedSimpArgs false
set_option linter.unusedVariables false
namespace Hach

structure Qn where
  kind : Int
  pt : Pt
  from_ : Int
  to_ : Int
  way : Int
  flat : Bool
  cls : List UInt8
deriving DecidableEq
structure An where
  q : Qn
  found : Bool
  things : List Int
  numbers : List Int
def findP (ps : List Pl) (id : Int) : Option Pl := ps.find? fun p => decide (p.id = id)
def findW (ws : List Wy) (id : Int) : Option Wy := ws.find? fun w => decide (w.id = id)
def findF (fs : List Fa) (id : Int) : Option Fa := fs.find? fun f => decide (f.id = id)
def findEd (es : List Ed) (id : Int) : Option Ed := es.find? fun e => decide (e.id = id)
def kindM (m : Mp) (id : Int) : Int :=
  if (findF m.faces id).isSome = true then 1 else if (findW m.ways id).isSome = true then 2 else if (findP m.places id).isSome = true then 3 else if (findEd m.edges id).isSome = true then 4 else 0
def plainQ (q : Qn) : Qn :=
  if q.kind = 1 then ⟨q.kind, q.pt, 0, 0, 0, false, []⟩ else if q.kind = 2 then ⟨q.kind, ⟨0, 0⟩, q.from_, 0, q.way, false, []⟩ else
  if q.kind = 3 then ⟨q.kind, ⟨0, 0⟩, q.from_, q.to_, 0, q.flat, []⟩ else ⟨q.kind, ⟨0, 0⟩, q.from_, 0, 0, false, q.cls⟩
/-- The error of a question. -/
def askE (m : Mp) (q : Qn) : Int :=
  if ¬ (1 ≤ q.kind ∧ q.kind ≤ 4) then 1 else if plainQ q ≠ q then 1 else
  if q.kind = 1 then (if rightP q.pt = true then 0 else 10) else
  if q.kind = 2 then (if (findP m.places q.from_).isSome = false then 5 else if q.way < 0 ∨ 4 < q.way then 1 else 0) else
  if q.kind = 3 then (if (findP m.places q.from_).isSome = false ∨ (findP m.places q.to_).isSome = false then 5 else 0) else
  (if (findF m.faces q.from_).isSome = false then 5 else if clsOk q.cls = true then 0 else 1)
def kd (k : Int) : Int := if k = 1 then 1 else if k = 2 then 3 else if k = 3 then 2 else 1
def manyA (k : Int) : Nat := if k = 1 then 0 else if k = 2 then 1 else if k = 3 then 3 else 1
/-- An answer is well-formed. -/
def goodA (m : Mp) (a : An) : Bool :=
  if a.found = false then !decide (a.q.kind = 4) && decide (a.things = []) && decide (a.numbers = [])
  else a.numbers.all (fun n => decide (0 ≤ n)) && decide (a.numbers.length = manyA a.q.kind) && (decide (a.q.kind = 3) || decide (a.things.length = 1)) &&
    a.things.all (fun t => decide (kindM m t = kd a.q.kind)) && (!decide (a.q.kind = 4) || decide (gi a.things 0 = a.q.from_))
def liesA (m : Mp) (a : An) : Bool :=
  if a.found = false then !(atE m.edges a.q.pt).2 || !(findF m.faces (atE m.edges a.q.pt).1).isSome
  else (atE m.edges a.q.pt).2 && (findF m.faces (atE m.edges a.q.pt).1).isSome && decide (gi a.things 0 = (atE m.edges a.q.pt).1)
def countA (m : Mp) (q : Qn) : Nat := m.places.countP fun p => (atE m.edges p.pt).2 && decide ((atE m.edges p.pt).1 = q.from_) && decide (p.cls = q.cls)
/-- Directions. -/
def north (x y : Int) : Bool := decide (0 < y) && decide (x ≤ y) && decide (-x < y)
def toward (a b : Pt) (w : Int) : Bool :=
  if w = 1 then north (b.x - a.x) (b.y - a.y) else if w = 2 then north (b.y - a.y) (-(b.x - a.x)) else
  if w = 3 then north (-(b.x - a.x)) (-(b.y - a.y)) else if w = 4 then north (-(b.y - a.y)) (b.x - a.x) else true
theorem north_iff (x y : Int) : north x y = true ↔ 0 < y ∧ x ≤ y ∧ -x < y := by simp [north, and_assoc]
theorem not_north {x y : Int} (h : ¬ north x y = true) : north x y = false := by simpa using h
/-- The reference's way to say it. -/
theorem toward_two (x y : Int) : (north y (-x) && !north x y) = north y (-x) := by
  cases h : north y (-x) with
  | false => rfl
  | true =>
    cases g : north x y with
    | false => rfl
    | true => rw [north_iff] at h g; omega
theorem toward_three (x y : Int) : (north (-x) (-y) && !north x y && !north y (-x)) = north (-x) (-y) := by
  cases h : north (-x) (-y) with
  | false => rfl
  | true =>
    cases g : north x y with
    | true => rw [north_iff] at h g; omega
    | false =>
      cases f : north y (-x) with
      | false => rfl
      | true => rw [north_iff] at h f; omega
theorem toward_four (x y : Int) : (!(decide (x = 0) && decide (y = 0)) && !north x y && !north y (-x) && !north (-x) (-y)) = north (-y) x := by
  cases h : north (-y) x with
  | true =>
    rw [north_iff] at h
    have g1 : north x y = false := not_north fun e => by rw [north_iff] at e; omega
    have g2 : north y (-x) = false := not_north fun e => by rw [north_iff] at e; omega
    have g3 : north (-x) (-y) = false := not_north fun e => by rw [north_iff] at e; omega
    rw [g1, g2, g3]
    have : ¬ (x = 0 ∧ y = 0) := by omega
    simp only [Bool.not_false, Bool.and_true, Bool.not_eq_true', Bool.and_eq_false_iff, decide_eq_false_iff_not]
    omega
  | false =>
    have h' : ¬ (0 < x ∧ -y ≤ x ∧ -(-y) < x) := by rw [← north_iff]; simp [h]
    cases e1 : north x y with
    | true => simp
    | false =>
      cases e2 : north y (-x) with
      | true => simp
      | false =>
        cases e3 : north (-x) (-y) with
        | true => simp
        | false =>
          have g1 : ¬ (0 < y ∧ x ≤ y ∧ -x < y) := by rw [← north_iff]; simp [e1]
          have g2 : ¬ (0 < -x ∧ y ≤ -x ∧ -y < -x) := by rw [← north_iff]; simp [e2]
          have g3 : ¬ (0 < -y ∧ -x ≤ -y ∧ -(-x) < -y) := by rw [← north_iff]; simp [e3]
          simp only [Bool.not_false, Bool.and_true, Bool.not_eq_false', Bool.and_eq_true, decide_eq_true_eq]
          omega
def awayB (a b : Pt) (n : Int) : Bool := decide (n = sqI (dot a b))
def rivals (m : Mp) (f : Pl) (w : Int) : List Pl := m.places.filter fun p => !decide (p.id = f.id) && toward f.pt p.pt w
def betterP (f p own : Pl) : Bool := decide (dot f.pt p.pt < dot f.pt own.pt) || decide (dot f.pt p.pt = dot f.pt own.pt) && decide (p.id < own.id)
def zeroPl : Pl := ⟨0, ⟨0, 0⟩, [], [], 0, 0⟩
/-- The program's way. -/
def nearA (m : Mp) (a : An) : Bool :=
  let f := (findP m.places a.q.from_).getD zeroPl
  let r := rivals m f a.q.way
  if a.found = false then decide (r.length = 0)
  else
    let own := (findP r (gi a.things 0)).getD zeroPl
    (findP r (gi a.things 0)).isSome && !r.any (fun p => betterP f p own) && awayB f.pt own.pt (gi a.numbers 0)
/-- The reference's way. -/
def nearR (m : Mp) (a : An) : Bool :=
  let f := (findP m.places a.q.from_).getD zeroPl
  let own := (findP m.places (gi a.things 0)).getD zeroPl
  if a.found = false then m.places.all fun p => decide (p.id = a.q.from_) || !toward f.pt p.pt a.q.way
  else if own.id = a.q.from_ ∨ toward f.pt own.pt a.q.way = false ∨ awayB f.pt own.pt (gi a.numbers 0) = false then false
  else m.places.all fun p => decide (p.id = a.q.from_) || !toward f.pt p.pt a.q.way || !betterP f p own
theorem findP_id {ps : List Pl} {id : Int} {p : Pl} (h : findP ps id = some p) : p.id = id ∧ p ∈ ps := by
  unfold findP at h
  have := List.find?_some h
  exact ⟨by simpa using this, List.mem_of_find?_eq_some h⟩
theorem findP_filter {ps : List Pl} {id : Int} {f : Pl → Bool} (hn : (ps.map (·.id)).Nodup) {p : Pl} (h : findP ps id = some p) :
    findP (ps.filter f) id = if f p = true then some p else none := by
  unfold findP at *
  induction ps with
  | nil => cases h
  | cons x l ih =>
    rw [List.map_cons, List.nodup_cons] at hn
    rw [List.find?_cons] at h
    rw [List.filter_cons]
    by_cases hx : x.id = id
    · rw [show decide (x.id = id) = true by simpa using hx] at h
      cases h
      by_cases hf : f p = true
      · rw [if_pos hf, if_pos hf, List.find?_cons, show decide (p.id = id) = true by simpa using hx]
      · rw [if_neg hf, if_neg hf, List.find?_eq_none]
        intro y hy e
        have := (List.mem_filter.1 hy).1
        exact hn.1 (List.mem_map.2 ⟨y, this, by rw [hx]; simpa using e⟩)
    · rw [show decide (x.id = id) = false by simpa using hx] at h
      have := ih hn.2 h
      split
      · rw [List.find?_cons, show decide (x.id = id) = false by simpa using hx]; exact this
      · exact this
theorem near_eq {m : Mp} {a : An} (hn : (m.places.map (·.id)).Nodup) (hf : (findP m.places a.q.from_).isSome = true) (ho : a.found = true → (findP m.places (gi a.things 0)).isSome = true) : nearA m a = nearR m a := by
  obtain ⟨f, hf⟩ := Option.isSome_iff_exists.1 hf
  have hfi := (findP_id hf).1
  unfold nearA nearR
  simp only [hf, Option.getD_some]
  cases hfo : a.found with
  | false =>
    simp only [if_true]
    unfold rivals
    rw [Bool.eq_iff_iff, decide_eq_true_eq, List.length_eq_zero_iff, List.filter_eq_nil_iff, List.all_eq_true]
    rw [hfi]
    refine forall_congr' fun p => forall_congr' fun _ => ?_
    cases decide (p.id = a.q.from_) <;> cases toward f.pt p.pt a.q.way <;> simp
  | true =>
    obtain ⟨own, ho⟩ := Option.isSome_iff_exists.1 (ho hfo)
    have hoi := (findP_id ho).1
    rw [ho]
    simp only [Option.getD_some, Bool.true_eq_false, if_false]
    unfold rivals
    rw [findP_filter hn ho, hfi]
    by_cases h1 : own.id = a.q.from_
    · rw [show decide (own.id = a.q.from_) = true by simpa using h1, if_pos (Or.inl h1)]
      simp
    · rw [show decide (own.id = a.q.from_) = false by simpa using h1]
      cases h2 : toward f.pt own.pt a.q.way with
      | false => simp
      | true =>
        simp only [Bool.not_false, Bool.true_and, if_true, Option.isSome_some, Option.getD_some]
        cases h3 : awayB f.pt own.pt (gi a.numbers 0) with
        | false => simp
        | true =>
          rw [if_neg (by simp [h1]), Bool.and_true, Bool.eq_iff_iff, Bool.not_eq_true', List.any_eq_false, List.all_eq_true]
          constructor
          · intro h p hp
            have := h p
            rw [List.mem_filter] at this
            cases c1 : decide (p.id = a.q.from_) <;> cases c2 : toward f.pt p.pt a.q.way <;> simp [c1, c2] at this ⊢
            simpa using this hp
          · intro h p hp
            rw [List.mem_filter] at hp
            have := h p hp.1
            have h2 := hp.2
            cases c1 : decide (p.id = a.q.from_) <;> cases c2 : toward f.pt p.pt a.q.way <;> simp [c1, c2] at this h2 ⊢
            simpa using this
end Hach

namespace Hach

structure St where
  pt : Pt
  level : Int
deriving DecidableEq
def zeroSt : St := ⟨⟨0, 0⟩, 0⟩
def stA (w : Wy) : St := if w.line = [] then zeroSt else ⟨gp w.line 0, w.level⟩
def stB (w : Wy) : St := if w.line = [] then zeroSt else ⟨lastP w.line, w.level⟩
abbrev Cs := St → Option Int
def updC (C : Cs) (b : St) (x : Int) : Cs := fun s => if s = b then some x else C s
/-- A way makes a cost less. -/
def lessC (C : Cs) (a b : St) (n : Int) : Option Int :=
  match C a with
  | none => none
  | some x => match C b with
    | none => some (x + n)
    | some y => if x + n < y then some (x + n) else none
def relC (s : Cs × Bool) (a b : St) (n : Int) : Cs × Bool :=
  match lessC s.1 a b n with
  | none => s
  | some v => (updC s.1 b v, true)
def wayC (flat : Bool) (s : Cs × Bool) (w : Wy) : Cs × Bool :=
  if flat && w.stairs then s else relC (relC s (stA w) (stB w) (lenLn w.line)) (stB w) (stA w) (lenLn w.line)
def passC (flat : Bool) (ws : List Wy) (C : Cs) : Cs × Bool := ws.foldl (wayC flat) (C, false)
def finC (flat : Bool) (ws : List Wy) : Nat → Cs → Cs
  | 0, C => C
  | n + 1, C => if (passC flat ws C).2 = true then finC flat ws n (passC flat ws C).1 else (passC flat ws C).1
def initC (s : St) : Cs := fun x => if x = s then some 0 else none
def allSt (s : St) (ws : List Wy) : List St := s :: ws.flatMap fun w => [stA w, stB w]

def knownC (C : Cs) : List St → Nat
  | [] => 0
  | s :: l => (if (C s).isSome = true then 1 else 0) + knownC C l
def costB (B : Nat) (C : Cs) (s : St) : Nat := match C s with
  | none => B + 1
  | some x => x.toNat
def measC (B : Nat) (C : Cs) : List St → Nat
  | [] => 0
  | s :: l => costB B C s + measC B C l
/-- Costs are bounded by how many stops are known. -/
structure InvC (S : List St) (L : Nat) (C : Cs) : Prop where
  pos : ∀ s x, C s = some x → 0 ≤ x
  bd : ∀ s x, C s = some x → x + L ≤ (knownC C S * L : Nat)
theorem known_le (C : Cs) : ∀ l, knownC C l ≤ l.length
  | [] => Nat.le_refl 0
  | s :: l => by have := known_le C l; unfold knownC; rw [List.length_cons]; split <;> omega
theorem known_mono {C C' : Cs} (h : ∀ s, (C s).isSome = true → (C' s).isSome = true) : ∀ l, knownC C l ≤ knownC C' l
  | [] => Nat.le_refl 0
  | s :: l => by
    have := known_mono h l
    unfold knownC
    by_cases e : (C s).isSome = true
    · rw [if_pos e, if_pos (h s e)]; omega
    · rw [if_neg e]; split <;> omega
theorem known_new {C C' : Cs} (h : ∀ s, (C s).isSome = true → (C' s).isSome = true) {b : St} (hb : (C b).isSome = false) (hb' : (C' b).isSome = true) : ∀ {l : List St}, b ∈ l → knownC C l + 1 ≤ knownC C' l
  | s :: l, hm => by
    unfold knownC
    rcases List.mem_cons.1 hm with e | hm
    · subst e
      have := known_mono h l
      rw [hb, if_neg (by simp), if_pos hb']; omega
    · have := known_new h hb hb' hm
      by_cases e : (C s).isSome = true
      · rw [if_pos e, if_pos (h s e)]; omega
      · rw [if_neg e]; split <;> omega
theorem meas_mono {B : Nat} {C C' : Cs} (h : ∀ s, costB B C' s ≤ costB B C s) : ∀ l, measC B C' l ≤ measC B C l
  | [] => Nat.le_refl 0
  | s :: l => by have := meas_mono h l; have := h s; unfold measC; omega
theorem meas_less {B : Nat} {C C' : Cs} (h : ∀ s, costB B C' s ≤ costB B C s) {b : St} (hb : costB B C' b < costB B C b) : ∀ {l : List St}, b ∈ l → measC B C' l < measC B C l
  | s :: l, hm => by
    unfold measC
    rcases List.mem_cons.1 hm with e | hm
    · subst e; have := meas_mono h l; omega
    · have := meas_less h hb hm; have := h s; omega
theorem upd_same (C : Cs) (b : St) (x : Int) : updC C b x b = some x := by unfold updC; rw [if_pos rfl]
theorem upd_ne (C : Cs) {b s : St} (x : Int) (h : s ≠ b) : updC C b x s = C s := by unfold updC; rw [if_neg h]
theorem lessC_some {C : Cs} {a b : St} {n v : Int} (h : lessC C a b n = some v) : ∃ x, C a = some x ∧ v = x + n ∧ (C b = none ∨ ∃ y, C b = some y ∧ x + n < y) := by
  unfold lessC at h
  cases ea : C a with
  | none => rw [ea] at h; cases h
  | some x =>
    rw [ea] at h
    cases eb : C b with
    | none => rw [eb] at h; cases h; exact ⟨x, rfl, rfl, Or.inl rfl⟩
    | some y =>
      rw [eb] at h
      simp only [] at h
      split at h
      · cases h; exact ⟨x, rfl, rfl, Or.inr ⟨y, rfl, by assumption⟩⟩
      · cases h
/-- Whatever a way makes less: the invariant stays, the measure falls. -/
theorem upd_inv {S : List St} {L B : Nat} {C : Cs} (h : InvC S L C) (hB : S.length * L ≤ B) {a b : St} {n v : Int} (hb : b ∈ S) (h0 : 0 ≤ n) (hn : n ≤ L) (hl : lessC C a b n = some v) :
    InvC S L (updC C b v) ∧ measC B (updC C b v) S < measC B C S := by
  obtain ⟨x, hx, rfl, hy⟩ := lessC_some hl
  have px := h.pos a x hx
  have bx := h.bd a x hx
  have hm : ∀ s, (C s).isSome = true → (updC C b (x + n) s).isSome = true := fun s hs => by
    by_cases e : s = b
    · rw [e, upd_same]; rfl
    · rw [upd_ne C _ e]; exact hs
  have mono := known_mono hm S
  have kl := known_le (updC C b (x + n)) S
  have mulmono : knownC C S * L ≤ knownC (updC C b (x + n)) S * L := Nat.mul_le_mul_right L mono
  have hvb : (x + n) + L ≤ (knownC (updC C b (x + n)) S * L : Nat) := by
    rcases hy with hy | ⟨y, hy, hlt⟩
    · have kn := known_new hm (b := b) (by rw [hy]; rfl) (by rw [upd_same]; rfl) hb
      have : (knownC C S + 1) * L ≤ knownC (updC C b (x + n)) S * L := Nat.mul_le_mul_right L kn
      rw [Nat.add_mul, Nat.one_mul] at this
      omega
    · have := h.bd b y hy; omega
  refine ⟨⟨fun s y hs => ?_, fun s y hs => ?_⟩, ?_⟩
  · by_cases e : s = b
    · rw [e, upd_same] at hs; cases hs; omega
    · rw [upd_ne C _ e] at hs; exact h.pos s y hs
  · by_cases e : s = b
    · rw [e, upd_same] at hs; cases hs; exact hvb
    · rw [upd_ne C _ e] at hs; have := h.bd s y hs; omega
  · have hle : ((knownC (updC C b (x + n)) S * L : Nat) : Int) ≤ B := by
      have : knownC (updC C b (x + n)) S * L ≤ S.length * L := Nat.mul_le_mul_right L kl
      omega
    have hlt : costB B (updC C b (x + n)) b < costB B C b := by
      unfold costB
      rw [upd_same]
      rcases hy with hy | ⟨y, hy, hlt⟩
      · rw [hy]; simp only []; omega
      · rw [hy]; simp only []; omega
    refine meas_less (fun s => ?_) hlt hb
    by_cases e : s = b
    · rw [e]; omega
    · unfold costB; rw [upd_ne C _ e]; exact Nat.le_refl _
theorem relC_inv {S : List St} {L B : Nat} {s : Cs × Bool} (h : InvC S L s.1) (hB : S.length * L ≤ B) {a b : St} {n : Int} (hb : b ∈ S) (h0 : 0 ≤ n) (hn : n ≤ L) :
    InvC S L (relC s a b n).1 ∧ measC B (relC s a b n).1 S ≤ measC B s.1 S ∧ ((relC s a b n).2 = true → s.2 = true ∨ measC B (relC s a b n).1 S < measC B s.1 S) := by
  unfold relC
  cases e : lessC s.1 a b n with
  | none => exact ⟨h, Nat.le_refl _, Or.inl⟩
  | some v =>
    obtain ⟨h1, h2⟩ := upd_inv h hB hb h0 hn e
    exact ⟨h1, Nat.le_of_lt h2, fun _ => Or.inr h2⟩
structure WaysOk (S : List St) (L : Nat) (ws : List Wy) : Prop where
  st : ∀ w ∈ ws, stA w ∈ S ∧ stB w ∈ S
  len : ∀ w ∈ ws, 0 ≤ lenLn w.line ∧ lenLn w.line ≤ L
theorem wayC_inv {S : List St} {L B : Nat} {flat : Bool} {s : Cs × Bool} (h : InvC S L s.1) (hB : S.length * L ≤ B) {ws : List Wy} (hw : WaysOk S L ws) {w : Wy} (hm : w ∈ ws) :
    InvC S L (wayC flat s w).1 ∧ measC B (wayC flat s w).1 S ≤ measC B s.1 S ∧ ((wayC flat s w).2 = true → s.2 = true ∨ measC B (wayC flat s w).1 S < measC B s.1 S) := by
  unfold wayC
  split
  · exact ⟨h, Nat.le_refl _, Or.inl⟩
  · obtain ⟨a1, a2, a3⟩ := relC_inv h hB (a := stA w) (hw.st w hm).2 (hw.len w hm).1 (hw.len w hm).2
    obtain ⟨b1, b2, b3⟩ := relC_inv a1 hB (a := stB w) (hw.st w hm).1 (hw.len w hm).1 (hw.len w hm).2
    refine ⟨b1, Nat.le_trans b2 a2, fun e => ?_⟩
    rcases b3 e with e | e
    · rcases a3 e with e | e
      · exact Or.inl e
      · exact Or.inr (Nat.lt_of_le_of_lt b2 e)
    · exact Or.inr (Nat.lt_of_lt_of_le e a2)
theorem fold_inv {S : List St} {L B : Nat} {flat : Bool} (hB : S.length * L ≤ B) {ws : List Wy} (hw : WaysOk S L ws) : ∀ (l : List Wy), (∀ w ∈ l, w ∈ ws) → ∀ s : Cs × Bool, InvC S L s.1 →
    InvC S L (l.foldl (wayC flat) s).1 ∧ measC B (l.foldl (wayC flat) s).1 S ≤ measC B s.1 S ∧ ((l.foldl (wayC flat) s).2 = true → s.2 = true ∨ measC B (l.foldl (wayC flat) s).1 S < measC B s.1 S)
  | [], _, s, h => ⟨h, Nat.le_refl _, Or.inl⟩
  | w :: l, hl, s, h => by
    obtain ⟨a1, a2, a3⟩ := wayC_inv (flat := flat) h hB hw (hl w List.mem_cons_self)
    obtain ⟨b1, b2, b3⟩ := fold_inv hB hw l (fun x hx => hl x (List.mem_cons_of_mem _ hx)) (wayC flat s w) a1
    rw [List.foldl_cons]
    refine ⟨b1, Nat.le_trans b2 a2, fun e => ?_⟩
    rcases b3 e with e | e
    · rcases a3 e with e | e
      · exact Or.inl e
      · exact Or.inr (Nat.lt_of_le_of_lt b2 e)
    · exact Or.inr (Nat.lt_of_lt_of_le e a2)
/-- A pass over all ways: the measure falls if something became less. -/
theorem pass_inv {S : List St} {L B : Nat} (flat : Bool) (hB : S.length * L ≤ B) {ws : List Wy} (hw : WaysOk S L ws) {C : Cs} (h : InvC S L C) :
    InvC S L (passC flat ws C).1 ∧ ((passC flat ws C).2 = true → measC B (passC flat ws C).1 S < measC B C S) := by
  obtain ⟨a1, _, a3⟩ := fold_inv (flat := flat) hB hw ws (fun w hw => hw) (C, false) h
  exact ⟨a1, fun e => (a3 e).resolve_left (by simp)⟩
theorem finC_more (flat : Bool) {n : Nat} {ws : List Wy} {C : Cs} (h : (passC flat ws C).2 = true) : finC flat ws (n + 1) C = finC flat ws n (passC flat ws C).1 := by
  show (if _ then _ else _) = _; rw [if_pos h]
theorem finC_done (flat : Bool) {n : Nat} {ws : List Wy} {C : Cs} (h : (passC flat ws C).2 = false) : finC flat ws (n + 1) C = (passC flat ws C).1 := by
  show (if _ then _ else _) = _; rw [if_neg (by rw [h]; simp)]
theorem init_inv (s : St) (ws : List Wy) (L : Nat) : InvC (allSt s ws) L (initC s) := by
  have one : 1 ≤ knownC (initC s) (allSt s ws) := by
    unfold allSt knownC initC; simp
  refine ⟨fun x v h => ?_, fun x v h => ?_⟩
  · unfold initC at h; split at h <;> cases h; omega
  · unfold initC at h; split at h <;> cases h
    have := Nat.mul_le_mul_right L one
    omega
theorem meas_bd {S : List St} {L B : Nat} {C : Cs} (h : InvC S L C) (hB : S.length * L ≤ B) : measC B C S ≤ S.length * (B + 1) := by
  have : ∀ l : List St, measC B C l ≤ l.length * (B + 1) := by
    intro l
    induction l with
    | nil => exact Nat.zero_le _
    | cons s l ih =>
      have : costB B C s ≤ B + 1 := by
        unfold costB
        cases e : C s with
        | none => exact Nat.le_refl _
        | some x =>
          have h1 := h.bd s x e
          have h2 : knownC C S * L ≤ S.length * L := Nat.mul_le_mul_right L (known_le C S)
          simp only []; omega
      unfold measC; rw [List.length_cons, Nat.add_mul, Nat.one_mul]; omega
  exact this S
/-- Where a list of ways leads. -/
def leadsC (flat : Bool) (ws : List Wy) : St → Int → List Int → Option (St × Int)
  | s, n, [] => some (s, n)
  | s, n, id :: l =>
    match findW ws id with
    | none => none
    | some w =>
      if flat && w.stairs then none else
      if s = stA w then leadsC flat ws (stB w) (n + lenLn w.line) l else
      if s = stB w then leadsC flat ws (stA w) (n + lenLn w.line) l else none
end Hach

namespace Hach

def lt3 (a b : St) : Bool := lt2 a.pt b.pt || decide (a.pt = b.pt) && decide (a.level < b.level)
def nearS (p : Pt) (a b : St) : Bool := decide (dot p a.pt < dot p b.pt) || decide (dot p a.pt = dot p b.pt) && lt3 a b
def minS (p : Pt) (s : St) (l : List St) : St := l.foldl (fun m x => if nearS p x m = true then x else m) s
def stopsL (ws : List Wy) : List St := ws.flatMap fun w => [stA w, stB w]
def stopP (ws : List Wy) (p : Pt) : Option St := match stopsL ws with
  | [] => none
  | s :: l => some (minS p s l)
def fuelC : Nat := 100000000000
def bestC (m : Mp) (a : An) (s t : St) : Option Int := finC a.q.flat m.ways fuelC (initC s) t
def getsA (m : Mp) (a : An) : Bool :=
  let f := (findP m.places a.q.from_).getD zeroPl
  let g := (findP m.places a.q.to_).getD zeroPl
  let s := (stopP m.ways f.pt).getD zeroSt
  let t := (stopP m.ways g.pt).getD zeroSt
  if a.found = false then !(stopP m.ways f.pt).isSome || !(bestC m a s t).isSome
  else match leadsC a.q.flat m.ways s 0 a.things with
    | none => false
    | some (e, n) => (stopP m.ways f.pt).isSome && (bestC m a s t).isSome && decide (e = t) && decide (some n = bestC m a s t) && decide (gi a.numbers 0 = n) && awayB f.pt s.pt (gi a.numbers 1) && awayB g.pt t.pt (gi a.numbers 2)
def trueA (m : Mp) (a : An) : Bool :=
  if a.q.kind = 1 then liesA m a else if a.q.kind = 2 then nearA m a else if a.q.kind = 3 then getsA m a else decide (gi a.numbers 0 = countA m a.q)
/-- The error of an answer. -/
def ansE (m : Mp) (a : An) : Int :=
  if chkMp m ≠ 0 then chkMp m else if askE m a.q ≠ 0 then askE m a.q else if goodA m a = false then 52 else if trueA m a = true then 0 else 51

structure RightM (m : Mp) : Prop where
  cover : chkCv m.edges m.faces = 0
  net : chkNt m.ways = 0
  many : m.places.length ≤ 80
  faces : ∀ f ∈ m.faces, faE f = 0
  ways : ∀ w ∈ m.ways, wwE w = 0
  places : ∀ p ∈ m.places, plE p = 0
  small : ∀ i ∈ idsM m, i ≤ 1073741824
  nodup : (idsM m).Nodup
  ins : ∀ p ∈ m.places, insM m p = true
theorem chk_right {m : Mp} (h : chkMp m = 0) : RightM m := by
  unfold chkMp at h
  repeat' split at h
  all_goals first | (exfalso; omega) | skip
  rename_i h1 h2 h3 h4 h5 h6 h7 h8 h9
  refine ⟨by omega, by omega, by omega, firstL_zero (by omega), firstL_zero (by omega), firstL_zero (by omega), fun i hi => ?_, ?_, fun p hp => ?_⟩
  · have := List.all_eq_true.1 (show (idsM m).all (fun i => decide (i ≤ 1073741824)) = true by simpa using h7) i hi
    simpa using this
  · exact (dup_nodup _).1 (by simpa using h8)
  · exact List.all_eq_true.1 (show m.places.all (insM m) = true by simpa using h9) p hp
theorem RightM.placesN {m : Mp} (h : RightM m) : (m.places.map (·.id)).Nodup := by
  have := h.nodup
  unfold idsM at this
  exact (List.nodup_append.1 (List.nodup_append.1 (List.nodup_append.1 this).2.1).2.1).2.1
theorem RightM.placeR {m : Mp} (h : RightM m) {p : Pl} (hp : p ∈ m.places) : rightP p.pt = true ∧ 1 ≤ p.id := by
  have := h.places p hp
  unfold plE at this
  repeat' split at this
  all_goals first | (exfalso; omega) | skip
  rename_i h1 h2 h3
  exact ⟨by simpa using h3, by omega⟩
theorem wy_mem {ws : List Wy} {i : Nat} (h : i < ws.length) : wy ws i ∈ ws := by
  unfold wy; rw [List.getD_eq_getElem?_getD, List.getElem?_eq_getElem h]; exact List.getElem_mem h
theorem mem_wy {ws : List Wy} {w : Wy} (h : w ∈ ws) : ∃ i, i < ws.length ∧ wy ws i = w := by
  obtain ⟨i, hi, rfl⟩ := List.getElem_of_mem h
  exact ⟨i, hi, by unfold wy; rw [List.getD_eq_getElem?_getD, List.getElem?_eq_getElem hi]; rfl⟩
theorem RightM.wayR {m : Mp} (h : RightM m) : m.ways.length ≤ 80 ∧ ∀ w ∈ m.ways, chkLn w.line = 0 := by
  have := h.net
  unfold chkNt at this
  split at this
  · cases this
  · refine ⟨by omega, fun w hw => ?_⟩
    obtain ⟨i, hi, rfl⟩ := mem_wy hw
    have := firstE_zero this i hi
    unfold wyE at this
    repeat' split at this
    all_goals first | (exfalso; omega) | skip
    omega
theorem chkLn_len {l : List Pt} (h : chkLn l = 0) : 2 ≤ l.length ∧ l.length ≤ 40 := by
  unfold chkLn at h
  split at h
  · cases h
  · omega
theorem RightM.waysOk {m : Mp} (h : RightM m) (s : St) : WaysOk (allSt s m.ways) 1853640 m.ways := by
  refine ⟨fun w hw => ?_, fun w hw => ?_⟩
  · unfold allSt
    exact ⟨List.mem_cons_of_mem _ (List.mem_flatMap.2 ⟨w, hw, by simp⟩), List.mem_cons_of_mem _ (List.mem_flatMap.2 ⟨w, hw, by simp⟩)⟩
  · have hl := h.wayR.2 w hw
    have := lenLn_bd (chkLn_right hl).1
    have := (chkLn_len hl).2
    omega
theorem allSt_len {s : St} {ws : List Wy} : (allSt s ws).length = 2 * ws.length + 1 := by
  unfold allSt
  rw [List.length_cons]
  congr 1
  induction ws with
  | nil => rfl
  | cons w l ih => rw [List.flatMap_cons, List.length_append, ih]; simp; omega
theorem RightM.fuel {m : Mp} (h : RightM m) (s : St) : measC 298436040 (initC s) (allSt s m.ways) < fuelC ∧ (allSt s m.ways).length * 1853640 ≤ 298436040 := by
  have hl := h.wayR.1
  have e := allSt_len (s := s) (ws := m.ways)
  have hb : (allSt s m.ways).length * 1853640 ≤ 298436040 := by rw [e]; omega
  have := meas_bd (init_inv s m.ways 1853640) hb
  refine ⟨Nat.lt_of_le_of_lt this ?_, hb⟩
  rw [e]
  unfold fuelC
  have : (2 * m.ways.length + 1) * (298436040 + 1) ≤ 161 * (298436040 + 1) := Nat.mul_le_mul_right _ (by omega)
  omega
end Hach
