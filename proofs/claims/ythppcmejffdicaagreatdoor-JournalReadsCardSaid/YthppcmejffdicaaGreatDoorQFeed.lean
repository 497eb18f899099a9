/- A range over a function whose iterator may write blocks of its own between two rounds: those that it lays ahead of the first round, and such as are named; its body keeps those and such as are named. The law of the loop, and the iterator's contract. Conditions: the body never leaves the loop; the loop stands in no other such loop. -/
import Derived.RangeFuncNested
import Derived.OrdersIn
import Derived.Test.YthppcmejffdicaaGreatDoorQMono

set_option linter.unusedSimpArgs false
set_option linter.unusedVariables false
namespace Hach
open Go Go.RowKit
section
variable {F : Fence} {n : Nat} {P : Program}

/- what an iterator does between two rounds: it writes blocks from lo up to hi, and such of 'own' -/
structure Step (lo hi : Nat) (own : Nat → Prop) (A B : World) : Prop where
  os : B.os = A.os
  tape : B.tape = A.tape
  output : B.output = A.output
  size : A.heap.size ≤ B.heap.size
  block : ∀ k, k < A.heap.size → ¬ (lo ≤ k ∧ k < hi) → ¬ own k → B.heap[k]? = A.heap[k]?
theorem Step.refl (lo hi : Nat) (own : Nat → Prop) (A : World) : Step lo hi own A A := ⟨rfl, rfl, rfl, Nat.le_refl _, fun _ _ _ _ => rfl⟩
theorem Step.trans {lo hi : Nat} {own : Nat → Prop} {A B C : World} (h : Step lo hi own A B) (k : Step lo hi own B C) : Step lo hi own A C :=
  ⟨k.os.trans h.os, k.tape.trans h.tape, k.output.trans h.output, Nat.le_trans h.size k.size, fun i hi h1 h2 => (k.block i (Nat.lt_of_lt_of_le hi h.size) h1 h2).trans (h.block i hi h1 h2)⟩
theorem Step.more {lo lo' hi hi' : Nat} {own own' : Nat → Prop} {A B : World} (h : Step lo hi own A B) (hl : lo' ≤ lo) (hh : hi ≤ hi') (ho : ∀ k, own k → own' k ∨ (lo' ≤ k ∧ k < hi')) : Step lo' hi' own' A B :=
  ⟨h.os, h.tape, h.output, h.size, fun k hk h1 h2 => h.block k hk (fun e => h1 ⟨Nat.le_trans hl e.1, Nat.lt_of_lt_of_le e.2 hh⟩) (fun e => (ho k e).elim h2 h1)⟩
theorem Step.ext (lo hi : Nat) (own : Nat → Prop) {A B : World} (h : Ext A B) : Step lo hi own A B := ⟨h.os, h.tape, h.output, h.size, fun k hk _ _ => h.block k hk⟩
theorem Step.putObj {lo hi : Nat} {own : Nat → Prop} (A : World) {k : Nat} (o : Obj) (hl : lo ≤ k) (hh : k < hi) : Step lo hi own A (A.putObj k o) :=
  ⟨rfl, rfl, rfl, by simp, fun j _ h1 _ => World.putObj_heap_other (fun e => h1 (by rw [e]; exact ⟨hl, hh⟩))⟩
/- what a body keeps -/
structure Keeps (lo hi : Nat) (keep : Nat → Prop) (A B : World) : Prop where
  size : A.heap.size ≤ B.heap.size
  block : ∀ k, k < A.heap.size → ((lo ≤ k ∧ k < hi) ∨ keep k) → B.heap[k]? = A.heap[k]?
theorem Keeps.refl (lo hi : Nat) (keep : Nat → Prop) (A : World) : Keeps lo hi keep A A := ⟨Nat.le_refl _, fun _ _ _ => rfl⟩
theorem Keeps.trans {lo hi : Nat} {keep : Nat → Prop} {A B C : World} (h : Keeps lo hi keep A B) (k : Keeps lo hi keep B C) : Keeps lo hi keep A C :=
  ⟨Nat.le_trans h.size k.size, fun i hi h1 => (k.block i (Nat.lt_of_lt_of_le hi h.size) h1).trans (h.block i hi h1)⟩
theorem Keeps.ext (lo hi : Nat) (keep : Nat → Prop) {A B : World} (h : Ext A B) : Keeps lo hi keep A B := ⟨h.size, fun k hk _ => h.block k hk⟩

/- The contract of an iterator that yields the values of S, in order -/
def Feeds {α : Type} (F : Fence) (n : Nat) (P : Program) (g : Nat) (lb : Array Value) (encs : α → Array Value) (own keep : Nat → Prop) (S : List α) (w : World) : Prop :=
  ∀ (l : Nat) (J : Nat → List α → World → Prop) (W : World), Below w.heap.size w W →
    (∀ hi pre A B, W.heap.size ≤ hi → J hi pre A → Step W.heap.size hi own A B → J hi pre B) →
    (∀ hi pre x post A, S = pre ++ x :: post → W.heap.size ≤ hi → hi ≤ A.heap.size → J hi pre A → YieldAt F (n - 1) P l (encs x) A fun e A' => e = .returned (.bool true) ∧ J hi (pre ++ [x]) A' ∧ Keeps W.heap.size hi keep A A') →
    (∀ hi, W.heap.size ≤ hi → J hi [] W) →
    CallsIn F n P g (#[.func (.yield l) #[] #[]] ++ lb) W fun e W' => (∃ v, e = .returned v) ∧ ∃ hi, W.heap.size ≤ hi ∧ J hi S W'

def feedEnd {α : Type} (lo hi : Nat) (keep : Nat → Prop) (I : Nat → List α → World → Prop) (xs : List α) (W : World) : Exit → Act → World → Prop
  | .normal, _, W' => Keeps lo hi keep W W' ∧ I hi xs W'
  | _, _, _ => False

theorem wpIn_feed {α : Type} {g : Operand} {ps : Array Tmp} {assign body : Code} {Q : Exit → Act → World → Prop} {a : Act} {w : World}
    (hro : F.round = none) (h1 : 1 ≤ n) {gf : Nat} {lb : Array Value} (hg : a.eval g = .func (.func gf) #[] lb) (hFg : F.fn gf) (eg : ∀ args w, (callFunc gf args).run P w = .ok (.enter gf args) w)
    (encs : α → Array Value) (own keep : Nat → Prop) (S : List α) (hseq : Feeds F (n - 1) P gf lb encs own keep S w) (hps : ∀ x, (encs x).size = ps.size) (hown : ∀ k, own k → k < w.heap.size) (hkeep : ∀ k, keep k → k < w.heap.size)
    (I : Nat → List α → World → Prop) (hI : ∀ hi pre A B, w.heap.size ≤ hi → I hi pre A → Step w.heap.size hi own A B → I hi pre B) (h0 : ∀ hi, w.heap.size ≤ hi → I hi [] w) (a₁ : α → Act)
    (hassign : ∀ (l : Nat) (x : α) (W : World) (K : Act → World → Prop), K (a₁ x) W →
      assign.wpIn (F.inRound l) (n - 1 - 1) P (Exit.then K (fun _ _ _ => False)) { tmps := (ps.zip (encs x)).foldl (fun t (p, v) => t.setIfInBounds p v) a.tmps, defers := [] } W)
    (hbody : ∀ (l hi : Nat) (pre : List α) (x : α) (post : List α) (W : World), S = pre ++ x :: post → w.heap.size ≤ hi → hi ≤ W.heap.size → I hi pre W → body.wpIn (F.inRound l) (n - 1 - 1) P (feedEnd w.heap.size hi keep I (pre ++ [x]) W) (a₁ x) W)
    (hdone : ∀ (D hi : Nat) (W : World), w.heap.size ≤ D → D < hi → I hi S W → W.heap[D]? = some (.deferred (some [])) → Q .normal { a with defers := { target := .collected D, args := #[] } :: a.defers } W) :
    (Code.rangeFunc g ps assign body).wpIn F n P Q a w := by
  refine wpIn_rangeFunc ?_
  intro fn hfn
  rw [hro]
  obtain ⟨rec, hrec⟩ : ∃ rec : LoopState → Option Code → Loop, rec = fun st pe => { state := st, pending := pe, fn, tmps := a.tmps, params := ps, assign, body, defers := w.heap.size } := ⟨_, rfl⟩
  obtain ⟨W1, hW1⟩ : ∃ W1, (w.alloc (.deferred (some []))).alloc (.loop (rec .ready none)) = W1 := ⟨_, rfl⟩
  have hL1 : W1.heap[w.heap.size + 1]? = some (.loop (rec .ready none)) := by
    rw [← hW1]; have := World.alloc_heap_new (w.alloc (.deferred (some []))) (.loop (rec .ready none)); rwa [World.size_alloc] at this
  have hK1 : W1.heap[w.heap.size]? = some (.deferred (some [])) := by
    rw [← hW1]; exact (Below.heap_alloc _ _ _ (by simp)).trans (World.alloc_heap_new w _)
  have hz1 : W1.heap.size = w.heap.size + 2 := by rw [← hW1]; simp
  have hb1 : Below w.heap.size w W1 := by
    rw [← hW1]; exact ((Below.refl _ w).alloc (Nat.le_refl _) _).alloc (by simp) _
  refine ⟨w.heap.size + 1, [{ target := .collected w.heap.size, args := #[] }], W1, { target := .fn (.func gf) lb, args := #[.func (.yield (w.heap.size + 1)) #[] #[]] }, W1, gf,
    #[.func (.yield (w.heap.size + 1)) #[] #[]] ++ lb, W1, ?_, ?_, ?_, ?_, fun _ => h1, ?_⟩
  · rw [← hW1, hrec]; exact run_enterLoop_outer _ _ _ _ _
  · simp only [resolve, hg]
    simp [go_sem]
  · intro f' hf'; simp [Target.leads] at hf'; subst hf'; exact hFg
  · simp [invoke, go_sem, eg]
  · refine (hseq (w.heap.size + 1)
      (fun hi pre W => I hi pre W ∧ W.heap[w.heap.size + 1]? = some (.loop (rec .ready none)) ∧ W.heap[w.heap.size]? = some (.deferred (some [])))
      W1 hb1 ?_ ?_ (fun hi hh => ⟨hI hi [] w W1 (by omega) (h0 hi (by omega)) (Step.ext _ _ _ hb1), hL1, hK1⟩)).mono ?_
    · rintro hi pre A B hh ⟨hi1, hl, hk⟩ hs
      have hla := (Array.getElem?_eq_some_iff.1 hl).1
      exact ⟨hI hi pre A B (by omega) hi1 (hs.more (by omega) (Nat.le_refl _) fun k hk => .inl hk), (hs.block _ hla (by omega) (fun e => by have := hown _ e; omega)).trans hl, (hs.block _ (by omega) (by omega) (fun e => by have := hown _ e; omega)).trans hk⟩
    · rintro hi pre x post W hS hh hhW ⟨hi1, hl, hk⟩
      have hy := run_yield (P := P) (args := encs x) hl (by rw [hrec]; exact hps x)
      rw [hrec] at hy
      refine ⟨fn, _, assign, body, hy, roundIn_of_wpIn hfn (hassign _ x W _ ?_)⟩
      clear hy
      refine ⟨_, run_beginRound hl (by rw [hrec]), ?_⟩
      have hlt : w.heap.size + 1 < W.heap.size := by omega
      have hl2 : (W.putObj (w.heap.size + 1) (.loop { rec .ready none with state := .busy })).heap[w.heap.size + 1]? = some (.loop { rec .ready none with state := .busy }) := World.putObj_heap_same hlt
      have hk2 : (W.putObj (w.heap.size + 1) (.loop { rec .ready none with state := .busy })).heap[w.heap.size]? = some (.deferred (some [])) := (World.putObj_heap_other (by omega)).trans hk
      have hs2 : (W.putObj (w.heap.size + 1) (.loop { rec .ready none with state := .busy })).heap.size = W.heap.size := by simp
      have hi2 := hI hi pre _ _ (by omega) hi1 (Step.putObj (own := own) W (.loop { rec .ready none with state := .busy }) (show w.heap.size ≤ w.heap.size + 1 by omega) (show w.heap.size + 1 < hi by omega))
      refine wpIn_mono (hbody _ hi pre x post _ hS (by omega) (by rw [hs2]; exact hhW) hi2) ?_
      rintro e a3 W3 hp
      cases e with
      | normal =>
        obtain ⟨hk3, hi3⟩ := hp
        have hl3 := (hk3.block _ (by rw [hs2]; omega) (.inl ⟨by omega, by omega⟩)).trans hl2
        have hd3 := (hk3.block _ (by rw [hs2]; omega) (.inl ⟨by omega, by omega⟩)).trans hk2
        have hz3 := hk3.size
        rw [hs2] at hz3
        have hr := run_endRound (P := P) none hl3
        rw [hrec] at hr hl3
        refine ⟨_, _, hr, rfl, ⟨?_, ?_, ?_⟩, ?_⟩
        · exact hI hi _ _ _ (by omega) hi3 (Step.putObj W3 _ (by omega) (by omega))
        · rw [World.putObj_heap_same (Array.getElem?_eq_some_iff.1 hl3).1, hrec]; rfl
        · exact (World.putObj_heap_other (by omega)).trans hd3
        · refine ⟨by rw [World.putObj_size]; exact hz3, fun k hkl hkk => ?_⟩
          have hne : k ≠ w.heap.size + 1 := by
            rcases hkk with h | h
            · omega
            · have := hkeep k h; omega
          refine (World.putObj_heap_other hne).trans ((hk3.block k (by rw [hs2]; exact hkl) ?_).trans (World.putObj_heap_other hne))
          rcases hkk with h | h
          · exact .inl ⟨by omega, h.2⟩
          · exact .inr h
      | ret => exact hp.elim
      | exit id => exact hp.elim
      | goto t => exact hp.elim
      | panic ch => exact hp.elim
      | outgrown => exact hp.elim
    · rintro e W2 ⟨⟨v, rfl⟩, hi, hh, hi1, hl, hk⟩
      refine ⟨none, _, by have := run_endLoop (P := P) hl (by rw [hrec]; simp); rw [hrec] at this; exact this, hdone _ hi _ (Nat.le_refl _) (by omega) ?_ ((World.putObj_heap_other (by omega)).trans hk)⟩
      exact hI hi _ _ _ (by omega) hi1 (Step.putObj W2 _ (by omega) (by omega))
end
end Hach
