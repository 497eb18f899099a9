/- A range over a function whose rounds hand over a value that the loop's body reads in memory: the law of the loop, and its iterator's contract. Conditions: the body never leaves the loop; the loop stands in no other such loop. -/
import Derived.RangeFuncNested
import Derived.OrdersIn
import Derived.Test.YtncdnopnjdbleaaMono
namespace Hach
open Go Go.RowKit
section
variable {F : Fence} {n : Nat} {P : Program}

/- what abides all that does not touch cells, from block B on -/
def Abide (B : Nat) (p : World → Prop) : Prop := OwnFrom B (fun (_ : Unit) W => p W)

/- The contract of an iterator that yields one value v for each x of S, in order: what it reads of x is 'Rd x v' in memory; J is what lies between two rounds. -/
def Brings {α : Type} (F : Fence) (n : Nat) (P : Program) (g : Nat) (lb : Array Value) (Rd : α → Value → Nat → World → Prop) (S : List α) (w : World) : Prop :=
  ∀ (l : Nat) (J : List α → World → Prop) (W : World), Below w.heap.size w W →
    (∀ pre x post v W0 W1, S = pre ++ x :: post → J pre W0 → Ext W0 W1 → Rd x v W0.heap.size W1 → YieldAt F (n - 1) P l #[v] W1 fun e W' => e = .returned (.bool true) ∧ J (pre ++ [x]) W' ∧ Rd x v 0 W') →
    J [] W →
    CallsIn F n P g (#[.func (.yield l) #[] #[]] ++ lb) W fun e W' => (∃ v, e = .returned v) ∧ ∃ W0, J S W0 ∧ Ext W0 W'

def bodyEnd {α : Type} (B : Nat) (Rd : α → Value → Nat → World → Prop) (I : List α → Nat → World → Prop) (xs : List α) (x : α) (v : Value) (W : World) : Exit → Act → World → Prop
  | .normal, _, W' => KeepsFrom B W W' ∧ I xs W'.heap.size W' ∧ Rd x v 0 W'
  | _, _, _ => False

/- The law of the loop. I pre B W: 'pre' has come; the loop's own memory lies below block B. -/
theorem wpIn_range {α : Type} {g : Operand} {ps : Array Tmp} {assign body : Code} {Q : Exit → Act → World → Prop} {a : Act} {w : World}
    (hro : F.round = none) (h1 : 1 ≤ n) {gf : Nat} {lb : Array Value} (hg : a.eval g = .func (.func gf) #[] lb) (hFg : F.fn gf) (eg : ∀ args w, (callFunc gf args).run P w = .ok (.enter gf args) w)
    (Rd : α → Value → Nat → World → Prop) (S : List α) (hseq : Brings F (n - 1) P gf lb Rd S w) (hps : ps.size = 1)
    (I : List α → Nat → World → Prop) (hI : ∀ pre B, Abide w.heap.size (I pre B)) (hIB : ∀ {pre B B' W}, B ≤ B' → I pre B W → I pre B' W) (hRd : ∀ x v B, Abide w.heap.size (Rd x v B))
    (h0 : I [] w.heap.size w) (a₁ : Value → Act)
    (hassign : ∀ (l : Nat) (v : Value) (W : World) (K : Act → World → Prop), K (a₁ v) W →
      assign.wpIn (F.inRound l) (n - 1 - 1) P (Exit.then K (fun _ _ _ => False)) { tmps := (ps.zip #[v]).foldl (fun t (p, v) => t.setIfInBounds p v) a.tmps, defers := [] } W)
    (hbody : ∀ (l : Nat) (pre : List α) (x : α) (post : List α) (v : Value) (B : Nat) (W : World), S = pre ++ x :: post → I pre B W → B ≤ W.heap.size → w.heap.size ≤ B → Rd x v B W → body.wpIn (F.inRound l) (n - 1 - 1) P (bodyEnd w.heap.size Rd I (pre ++ [x]) x v W) (a₁ v) W)
    (hdone : ∀ (D : Nat) (W : World), w.heap.size ≤ D → I S W.heap.size W → W.heap[D]? = some (.deferred (some [])) → Q .normal { a with defers := { target := .collected D, args := #[] } :: a.defers } W) :
    (Code.rangeFunc g ps assign body).wpIn F n P Q a w := by
  refine wpIn_rangeFunc ?_
  intro fn hfn
  rw [hro]
  obtain ⟨rec, hrec⟩ : ∃ rec : LoopState → Option Code → Loop, rec = fun st pe => { state := st, pending := pe, fn, tmps := a.tmps, params := ps, assign, body, defers := w.heap.size } := ⟨_, rfl⟩
  obtain ⟨W1, hW1⟩ : ∃ W1, (w.alloc (.deferred (some []))).alloc (.loop (rec .ready none)) = W1 := ⟨_, rfl⟩
  have hL1 : W1.heap[w.heap.size + 1]? = some (.loop (rec .ready none)) := by
    rw [← hW1]; have := World.alloc_heap_new (w.alloc (.deferred (some []))) (.loop (rec .ready none)); rwa [World.size_alloc] at this
  have hK1 : W1.heap[w.heap.size]? = some (.deferred (some [])) := by
    rw [← hW1]; exact (Below.heap_alloc _ _ _ (by simp)).trans (World.alloc_heap_new w _)
  have hI1 : I [] W1.heap.size W1 := by
    rw [← hW1]; exact hIB (by simp; omega) (OwnFrom.alloc (hI _ _) (s := ()) _ (OwnFrom.alloc (hI _ _) (s := ()) _ h0))
  have hb1 : Below w.heap.size w W1 := by
    rw [← hW1]; exact ((Below.refl _ w).alloc (Nat.le_refl _) _).alloc (by simp) _
  refine ⟨w.heap.size + 1, [{ target := .collected w.heap.size, args := #[] }], W1, { target := .fn (.func gf) lb, args := #[.func (.yield (w.heap.size + 1)) #[] #[]] }, W1, gf,
    #[.func (.yield (w.heap.size + 1)) #[] #[]] ++ lb, W1, ?_, ?_, ?_, ?_, fun _ => h1, ?_⟩
  · rw [← hW1, hrec]; exact run_enterLoop_outer _ _ _ _ _
  · simp only [resolve, hg]
    simp [go_sem]
  · intro f' hf'; simp [Target.leads] at hf'; subst hf'; exact hFg
  · simp [invoke, go_sem, eg]
  · refine (hseq (w.heap.size + 1)
      (fun pre W => I pre W.heap.size W ∧ w.heap.size + 2 ≤ W.heap.size ∧ W.heap[w.heap.size + 1]? = some (.loop (rec .ready none)) ∧ W.heap[w.heap.size]? = some (.deferred (some [])))
      W1 hb1 ?_ ⟨hI1, by rw [← hW1]; simp, hL1, hK1⟩).mono ?_
    · rintro pre x post v W0 W hS ⟨hi, hsz, hl, hk⟩ hE hrd
      replace hl : W.heap[w.heap.size + 1]? = some (.loop (rec .ready none)) := (hE.block _ (by omega)).trans hl
      replace hk : W.heap[w.heap.size]? = some (.deferred (some [])) := (hE.block _ (by omega)).trans hk
      have hz := hE.sz
      have hi' : I pre W0.heap.size W := hI _ _ () W0 W none hi ⟨hE.os, hE.tape, hE.output, hE.size, fun k hk _ => hE.block k hk⟩ (fun r e => by cases e)
      have hy := run_yield (P := P) (args := #[v]) hl (by rw [hrec]; simpa using hps.symm)
      rw [hrec] at hy
      refine ⟨fn, _, assign, body, hy, roundIn_of_wpIn hfn (hassign _ v W _ ?_)⟩
      clear hy
      refine ⟨_, run_beginRound hl (by rw [hrec]), ?_⟩
      have hlt : w.heap.size + 1 < W.heap.size := by omega
      have hl2 : (W.putObj (w.heap.size + 1) (.loop { rec .ready none with state := .busy })).heap[w.heap.size + 1]? = some (.loop { rec .ready none with state := .busy }) := World.putObj_heap_same hlt
      have hk2 : (W.putObj (w.heap.size + 1) (.loop { rec .ready none with state := .busy })).heap[w.heap.size]? = some (.deferred (some [])) := (World.putObj_heap_other (by omega)).trans hk
      refine wpIn_mono (hbody _ pre x post v W0.heap.size _ hS (OwnFrom.putObj (hI _ _) (s := ()) _ hi' (by omega) hl rfl) (by simpa using hz) (by omega) (OwnFrom.putObj (hRd _ _ _) (s := ()) _ hrd (by omega) hl rfl)) ?_
      rintro e a3 W3 hp
      cases e with
      | normal =>
        obtain ⟨hk3, hi3, hr3⟩ := hp
        have hl3 := hk3.same _ _ (by omega) hl2 rfl
        have hd3 := hk3.same _ _ (Nat.le_refl _) hk2 rfl
        have hr := run_endRound (P := P) none hl3
        rw [hrec] at hr hl3
        have hz3 := hk3.size
        rw [World.putObj_size] at hz3
        refine ⟨_, _, hr, rfl, ⟨?_, ?_, ?_, ?_⟩, OwnFrom.putObj (hRd _ _ _) (s := ()) _ hr3 (by omega) hl3 rfl⟩
        · rw [World.putObj_size]; exact OwnFrom.putObj (hI _ _) (s := ()) _ hi3 (by omega) hl3 rfl
        · rw [World.putObj_size]; omega
        · rw [World.putObj_heap_same (Array.getElem?_eq_some_iff.1 hl3).1, hrec]; rfl
        · exact (World.putObj_heap_other (by omega)).trans hd3
      | ret => exact hp.elim
      | exit id => exact hp.elim
      | goto t => exact hp.elim
      | panic ch => exact hp.elim
      | outgrown => exact hp.elim
    · rintro e W2 ⟨⟨v, rfl⟩, W0, ⟨hi, hsz, hl, hk⟩, hE⟩
      have hz := hE.sz
      replace hl : W2.heap[w.heap.size + 1]? = some (.loop (rec .ready none)) := (hE.block _ (by omega)).trans hl
      replace hk : W2.heap[w.heap.size]? = some (.deferred (some [])) := (hE.block _ (by omega)).trans hk
      have hi' : I S W0.heap.size W2 := hI _ _ () W0 W2 none hi ⟨hE.os, hE.tape, hE.output, hE.size, fun k hk _ => hE.block k hk⟩ (fun r e => by cases e)
      refine ⟨none, _, by have := run_endLoop (P := P) hl (by rw [hrec]; simp); rw [hrec] at this; exact this, hdone _ _ (Nat.le_refl _) ?_ ((World.putObj_heap_other (by omega)).trans hk)⟩
      rw [World.putObj_size]
      exact hIB hz (OwnFrom.putObj (hI _ _) (s := ()) _ hi' (by omega) hl rfl)

/- a region that draws, in a round: as elsewhere, where it holds no defer statement -/
def noDefer (ops : Array Oper) : Bool := ops.toList.all fun o => match o.op with
  | .defer _ => false
  | _ => true
theorem no_defer {ops : Array Oper} (h : noDefer ops = true) {i : Nat} {o : Oper} (ho : ops[i]? = some o) : ∀ c, o.op ≠ .defer c := fun c e => by
  have := List.all_eq_true.1 h o (by rw [Array.mem_toList_iff]; exact Array.mem_of_getElem? ho)
  rw [e] at this
  cases this
theorem upon_round {r : Nat} {o : Oper} {a : Act} {K : Act → World → Prop} {Q : Exit → Act → World → Prop} {x : Result Next} (h : o.upon P a K Q x) : o.uponIn (Fence.wide.inRound r) n P a K Q x := by
  cases x with
  | ok nx w' =>
    cases nx <;> simp only [Oper.upon] at h <;> simp only [Oper.uponIn]
    case value v => exact h
    case skip => exact h
    case defer d => exact h
    case enter f args => exact ⟨fun e => (by cases e), CallsIn.inRound r (callsIn_wide.2 h)⟩
    case row row args =>
      refine ⟨fun e => (by cases e), fun c cs _ => ?_⟩
      obtain ⟨v, w'', hr, hs⟩ := h c cs
      exact ⟨v, w'', hr, stepsIn_wide.2 hs⟩
  | halt x w' => cases x <;> exact h
theorem wpOpIn_round {r : Nat} {ops : Array Oper} {Q : Exit → Act → World → Prop} {i : Nat} {K : Act → World → Prop} {a : Act} {w : World} (hd : noDefer ops = true) (hQ : LetsOut Q → False) (h : wpOp P ops Q i K a w) : wpOpIn (Fence.wide.inRound r) n P ops Q i K a w := by
  unfold wpOp at h
  unfold wpOpIn
  cases ho : ops[i]? with
  | none => rw [ho] at h; exact h
  | some o =>
    rw [ho] at h
    simp only at h ⊢
    split
    · rename_i hw
      rw [if_pos hw] at h
      refine ⟨fun _ _ => trivial, ?_⟩
      rw [Oper.semAt_eq _ _ _ (no_defer hd ho)]
      exact upon_round (h.resolve_right fun e => hQ e.2)
    · rename_i hw
      rw [if_neg hw] at h
      exact ⟨fun _ _ => trivial, h⟩
theorem wpAnyIn_round {r : Nat} {ops : Array Oper} {Q : Exit → Act → World → Prop} {md : Region.Mode} (hd : noDefer ops = true) (hQ : LetsOut Q → False) : ∀ (fuel : Nat) (l : Array Bool) (a : Act) (w : World), wpAny P md ops Q fuel l a w → wpAnyIn (Fence.wide.inRound r) n P md ops Q fuel l a w
  | 0, _, _, _, h => h
  | fuel + 1, l, a, w, h => ⟨h.1, fun i hi => wpOpIn_mono (fun a w => wpAnyIn_round hd hQ fuel _ a w) (wpOpIn_round hd hQ (h.2 i hi))⟩
theorem wpIn_region_seq {r : Nat} {l t : List Oper} {Q : Exit → Act → World → Prop} {id : Nat} {a : Act} {w : World} (ds : List (Option Tmp)) (D : List (List Nat)) (X : List Nat) (F : List SP) (hQ : LetsOut Q → False) (hm : P.follows .mixedOrders = true)
    (hck : (monoOk (l ++ t).toArray a.tmps.size && depsOk (l ++ t).toArray D && ((l ++ t).map (·.dst) == ds) && tailOk (l ++ t).toArray l.length X && noDefer (l ++ t).toArray) = true) (hops : OpsOk P ds a w.drew F D 0 l)
    (hfin : ∀ (x : Nat → Value) (W : World), Ext w.drew W → Known F x W (List.range l.length) → wpList P (l ++ t).toArray Q t (putD ds x (List.range l.length) a) W) :
    (Code.region id (l ++ t).toArray true).wpIn (Fence.wide.inRound r) n P Q a w := by
  rw [Bool.and_eq_true] at hck
  exact wpIn_region_any hm (wpAnyIn_round hck.2 hQ _ _ _ _ (wpAny_seq ds D X F hck.1 hops hfin))
end
end Hach
