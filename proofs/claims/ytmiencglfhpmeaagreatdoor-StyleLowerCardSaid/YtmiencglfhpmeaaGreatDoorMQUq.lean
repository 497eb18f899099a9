/- A region in which a new variable is laid and written once: the relation for it. -/
import Derived.Test.YtmiencglfhpmeaaGreatDoorMQUd
import Derived.Test.YtmiencglfhpmeaaGreatDoorMQMonq
set_option linter.unusedSimpArgs false
set_option linter.unusedVariables false
namespace Go.Proofs.YtmiencglfhpmeaaGreatDoor
open Go.RowKit Hach
def OnceS (B : Nat) (T : TypeId) (Z X : Array Value) (W W' : World) : Prop := Below B W W' ∧ ∀ k, B ≤ k → k < W.heap.size → W'.heap[k]? = W.heap[k]? ∨ (W.heap[k]? = some (.cells Z T (0, 0)) ∧ W'.heap[k]? = some (.cells X T (0, 0)))
theorem OnceS.refl (B : Nat) (T : TypeId) (Z X : Array Value) (W : World) : OnceS B T Z X W W := ⟨Below.refl _ W, fun _ _ _ => .inl rfl⟩
theorem OnceS.trans (B : Nat) (T : TypeId) (Z X : Array Value) {U V W : World} (h : OnceS B T Z X U V) (k : OnceS B T Z X V W) : OnceS B T Z X U W := by
 refine ⟨Below.trans h.1 k.1, fun j hj hl => ?_⟩
 have h1 := h.2 j hj hl
 have h2 := k.2 j hj (Nat.lt_of_lt_of_le hl h.1.size)
 rcases h1 with h1 | ⟨a1, b1⟩ <;> rcases h2 with h2 | ⟨a2, b2⟩
 ·exact .inl (h2.trans h1)
 ·exact .inr ⟨h1 ▸ a2, b2⟩
 ·exact .inr ⟨a1, h2.trans b1⟩
 ·exact .inr ⟨a1, b2⟩
theorem OnceS.ext {B : Nat} {T : TypeId} {Z X : Array Value} {W W' : World} (h : Ext W W') (hB : B ≤ W.heap.size) : OnceS B T Z X W W' :=
 ⟨below_row' (grown_of h none) hB (fun g e => by cases e), fun k _ hl => .inl (h.below.block k hl)⟩
theorem OnceS.put {B : Nat} {T : TypeId} {Z X : Array Value} {W W' : World} {g : Nat} (hB : B ≤ W.heap.size) (hg : B ≤ g) (h : W.heap[g]? = some (.cells Z T (0, 0)) ∨ W.heap[g]? = some (.cells X T (0, 0))) (hx : W'.heap[g]? = some (.cells X T (0, 0))) (hgr : W.grownBy W' (some g)) : OnceS B T Z X W W' := by
 refine ⟨below_row' hgr hB (fun k e => by simp only [Option.some.injEq] at e; omega), fun k hk hl => ?_⟩
 by_cases e : k = g
 ·subst e
  rcases h with h | h
  ·exact .inr ⟨h, hx⟩
  ·exact .inl (hx.trans h.symm)
 ·exact .inl (hgr.block k hl (by simpa using e))
def newL (B : Nat) (T : TypeId) (Z X : Array Value) : SPl (OnceS B T Z X) := ⟨[], fun _ v W => ∃ g, v = .pointer (some ⟨g, 0, none⟩) ∧ B ≤ g ∧ (W.heap[g]? = some (.cells Z T (0, 0)) ∨ W.heap[g]? = some (.cells X T (0, 0))), fun h hE => by
 obtain ⟨g, e, h1, h2⟩ := h
 refine ⟨g, e, h1, ?_⟩
 rcases hE.2 g h1 (by rcases h2 with h | h <;> exact (Array.getElem?_eq_some_iff.1 h).1) with h | ⟨_, h⟩
 ·rw [h]; exact h2
 ·exact .inr h, fun _ h => h⟩
def putL (B : Nat) (T : TypeId) (Z X : Array Value) (i : Nat) : SPl (OnceS B T Z X) := ⟨[i], fun x _ W => ∃ g, x i = .pointer (some ⟨g, 0, none⟩) ∧ B ≤ g ∧ W.heap[g]? = some (.cells X T (0, 0)), fun h hE => by
 obtain ⟨g, e, h1, h2⟩ := h
 refine ⟨g, e, h1, ?_⟩
 rcases hE.2 g h1 (Array.getElem?_eq_some_iff.1 h2).1 with h | ⟨_, h⟩
 ·exact h.trans h2
 ·exact h, fun hx h => by
 obtain ⟨g, e, h1⟩ := h
 exact ⟨g, (hx _ (List.mem_singleton.2 rfl)).trans e, h1⟩⟩
theorem store_T {ops : Array Oper} {rest : List Oper} {op : Oper} {a : Act} {w : World} {Q : Exit → Act → World → Prop} (T : TypeId) (g : Nat) (C cs : List Value) (h : w.heap[g]? = some (.cells C.toArray T (0, 0))) (hC : C.length = cs.length) (hi : (Tryz.prog.info? T).map (·.size) = some cs.length) (h1 : ∀ v ∈ cs, v.oneCell' = true) (hgd : op.guard = none) (x y : Operand) (hop : op.op = .store T x y) (hx : a.eval x = .pointer (some ⟨g, 0, none⟩)) (hy : a.eval y = .agg cs.toArray)
  (hk : ∀ w', w'.heap[g]? = some (.cells cs.toArray T (0, 0)) → w.grownBy w' (some g) → wpList Tryz.prog ops Q rest (a.put op.dst undef) w') : wpList Tryz.prog ops Q (op :: rest) a w := by
 have hp := put_mid cs C [] [] w (by simpa using h) hC
 refine wpList_store_mid hgd T x y hop g 0 cs.toArray hx hy (fun j hj => ?_) (by rw [hi]; simp) (all_oneCell_toArray h1) (hk _ (by have := hp.1; simp only [List.nil_append, List.append_nil, List.length_nil] at this; exact this) hp.2)
 have hj2 : j < C.length := by rw [hC]; simpa using hj
 refine ⟨?_, by simp [World.frozen?, h]⟩
 simp [World.cell?, h, hj2]
theorem cells_of {W : World} {g : Nat} {X : Array Value} {T : TypeId} (h : W.heap[g]? = some (.cells X T (0, 0))) (i : Nat) (v : Value) (hv : X[i]? = some v) : W.cell? ⟨g, i, none⟩ = some v := by simp [World.cell?, h, hv]
end Go.Proofs.YtmiencglfhpmeaaGreatDoor
