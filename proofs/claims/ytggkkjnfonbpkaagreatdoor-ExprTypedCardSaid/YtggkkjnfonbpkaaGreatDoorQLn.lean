/- Arrays of numbers, and of lists of numbers, among the arguments. -/
import Derived.Test.YtggkkjnfonbpkaaGreatDoorQLo

set_option linter.unusedSimpArgs false
set_option linter.unusedVariables false
namespace Go.Proofs.YtggkkjnfonbpkaaGreatDoor
open Go.RowKit Hach
open Go.ChangeShapes Go.WideShapes Go.ChangeAt Go.WideMaps Go.WideElems
open Go.ChangeMaps (open_string shut_string)

set_option maxRecDepth 100000
theorem three_of {H : Type} {enc : TypeId × Value → H} {W : World} {m : Nat} {c0 c1 c2 : Value} {x : DataW H × List MemPlace} (h : DataW.trod enc Tryz.prog W 0 (fun _ => true) true m 23 [c0, c1, c2] = some x) :
    ∃ a b c : Int, c0 = .int .i64 a ∧ c1 = .int .i64 b ∧ c2 = .int .i64 c := by
  have hC : Tryz.prog.cellsOf 3 = 1 := by kernel_rfl
  obtain ⟨xs, m, _, _, _, hl, hget⟩ := DataW.trod_array Tryz.underlying23 h
  have g0 := hget 0 (by omega)
  have g1 := hget 1 (by omega)
  have g2 := hget 2 (by omega)
  rw [hC] at g0 g1 g2
  match xs, hl with
  | [x0, x1, x2], _ =>
    obtain ⟨a, e0, _, _⟩ := DataW.trod_int Tryz.underlying3 (show DataW.trod enc Tryz.prog W 0 (fun _ => true) true m 3 [c0] = some x0 from g0)
    obtain ⟨b, e1, _, _⟩ := DataW.trod_int Tryz.underlying3 (show DataW.trod enc Tryz.prog W 0 (fun _ => true) true m 3 [c1] = some x1 from g1)
    obtain ⟨c, e2, _, _⟩ := DataW.trod_int Tryz.underlying3 (show DataW.trod enc Tryz.prog W 0 (fun _ => true) true m 3 [c2] = some x2 from g2)
    simp only [List.cons.injEq, and_true] at e0 e1 e2
    exact ⟨a, b, c, e0, e1, e2⟩
theorem three_open {H : Type} {enc : TypeId × Value → H} {r : Reach} {b0 : Nat} {W : World} {v : Value} {d : DataW H} {ps : List MemPlace} (hv : Value.okWide Tryz.prog W r b0 23 v) (h : DataW.Trod enc Tryz.prog W 0 (fun _ => true) true 23 v d ps) :
    ∃ a b c : Int, v = .agg #[.int .i64 a, .int .i64 b, .int .i64 c] := by
  simp only [Value.okWide, Tryz.underlying23] at hv
  obtain ⟨cs, rfl, hsz, _⟩ := hv
  obtain ⟨l⟩ := cs
  match l, hsz.trans (show Tryz.prog.cellsOf 23 = 3 by kernel_rfl) with
  | [c0, c1, c2], _ =>
    obtain ⟨fuel, hf⟩ := h
    obtain ⟨a, b, c, rfl, rfl, rfl⟩ := three_of (show DataW.trod enc Tryz.prog W 0 (fun _ => true) true fuel 23 [c0, c1, c2] = some _ from hf)
    exact ⟨a, b, c, rfl⟩
theorem six_open {H : Type} {enc : TypeId × Value → H} {r : Reach} {b0 : Nat} {W : World} {v : Value} {d : DataW H} {ps : List MemPlace} (hv : Value.okWide Tryz.prog W r b0 24 v) (h : DataW.Trod enc Tryz.prog W 0 (fun _ => true) true 24 v d ps) :
    ∃ a b c a' b' c' : Int, v = .agg #[.int .i64 a, .int .i64 b, .int .i64 c, .int .i64 a', .int .i64 b', .int .i64 c'] := by
  simp only [Value.okWide, Tryz.underlying24] at hv
  obtain ⟨cs, rfl, hsz, _⟩ := hv
  obtain ⟨l⟩ := cs
  have hC : Tryz.prog.cellsOf 23 = 3 := by kernel_rfl
  match l, hsz.trans (show Tryz.prog.cellsOf 24 = 6 by kernel_rfl) with
  | [c0, c1, c2, c3, c4, c5], _ =>
    obtain ⟨fuel, hf⟩ := h
    obtain ⟨xs, m, _, _, _, hl, hget⟩ := DataW.trod_array Tryz.underlying24 hf
    have g0 := hget 0 (by omega)
    have g1 := hget 1 (by omega)
    rw [hC] at g0 g1
    match xs, hl with
    | [x0, x1], _ =>
      obtain ⟨a, b, c, rfl, rfl, rfl⟩ := three_of (show DataW.trod enc Tryz.prog W 0 (fun _ => true) true m 23 [c0, c1, c2] = some x0 from g0)
      obtain ⟨a', b', c', rfl, rfl, rfl⟩ := three_of (show DataW.trod enc Tryz.prog W 0 (fun _ => true) true m 23 [c3, c4, c5] = some x1 from g1)
      exact ⟨a, b, c, a', b', c', rfl⟩
theorem slice_of {H : Type} {enc : TypeId × Value → H} {W : World} {m : Nat} {c0 : Value} {x : DataW H × List MemPlace} (h : DataW.trod enc Tryz.prog W 0 (fun _ => true) true m 22 [c0] = some x) :
    ∃ (A : Option Addr) (n c : Nat), c0 = .slice A n c ∧ LI W A n := by
  have key : ∃ (A : Option Addr) (n c : Nat), c0 = .slice A n c := by
    rcases DataW.trod_slice Tryz.underlying22 h with ⟨e, _⟩ | ⟨a, len, cap, _, _, _, _, e, _⟩
    · simp only [List.cons.injEq, and_true] at e; exact ⟨none, 0, 0, e⟩
    · simp only [List.cons.injEq, and_true] at e; exact ⟨some a, len, cap, e⟩
  obtain ⟨A, n, c, rfl⟩ := key
  exact ⟨A, n, c, rfl, ints_open (show DataW.trod enc Tryz.prog W 0 (fun _ => true) true m 22 (Value.slice A n c).cells.toList = some x from h)⟩
theorem lists_open {H : Type} {enc : TypeId × Value → H} {r : Reach} {b0 : Nat} {W : World} {v : Value} {d : DataW H} {ps : List MemPlace} (hv : Value.okWide Tryz.prog W r b0 59 v) (h : DataW.Trod enc Tryz.prog W 0 (fun _ => true) true 59 v d ps) :
    ∃ (A0 A1 A2 A3 : Option Addr) (n0 c0 n1 c1 n2 c2 n3 c3 : Nat), v = .agg #[.slice A0 n0 c0, .slice A1 n1 c1, .slice A2 n2 c2, .slice A3 n3 c3] ∧ LI W A0 n0 ∧ LI W A1 n1 ∧ LI W A2 n2 ∧ LI W A3 n3 := by
  simp only [Value.okWide, Tryz.underlying59] at hv
  obtain ⟨cs, rfl, hsz, _⟩ := hv
  obtain ⟨l⟩ := cs
  have hC : Tryz.prog.cellsOf 22 = 1 := by kernel_rfl
  match l, hsz.trans (show Tryz.prog.cellsOf 59 = 4 by kernel_rfl) with
  | [c0, c1, c2, c3], _ =>
    obtain ⟨fuel, hf⟩ := h
    obtain ⟨xs, m, _, _, _, hl, hget⟩ := DataW.trod_array Tryz.underlying59 hf
    have g0 := hget 0 (by omega)
    have g1 := hget 1 (by omega)
    have g2 := hget 2 (by omega)
    have g3 := hget 3 (by omega)
    rw [hC] at g0 g1 g2 g3
    match xs, hl with
    | [x0, x1, x2, x3], _ =>
      obtain ⟨A0, n0, k0, rfl, h0⟩ := slice_of (show DataW.trod enc Tryz.prog W 0 (fun _ => true) true m 22 [c0] = some x0 from g0)
      obtain ⟨A1, n1, k1, rfl, h1⟩ := slice_of (show DataW.trod enc Tryz.prog W 0 (fun _ => true) true m 22 [c1] = some x1 from g1)
      obtain ⟨A2, n2, k2, rfl, h2⟩ := slice_of (show DataW.trod enc Tryz.prog W 0 (fun _ => true) true m 22 [c2] = some x2 from g2)
      obtain ⟨A3, n3, k3, rfl, h3⟩ := slice_of (show DataW.trod enc Tryz.prog W 0 (fun _ => true) true m 22 [c3] = some x3 from g3)
      exact ⟨A0, A1, A2, A3, n0, k0, n1, k1, n2, k2, n3, k3, rfl, h0, h1, h2, h3⟩
end Go.Proofs.YtggkkjnfonbpkaaGreatDoor
