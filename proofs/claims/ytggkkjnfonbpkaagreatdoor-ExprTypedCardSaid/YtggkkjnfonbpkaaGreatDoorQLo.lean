/- Changes among the arguments. -/
import Derived.Test.YtggkkjnfonbpkaaGreatDoorQLd
import Derived.OpenShut
import Derived.ProofKit
import Derived.Deep.Slices

set_option linter.unusedSimpArgs false
set_option linter.unusedVariables false
namespace Go.Proofs.YtggkkjnfonbpkaaGreatDoor
open Go.RowKit Hach
open Go.ChangeShapes Go.WideShapes Go.ChangeAt Go.WideMaps Go.WideElems
open Go.ChangeMaps (open_string shut_string)
open Go.Deep

theorem list_of_bytes (b : ByteArray) : ∃ s : List UInt8, b = ⟨s.toArray⟩ ∧ b.size = s.length := ⟨b.data.toList, by cases b; simp, by cases b; simp [ByteArray.size]⟩
theorem change_open {H : Type} {enc : TypeId × Value → H} {W : World} {m : Nat} {c0 c1 c2 : Value} {x : DataW H × List MemPlace} (h : DataW.trod enc Tryz.prog W 0 (fun _ => true) true m 48 [c0, c1, c2] = some x) :
    ∃ (a b : Nat) (s : List UInt8), c0 = .int .u16 (a : Nat) ∧ c1 = .int .u8 (b : Nat) ∧ c2 = .string ⟨s.toArray⟩ ∧ a < 65536 ∧ b < 256 ∧ s.length < 9223372036854775808 := by
  obtain ⟨fs, hfs, h0, h1, h2, hsz⟩ : ∃ fs : Array Field, Tryz.prog.underlying 48 = some (.struct fs) ∧ (∃ f, fs[0]? = some f ∧ f.offset = 0 ∧ f.type = 46) ∧ (∃ f, fs[1]? = some f ∧ f.offset = 1 ∧ f.type = 5) ∧ (∃ f, fs[2]? = some f ∧ f.offset = 2 ∧ f.type = 9) ∧ fs.size = 3 :=
    ⟨_, Tryz.underlying48, ⟨_, rfl, rfl, rfl⟩, ⟨_, rfl, rfl, rfl⟩, ⟨_, rfl, rfl, rfl⟩, rfl⟩
  obtain ⟨ys, n', hn', hy, hlen, hyl, hf⟩ := DataW.trod_struct hfs h
  have q1 : Tryz.prog.cellsOf 46 = 1 := by kernel_rfl
  have q2 : Tryz.prog.cellsOf 5 = 1 := by kernel_rfl
  have q3 : Tryz.prog.cellsOf 9 = 1 := by kernel_rfl
  obtain ⟨f0, u0, o0, p0⟩ := h0
  obtain ⟨f1, u1, o1, p1⟩ := h1
  obtain ⟨f2, u2, o2, p2⟩ := h2
  have t0 := hf 0 f0 u0
  have t1 := hf 1 f1 u1
  have t2 := hf 2 f2 u2
  rw [o0, p0, q1] at t0
  rw [o1, p1, q2] at t1
  rw [o2, p2, q3] at t2
  rw [hsz] at hyl
  match ys, hyl with
  | [y0, y1, y2], _ =>
    obtain ⟨n0, e0, _, w0⟩ := DataW.trod_int Tryz.underlying46 (show DataW.trod enc Tryz.prog W 0 (fun _ => true) true n' 46 [c0] = some y0 from t0)
    obtain ⟨n1, e1, _, w1⟩ := DataW.trod_int Tryz.underlying5 (show DataW.trod enc Tryz.prog W 0 (fun _ => true) true n' 5 [c1] = some y1 from t1)
    obtain ⟨b, e2, _, w2⟩ := DataW.trod_string Tryz.underlying9 (show DataW.trod enc Tryz.prog W 0 (fun _ => true) true n' 9 [c2] = some y2 from t2)
    have hb0 := bounds_u16 w0
    have hb1 := bounds_u8 w1
    simp only [List.cons.injEq, and_true] at e0 e1 e2
    subst e0 e1 e2
    obtain ⟨s, rfl, hs⟩ := list_of_bytes b
    obtain ⟨q0, rfl⟩ : ∃ k : Nat, n0 = k := ⟨n0.toNat, by omega⟩
    obtain ⟨q1, rfl⟩ : ∃ k : Nat, n1 = k := ⟨n1.toNat, by omega⟩
    exact ⟨q0, q1, s, rfl, rfl, rfl, by omega, by omega, by simp only [maxLen] at w2; omega⟩
set_option maxRecDepth 100000 in
theorem changes_open {H : Type} {enc : TypeId × Value → H} {r : Reach} {b0 : Nat} {W : World} {v : Value} {d : DataW H} {ps : List MemPlace} (hv : Value.okWide Tryz.prog W r b0 49 v) (h : DataW.Trod enc Tryz.prog W 0 (fun _ => true) true 49 v d ps) :
    ∃ (a1 b1 : Nat) (s1 : List UInt8) (a2 b2 : Nat) (s2 : List UInt8), v = .agg #[.int .u16 (a1 : Nat), .int .u8 (b1 : Nat), .string ⟨s1.toArray⟩, .int .u16 (a2 : Nat), .int .u8 (b2 : Nat), .string ⟨s2.toArray⟩] ∧ (a1 < 65536 ∧ b1 < 256 ∧ s1.length < 9223372036854775808) ∧ (a2 < 65536 ∧ b2 < 256 ∧ s2.length < 9223372036854775808) := by
  simp only [Value.okWide, Tryz.underlying49] at hv
  obtain ⟨cs, rfl, hsz, _⟩ := hv
  obtain ⟨l⟩ := cs
  have hC : Tryz.prog.cellsOf 48 = 3 := by kernel_rfl
  match l, hsz.trans (show Tryz.prog.cellsOf 49 = 6 by kernel_rfl) with
  | [c0, c1, c2, c3, c4, c5], _ =>
    obtain ⟨fuel, hf⟩ := h
    obtain ⟨xs, m, _, _, _, hl, hget⟩ := DataW.trod_array Tryz.underlying49 hf
    have g0 := hget 0 (by omega)
    have g1 := hget 1 (by omega)
    rw [hC] at g0 g1
    match xs, hl with
    | [x0, x1], _ =>
      obtain ⟨a1, b1, s1, rfl, rfl, rfl, h1⟩ := change_open (show DataW.trod enc Tryz.prog W 0 (fun _ => true) true m 48 [c0, c1, c2] = some x0 from g0)
      obtain ⟨a2, b2, s2, rfl, rfl, rfl, h2⟩ := change_open (show DataW.trod enc Tryz.prog W 0 (fun _ => true) true m 48 [c3, c4, c5] = some x1 from g1)
      exact ⟨a1, b1, s1, a2, b2, s2, rfl, h1, h2⟩
end Go.Proofs.YtggkkjnfonbpkaaGreatDoor
