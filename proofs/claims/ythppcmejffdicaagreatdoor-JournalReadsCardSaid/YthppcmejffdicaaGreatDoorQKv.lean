/- Lists of structs among the arguments: calls, falls. -/
import Derived.Test.YthppcmejffdicaaGreatDoorQKu
import Derived.Test.YthppcmejffdicaaGreatDoorQKm
import Derived.Test.YthppcmejffdicaaGreatDoorQKq
import Derived.OpenShut
import Derived.ProofKit
import Derived.Deep.Slices

set_option linter.unusedSimpArgs false
set_option linter.unusedVariables false
namespace Go.Proofs.YthppcmejffdicaaGreatDoor
open Go.RowKit Hach Num
open Go.ChangeShapes Go.WideShapes Go.ChangeAt Go.WideMaps Go.WideElems
open Go.ChangeMaps (open_string shut_string)
open Go.Deep

section
open Go.Deep
variable {H : Type} {enc : TypeId × Value → H} {P : Program} {w : World} {base : Nat} {spare : Nat → Bool} {held : Bool}
theorem open_slice_fields {t e : TypeId} {fs : Array Field} {fuel : Nat} {cs : List Value} {x : DataW H × List MemPlace} (ht : P.underlying t = some (.slice e)) (he : P.underlying e = some (.struct fs))
    (hone : oneCellFields P fs = true) (hC : P.cellsOf e = fs.size) (h : DataW.trod enc P w base spare held fuel t cs = some x) :
    (cs = [.slice none 0 0] ∧ x = (.nil, [])) ∨
    ∃ (a : Addr) (len cap m : Nat), cs = [.slice (some a) len cap] ∧ len ≤ cap ∧ cap ≤ maxLen ∧ m = (if spare a.block then cap else len) ∧
      ∀ i, i < m → ∃ (ys : List (DataW H × List MemPlace)) (n : Nat),
        ∀ (j : Nat) (f : Field), fs[j]? = some f → ∃ (v : Value) (y : DataW H × List MemPlace), w.cell? (a.add (i * fs.size + j)) = some v ∧ ys[j]? = some y ∧ DataW.trod enc P w base spare held n f.type [v] = some y := by
  rcases open_slice ht h with h0 | ⟨a, len, cap, m, n, D, Pl, hcs, hb, hl, hm, hmm, hx, hi⟩
  · exact .inl h0
  · refine .inr ⟨a, len, cap, m, hcs, hl, hm, hmm, fun i him => ?_⟩
    obtain ⟨cs', hc, ht'⟩ := hi i him
    rw [hC] at hc
    obtain ⟨ys, n', hn', hy, hlen, hyl, hf⟩ := DataW.trod_struct he ht'
    obtain ⟨_, hcl, hat⟩ := World.cells?_some hc
    refine ⟨ys, n', fun j f hj => ?_⟩
    obtain ⟨ho, hk⟩ := hone_of hone j f hj
    have hjl : j < fs.size := (Array.getElem?_eq_some_iff.1 hj).1
    have hcell := hat j hjl
    have hv : cs'[j]? = some (cs'[j]'(by omega)) := List.getElem?_eq_getElem (by omega)
    have h1 := hf j f hj
    rw [ho, hk] at h1
    have hone' : (cs'.drop j).take 1 = [cs'[j]'(by omega)] := by
      rw [List.drop_eq_getElem_cons (by omega)]
      rfl
    rw [hone'] at h1
    have hys : ys[j]? = some (ys[j]'(by omega)) := List.getElem?_eq_getElem (by omega)
    refine ⟨_, _, ?_, hys, h1.trans hys⟩
    rw [← Go.Deep.add_add, hcell, hv]
end


theorem list_of_bytes (b : ByteArray) : ∃ s : List UInt8, b = ⟨s.toArray⟩ ∧ b.size = s.length := ⟨b.data.toList, by cases b; simp, by cases b; simp [ByteArray.size]⟩
theorem ops_open {H : Type} {enc : TypeId × Value → H} {W : World} {fuel : Nat} {A : Option Addr} {n c : Nat} {x : DataW H × List MemPlace} (h : DataW.trod enc Tryz.prog W 0 (fun _ => true) true fuel 22 (Value.slice A n c).cells.toList = some x) :
    OpsAt W A n ∧ n < 9223372036854775808 := by
  rcases open_slice_fields Tryz.underlying22 Tryz.underlying31 (by kernel_rfl) (show Tryz.prog.cellsOf 31 = 3 by kernel_rfl) h with ⟨hcs, _⟩ | ⟨a, len, cap, m, hcs, hl, hm, hmm, hi⟩
  · simp [Value.cells] at hcs
    obtain ⟨rfl, rfl, rfl⟩ := hcs
    exact ⟨⟨fun h0 => absurd h0 (by omega)⟩, by decide⟩
  · simp [Value.cells] at hcs
    obtain ⟨rfl, rfl, rfl⟩ := hcs
    have hmc : m = c := by simpa using hmm
    have hm' : c < 9223372036854775808 := by simp only [maxLen] at hm; omega
    refine ⟨⟨fun h0 => ?_⟩, by omega⟩
    have key : ∀ i, i < n → ∃ (kd nm : Nat) (tx : List UInt8), kd < 256 ∧ nm < 256 ∧ tx.length < 9223372036854775808 ∧ W.cell? (a.add (i * 3 + 0)) = some (.int .u8 kd) ∧ W.cell? (a.add (i * 3 + 1)) = some (.int .u8 nm) ∧ W.cell? (a.add (i * 3 + 2)) = some (.string ⟨tx.toArray⟩) := fun i hi' => by
      obtain ⟨ys, n', hf⟩ := hi i (by omega)
      obtain ⟨c0, y0, k0, _, t0⟩ := hf 0 _ rfl
      obtain ⟨c1, y1, k1, _, t1⟩ := hf 1 _ rfl
      obtain ⟨c2, y2, k2, _, t2⟩ := hf 2 _ rfl
      obtain ⟨n0, e0, _, w0⟩ := DataW.trod_int Tryz.underlying5 t0
      obtain ⟨n1, e1, _, w1⟩ := DataW.trod_int Tryz.underlying5 t1
      obtain ⟨b, e2, _, w2⟩ := DataW.trod_string Tryz.underlying9 t2
      have hb0 := bounds_u8 w0
      have hb1 := bounds_u8 w1
      simp only [List.cons.injEq, and_true] at e0 e1 e2
      subst e0 e1 e2
      obtain ⟨s, rfl, hs⟩ := list_of_bytes b
      obtain ⟨q0, rfl⟩ : ∃ k : Nat, n0 = k := ⟨n0.toNat, by omega⟩
      obtain ⟨q1, rfl⟩ : ∃ k : Nat, n1 = k := ⟨n1.toNat, by omega⟩
      exact ⟨q0, q1, s, by omega, by omega, by simp only [maxLen] at w2; omega, k0, k1, k2⟩
    obtain ⟨b, o, spot⟩ := a
    obtain ⟨_, _, _, _, _, _, q0, _⟩ := key 0 h0
    have hspot : spot = none := by simpa [Addr.add] using World.cell?_spot q0
    subst hspot
    have hb : b < W.heap.size := World.block_lt_of_cell? W _ q0
    refine ⟨b, o, rfl, hb, fun j hj => ?_⟩
    obtain ⟨kd, nm, tx, h1, h2, h3, k0, k1, k2⟩ := key j hj
    rw [Go.WideShapes.add_plain] at k0 k1 k2
    exact ⟨kd, nm, tx, h1, h2, h3, k0, by rw [Nat.add_assoc]; exact k1, by rw [Nat.add_assoc]; exact k2⟩
theorem falls_open {H : Type} {enc : TypeId × Value → H} {W : World} {fuel : Nat} {A : Option Addr} {n c : Nat} {x : DataW H × List MemPlace} (h : DataW.trod enc Tryz.prog W 0 (fun _ => true) true fuel 51 (Value.slice A n c).cells.toList = some x) :
    FallsAt W A n ∧ n < 9223372036854775808 := by
  rcases open_slice_fields Tryz.underlying51 Tryz.underlying53 (by kernel_rfl) (show Tryz.prog.cellsOf 53 = 4 by kernel_rfl) h with ⟨hcs, _⟩ | ⟨a, len, cap, m, hcs, hl, hm, hmm, hi⟩
  · simp [Value.cells] at hcs
    obtain ⟨rfl, rfl, rfl⟩ := hcs
    exact ⟨⟨fun h0 => absurd h0 (by omega)⟩, by decide⟩
  · simp [Value.cells] at hcs
    obtain ⟨rfl, rfl, rfl⟩ := hcs
    have hmc : m = c := by simpa using hmm
    have hm' : c < 9223372036854775808 := by simp only [maxLen] at hm; omega
    refine ⟨⟨fun h0 => ?_⟩, by omega⟩
    have key : ∀ i, i < n → ∃ (R : Option Addr) (m c : Nat) (rs : List (List UInt8)) (u kp op : Nat), u < 256 ∧ kp < 256 ∧ op < 256 ∧ m < 9223372036854775808 ∧ (∀ i, (rs.getD i []).length < 9223372036854775808) ∧ RowT W W.heap.size R m rs ∧ W.cell? (a.add (i * 4 + 0)) = some (.slice R m c) ∧ W.cell? (a.add (i * 4 + 1)) = some (.int .u8 (u : Nat)) ∧ W.cell? (a.add (i * 4 + 2)) = some (.int .u8 (kp : Nat)) ∧ W.cell? (a.add (i * 4 + 3)) = some (.int .u8 (op : Nat)) := fun i hi' => by
      obtain ⟨ys, n', hf⟩ := hi i (by omega)
      obtain ⟨c0, y0, k0, _, t0⟩ := hf 0 _ rfl
      obtain ⟨c1, y1, k1, _, t1⟩ := hf 1 _ rfl
      obtain ⟨c2, y2, k2, _, t2⟩ := hf 2 _ rfl
      obtain ⟨c3, y3, k3, _, t3⟩ := hf 3 _ rfl
      obtain ⟨n1, e1, _, w1⟩ := DataW.trod_int Tryz.underlying5 t1
      obtain ⟨n2, e2, _, w2⟩ := DataW.trod_int Tryz.underlying5 t2
      obtain ⟨n3, e3, _, w3⟩ := DataW.trod_int Tryz.underlying5 t3
      have hb1 := bounds_u8 w1
      have hb2 := bounds_u8 w2
      have hb3 := bounds_u8 w3
      simp only [List.cons.injEq, and_true] at e1 e2 e3
      subst e1 e2 e3
      have q3 : ∃ A m c, c0 = .slice A m c := by
        rcases open_slice Tryz.underlying36 t0 with ⟨h, _⟩ | ⟨a, len, cap, _, _, _, _, h, _⟩
        · exact ⟨none, 0, 0, by simpa using h⟩
        · exact ⟨some a, len, cap, by simpa using h⟩
      obtain ⟨R, m, c, rfl⟩ := q3
      obtain ⟨rs, hR, hm, _, hrs⟩ := texts_open (A := R) (n := m) (c := c) t0
      obtain ⟨q1, rfl⟩ : ∃ k : Nat, n1 = k := ⟨n1.toNat, by omega⟩
      obtain ⟨q2, rfl⟩ : ∃ k : Nat, n2 = k := ⟨n2.toNat, by omega⟩
      obtain ⟨q3, rfl⟩ : ∃ k : Nat, n3 = k := ⟨n3.toNat, by omega⟩
      exact ⟨R, m, c, rs, q1, q2, q3, by omega, by omega, by omega, hm, hrs, hR, k0, k1, k2, k3⟩
    obtain ⟨b, o, spot⟩ := a
    obtain ⟨_, _, _, _, _, _, _, _, _, _, _, _, _, q0, _⟩ := key 0 h0
    have hspot : spot = none := by simpa [Addr.add] using World.cell?_spot q0
    subst hspot
    have hb : b < W.heap.size := World.block_lt_of_cell? W _ q0
    refine ⟨b, o, rfl, hb, fun j hj => ?_⟩
    obtain ⟨R, m, c, rs, u, kp, op, h1, h2, h3, h4, h5, h6, k0, k1, k2, k3⟩ := key j hj
    rw [Go.WideShapes.add_plain] at k0 k1 k2 k3
    exact ⟨R, m, c, rs, u, kp, op, h1, h2, h3, h4, h5, h6, k0, by rw [Nat.add_assoc]; exact k1, by rw [Nat.add_assoc]; exact k2, by rw [Nat.add_assoc]; exact k3⟩
theorem change_open {H : Type} {enc : TypeId × Value → H} {W : World} {m : Nat} {c0 c1 c2 : Value} {x : DataW H × List MemPlace} (h : DataW.trod enc Tryz.prog W 0 (fun _ => true) true m 47 [c0, c1, c2] = some x) :
    ∃ (a b : Nat) (s : List UInt8), c0 = .int .u16 (a : Nat) ∧ c1 = .int .u8 (b : Nat) ∧ c2 = .string ⟨s.toArray⟩ ∧ a < 65536 ∧ b < 256 ∧ s.length < 9223372036854775808 := by
  obtain ⟨fs, hfs, h0, h1, h2, hsz⟩ : ∃ fs : Array Field, Tryz.prog.underlying 47 = some (.struct fs) ∧ (∃ f, fs[0]? = some f ∧ f.offset = 0 ∧ f.type = 45) ∧ (∃ f, fs[1]? = some f ∧ f.offset = 1 ∧ f.type = 5) ∧ (∃ f, fs[2]? = some f ∧ f.offset = 2 ∧ f.type = 9) ∧ fs.size = 3 :=
    ⟨_, Tryz.underlying47, ⟨_, rfl, rfl, rfl⟩, ⟨_, rfl, rfl, rfl⟩, ⟨_, rfl, rfl, rfl⟩, rfl⟩
  obtain ⟨ys, n', hn', hy, hlen, hyl, hf⟩ := DataW.trod_struct hfs h
  have q1 : Tryz.prog.cellsOf 45 = 1 := by kernel_rfl
  have q2 : Tryz.prog.cellsOf 5 = 1 := by kernel_rfl
  have q3 : Tryz.prog.cellsOf 9 = 1 := by kernel_rfl
  obtain ⟨f0, u0, o0, p0⟩ := h0
  obtain ⟨f1, u1, o1, p1⟩ := h1
  obtain ⟨f2, u2, o2, p2⟩ := h2
  have t0 := hf 0 f0 u0
  have t1 := hf 1 f1 u1
  have t2 := hf 2 f2 u2
  rw [o0, p0, q1] at t0
  rw [o1, p1, q2] at t1
  rw [o2, p2, q3] at t2
  rw [hsz] at hyl
  match ys, hyl with
  | [y0, y1, y2], _ =>
    obtain ⟨n0, e0, _, w0⟩ := DataW.trod_int Tryz.underlying45 (show DataW.trod enc Tryz.prog W 0 (fun _ => true) true n' 45 [c0] = some y0 from t0)
    obtain ⟨n1, e1, _, w1⟩ := DataW.trod_int Tryz.underlying5 (show DataW.trod enc Tryz.prog W 0 (fun _ => true) true n' 5 [c1] = some y1 from t1)
    obtain ⟨b, e2, _, w2⟩ := DataW.trod_string Tryz.underlying9 (show DataW.trod enc Tryz.prog W 0 (fun _ => true) true n' 9 [c2] = some y2 from t2)
    have hb0 := bounds_u16 w0
    have hb1 := bounds_u8 w1
    simp only [List.cons.injEq, and_true] at e0 e1 e2
    subst e0 e1 e2
    obtain ⟨s, rfl, hs⟩ := list_of_bytes b
    obtain ⟨q0, rfl⟩ : ∃ k : Nat, n0 = k := ⟨n0.toNat, by omega⟩
    obtain ⟨q1, rfl⟩ : ∃ k : Nat, n1 = k := ⟨n1.toNat, by omega⟩
    exact ⟨q0, q1, s, rfl, rfl, rfl, by omega, by omega, by simp only [maxLen] at w2; omega⟩
set_option maxRecDepth 100000 in
theorem changes_open {H : Type} {enc : TypeId × Value → H} {r : Reach} {b0 : Nat} {W : World} {v : Value} {d : DataW H} {ps : List MemPlace} (hv : Value.okWide Tryz.prog W r b0 48 v) (h : DataW.Trod enc Tryz.prog W 0 (fun _ => true) true 48 v d ps) :
    ∃ (a1 b1 : Nat) (s1 : List UInt8) (a2 b2 : Nat) (s2 : List UInt8), v = .agg #[.int .u16 (a1 : Nat), .int .u8 (b1 : Nat), .string ⟨s1.toArray⟩, .int .u16 (a2 : Nat), .int .u8 (b2 : Nat), .string ⟨s2.toArray⟩] ∧ (a1 < 65536 ∧ b1 < 256 ∧ s1.length < 9223372036854775808) ∧ (a2 < 65536 ∧ b2 < 256 ∧ s2.length < 9223372036854775808) := by
  simp only [Value.okWide, Tryz.underlying48] at hv
  obtain ⟨cs, rfl, hsz, _⟩ := hv
  obtain ⟨l⟩ := cs
  have hC : Tryz.prog.cellsOf 47 = 3 := by kernel_rfl
  match l, hsz.trans (show Tryz.prog.cellsOf 48 = 6 by kernel_rfl) with
  | [c0, c1, c2, c3, c4, c5], _ =>
    obtain ⟨fuel, hf⟩ := h
    obtain ⟨xs, m, _, _, _, hl, hget⟩ := DataW.trod_array Tryz.underlying48 hf
    have g0 := hget 0 (by omega)
    have g1 := hget 1 (by omega)
    rw [hC] at g0 g1
    match xs, hl with
    | [x0, x1], _ =>
      obtain ⟨a1, b1, s1, rfl, rfl, rfl, h1⟩ := change_open (show DataW.trod enc Tryz.prog W 0 (fun _ => true) true m 47 [c0, c1, c2] = some x0 from g0)
      obtain ⟨a2, b2, s2, rfl, rfl, rfl, h2⟩ := change_open (show DataW.trod enc Tryz.prog W 0 (fun _ => true) true m 47 [c3, c4, c5] = some x1 from g1)
      exact ⟨a1, b1, s1, a2, b2, s2, rfl, h1, h2⟩
end Go.Proofs.YthppcmejffdicaaGreatDoor
