/- A value among the arguments: its parts, and its serialization. -/
import Derived.Test.YthdbdpfgccipdaaDoorVy
import Derived.Test.YthdbdpfgccipdaaDoorVi
import Derived.Lib.SmallJoins
namespace Go.Proofs.YthdbdpfgccipdaaDoor
open Go.RowKit Hach Num
open Go.Joins Go.ChangeShapes Go.WideShapes Go.Deep

section
variable {H : Type} {enc : TypeId × Value → H} {P : Program} {w : World} {base : Nat} {spare : Nat → Bool} {held : Bool}
theorem open_agg5 {r : Reach} {b0 : Nat} {t : TypeId} {f0 f1 f2 f3 f4 : Field} {v : Value} {d : DataW H} {p : List MemPlace} (hs : P.underlying t = some (.struct #[f0, f1, f2, f3, f4])) (hone : oneCellFields P #[f0, f1, f2, f3, f4] = true) (hC : P.cellsOf t = 5)
    (hv : Value.okWide P w r b0 t v) (h : DataW.Trod enc P w base spare held t v d p) :
    ∃ (v0 v1 v2 v3 v4 : Value) (y0 y1 y2 y3 y4 : DataW H × List MemPlace) (n : Nat), v = .agg #[v0, v1, v2, v3, v4] ∧ d = .agg [y0.1, y1.1, y2.1, y3.1, y4.1] ∧ p = y0.2 ++ (y1.2 ++ (y2.2 ++ (y3.2 ++ y4.2))) ∧
      DataW.trod enc P w base spare held n f0.type [v0] = some y0 ∧ DataW.trod enc P w base spare held n f1.type [v1] = some y1 ∧ DataW.trod enc P w base spare held n f2.type [v2] = some y2 ∧ DataW.trod enc P w base spare held n f3.type [v3] = some y3 ∧ DataW.trod enc P w base spare held n f4.type [v4] = some y4 := by
  obtain ⟨cs, rfl, hsz⟩ := okWide_struct hs hv
  obtain ⟨l⟩ := cs
  match l, hsz.trans hC with
  | [c0, c1, c2, c3, c4], _ =>
    obtain ⟨fuel, hf⟩ := h
    obtain ⟨xs, n, _, hx, _, hlen, hg⟩ := DataW.trod_struct hs hf
    obtain ⟨o0, k0⟩ := hone_of hone 0 f0 rfl
    obtain ⟨o1, k1⟩ := hone_of hone 1 f1 rfl
    obtain ⟨o2, k2⟩ := hone_of hone 2 f2 rfl
    obtain ⟨o3, k3⟩ := hone_of hone 3 f3 rfl
    obtain ⟨o4, k4⟩ := hone_of hone 4 f4 rfl
    match xs, hlen with
    | [y0, y1, y2, y3, y4], _ =>
      simp only [Prod.mk.injEq] at hx
      exact ⟨c0, c1, c2, c3, c4, y0, y1, y2, y3, y4, n, rfl, by simpa using hx.1, by simpa using hx.2, by simpa [Value.cells, o0, k0] using hg 0 f0 rfl, by simpa [Value.cells, o1, k1] using hg 1 f1 rfl, by simpa [Value.cells, o2, k2] using hg 2 f2 rfl, by simpa [Value.cells, o3, k3] using hg 3 f3 rfl, by simpa [Value.cells, o4, k4] using hg 4 f4 rfl⟩
end

/- the five parts of a value -/
structure Parts (W : World) (c0 c1 c2 c3 c4 : Value) (z : Nat) (n : Int) (s : List UInt8) (xs : List Int) (ts : List (List UInt8)) : Prop where
  k0 : ∃ q : Nat, c0 = .int .u8 q ∧ q < 256 ∧ q % 4 = z
  k1 : c1 = .int .i64 n ∧ InI n
  k2 : ∃ b : ByteArray, c2 = .string b ∧ b.data.toList = s ∧ b.size < 9223372036854775808
  k3 : ∃ A m c, c3 = .slice A m c ∧ RowI W W.heap.size A m xs ∧ m < 9223372036854775808 ∧ m ≤ c ∧ ∀ x ∈ xs, InI x
  k4 : ∃ A m c, c4 = .slice A m c ∧ RowT W W.heap.size A m ts ∧ m < 9223372036854775808 ∧ ∀ k, (ts.getD k []).length < 9223372036854775808

theorem parts_of {H : Type} {enc : TypeId × Value → H} {W : World} {m : Nat} {c0 c1 c2 c3 c4 : Value} {y0 y1 y2 y3 y4 : DataW H × List MemPlace}
    (h0 : DataW.trod enc Tryd.prog W 0 (fun _ => true) true m 5 [c0] = some y0) (h1 : DataW.trod enc Tryd.prog W 0 (fun _ => true) true m 3 [c1] = some y1) (h2 : DataW.trod enc Tryd.prog W 0 (fun _ => true) true m 9 [c2] = some y2)
    (h3 : DataW.trod enc Tryd.prog W 0 (fun _ => true) true m 22 [c3] = some y3) (h4 : DataW.trod enc Tryd.prog W 0 (fun _ => true) true m 23 [c4] = some y4) :
    ∃ z n s xs ts, Parts W c0 c1 c2 c3 c4 z n s xs ts := by
  obtain ⟨n0, e0, _, w0⟩ := DataW.trod_int Tryd.underlying5 h0
  obtain ⟨n1, e1, _, w1⟩ := DataW.trod_int Tryd.underlying3 h1
  obtain ⟨b, e2, _, w2⟩ := DataW.trod_string Tryd.underlying9 h2
  have hb0 := bounds_u8 w0
  have hb1 := bounds_i64 w1
  simp only [List.cons.injEq, and_true] at e0 e1 e2
  have q3 : ∃ A m c, c3 = .slice A m c := by
    rcases open_slice Tryd.underlying22 h3 with ⟨h, _⟩ | ⟨a, len, cap, _, _, _, _, h, _⟩
    · exact ⟨none, 0, 0, by simpa using h⟩
    · exact ⟨some a, len, cap, by simpa using h⟩
  have q4 : ∃ A m c, c4 = .slice A m c := by
    rcases open_slice Tryd.underlying23 h4 with ⟨h, _⟩ | ⟨a, len, cap, _, _, _, _, h, _⟩
    · exact ⟨none, 0, 0, by simpa using h⟩
    · exact ⟨some a, len, cap, by simpa using h⟩
  obtain ⟨A3, m3, c3', rfl⟩ := q3
  obtain ⟨A4, m4, c4', rfl⟩ := q4
  obtain ⟨xs, hR3, hm3, hc3, hV3⟩ := ints_open (A := A3) (n := m3) (c := c3') h3
  obtain ⟨ts, hR4, hm4, _, hs4⟩ := texts_open (A := A4) (n := m4) (c := c4') h4
  refine ⟨n0.toNat % 4, n1, b.data.toList, xs, ts, ⟨n0.toNat, ?_, by omega, rfl⟩, ⟨e1, hb1⟩, ⟨b, e2, rfl, ?_⟩, ⟨A3, m3, c3', rfl, hR3, hm3, hc3, hV3⟩, ⟨A4, m4, c4', rfl, hR4, hm4, hs4⟩⟩
  · rw [e0]; congr 1; omega
  · simp only [maxLen] at w2; omega

theorem Parts.ext {W W' : World} {c0 c1 c2 c3 c4 : Value} {z : Nat} {n : Int} {s : List UInt8} {xs : List Int} {ts : List (List UInt8)} (h : Parts W c0 c1 c2 c3 c4 z n s xs ts) (hE : Ext W W') : Parts W' c0 c1 c2 c3 c4 z n s xs ts := by
  obtain ⟨h0, h1, h2, ⟨A, m, c, e, hR, r⟩, ⟨A', m', c', e', hR', r'⟩⟩ := h
  exact ⟨h0, h1, h2, ⟨A, m, c, e, hR.ext hE, r⟩, ⟨A', m', c', e', hR'.ext hE, r'⟩⟩

/- the serialization of a value -/
def ser (z : Nat) (n : Int) (s : List UInt8) (xs : List Int) (ts : List (List UInt8)) : List UInt8 := match z with
  | 0 => wrInt n
  | 1 => wrText s
  | 2 => wrList wrInt xs
  | _ => wrList wrText ts
theorem ser_ne (z : Nat) (n : Int) (s : List UInt8) (xs : List Int) (ts : List (List UInt8)) : 0 < (ser z n s xs ts).length := by
  unfold ser
  split
  · exact List.length_pos_iff.2 (twinInt.ne n)
  · exact List.length_pos_iff.2 (twinText.ne s)
  · exact List.length_pos_iff.2 ((twinList twinInt).ne xs)
  · exact List.length_pos_iff.2 ((twinList twinText).ne ts)
theorem ser_len {z : Nat} {n : Int} {s : List UInt8} {xs : List Int} {ts : List (List UInt8)} (hn : InI n) (hs : s.length ≤ 100) (hx : xs.length ≤ 20) (hV : ∀ x ∈ xs, InI x) (ht : ts.length ≤ 20) (hT : ∀ t ∈ ts, t.length ≤ 100) : (ser z n s xs ts).length ≤ 3000 := by
  have h1 := wrInt_len hn
  have h2 := wrText_len hs
  have h3 := flat_small wrInt 22 xs fun x hx => wrInt_len (hV x hx)
  have h4 := flat_small wrText 122 ts fun x hx => wrText_len (hT x hx)
  unfold ser
  split
  · omega
  · omega
  · unfold wrList; simp only [List.length_cons, List.length_append, List.length_nil]; omega
  · unfold wrList; simp only [List.length_cons, List.length_append, List.length_nil]; omega
theorem ser_cut {z : Nat} (hz : z < 4) {n : Int} {s : List UInt8} {xs : List Int} {ts : List (List UInt8)} (hn : InI n) (hs : s.length ≤ 100) (hV : ∀ x ∈ xs, InI x) (hT : ∀ t ∈ ts, t.length ≤ 100) {k : Nat} (hk : k < (ser z n s xs ts).length) :
    fails z (some ((ser z n s xs ts).take k)) := by
  have key : ∀ l : List UInt8, k < l.length → l = l.take k ++ l.drop k ∧ l.drop k ≠ [] := fun l h => ⟨(List.take_append_drop k l).symm, by simpa using h⟩
  match z, hz with
  | 0, _ => obtain ⟨e, h⟩ := key _ hk; exact twinInt.cut_none hn e h
  | 1, _ => obtain ⟨e, h⟩ := key _ hk; exact twinText.cut_none (v := s) ⟨by omega, by omega⟩ e h
  | 2, _ => obtain ⟨e, h⟩ := key _ hk; exact (twinList twinInt).cut_none (v := xs) hV e h
  | 3, _ => obtain ⟨e, h⟩ := key _ hk; exact (twinList twinText).cut_none (v := ts) (fun t ht => by have := hT t ht; exact ⟨by omega, by omega⟩) e h
end Go.Proofs.YthdbdpfgccipdaaDoor
