/- Environments among the arguments; the Raw argument (printed by gen_ls.py). -/
import Derived.Test.YtggkkjnfonbpkaaGreatDoorQLm

set_option linter.unusedSimpArgs false
set_option linter.unusedVariables false
namespace Go.Proofs.YtggkkjnfonbpkaaGreatDoor
open Go.RowKit Hach
open Go.ChangeShapes Go.WideShapes Go.ChangeAt Go.WideMaps Go.WideElems
open Go.ChangeMaps (open_string shut_string)

set_option maxRecDepth 100000
theorem env_of {H : Type} {enc : TypeId × Value → H} {W : World} {m : Nat} {c0 c1 c2 c3 c4 c5 c6 c7 c8 : Value} {z : DataW H × List MemPlace} (h : DataW.trod enc Tryz.prog W 0 (fun _ => true) true m 31 [c0, c1, c2, c3, c4, c5, c6, c7, c8] = some z) :
    ∃ x : En, [c0, c1, c2, c3, c4, c5, c6, c7, c8] = [.int .i64 x.kind, .string ⟨x.cls.toArray⟩, .string ⟨x.name.toArray⟩, .int .i64 x.weight, .int .i64 x.level, .bool x.stairs, .int .i64 x.scale, .int .i64 x.hour, .int .i64 x.reader] ∧ x.raw := by
  obtain ⟨fs, hfs, h0, h1, h2, h3, h4, h5, h6, h7, h8, hsz⟩ : ∃ fs : Array Field, Tryz.prog.underlying 31 = some (.struct fs) ∧ (∃ f, fs[0]? = some f ∧ f.offset = 0 ∧ f.type = 3) ∧ (∃ f, fs[1]? = some f ∧ f.offset = 1 ∧ f.type = 9) ∧ (∃ f, fs[2]? = some f ∧ f.offset = 2 ∧ f.type = 9) ∧ (∃ f, fs[3]? = some f ∧ f.offset = 3 ∧ f.type = 3) ∧ (∃ f, fs[4]? = some f ∧ f.offset = 4 ∧ f.type = 3) ∧ (∃ f, fs[5]? = some f ∧ f.offset = 5 ∧ f.type = 4) ∧ (∃ f, fs[6]? = some f ∧ f.offset = 6 ∧ f.type = 3) ∧ (∃ f, fs[7]? = some f ∧ f.offset = 7 ∧ f.type = 3) ∧ (∃ f, fs[8]? = some f ∧ f.offset = 8 ∧ f.type = 3) ∧ fs.size = 9 :=
    ⟨_, Tryz.underlying31, ⟨_, rfl, rfl, rfl⟩, ⟨_, rfl, rfl, rfl⟩, ⟨_, rfl, rfl, rfl⟩, ⟨_, rfl, rfl, rfl⟩, ⟨_, rfl, rfl, rfl⟩, ⟨_, rfl, rfl, rfl⟩, ⟨_, rfl, rfl, rfl⟩, ⟨_, rfl, rfl, rfl⟩, ⟨_, rfl, rfl, rfl⟩, rfl⟩
  obtain ⟨ys, n', hn', hy, hlen, hyl, hf⟩ := DataW.trod_struct hfs h
  have qint : Tryz.prog.cellsOf 3 = 1 := by kernel_rfl
  have qbool : Tryz.prog.cellsOf 4 = 1 := by kernel_rfl
  have qstring : Tryz.prog.cellsOf 9 = 1 := by kernel_rfl
  obtain ⟨f0, u0, o0, p0⟩ := h0
  have t0 := hf 0 f0 u0
  rw [o0, p0, qint] at t0
  obtain ⟨f1, u1, o1, p1⟩ := h1
  have t1 := hf 1 f1 u1
  rw [o1, p1, qstring] at t1
  obtain ⟨f2, u2, o2, p2⟩ := h2
  have t2 := hf 2 f2 u2
  rw [o2, p2, qstring] at t2
  obtain ⟨f3, u3, o3, p3⟩ := h3
  have t3 := hf 3 f3 u3
  rw [o3, p3, qint] at t3
  obtain ⟨f4, u4, o4, p4⟩ := h4
  have t4 := hf 4 f4 u4
  rw [o4, p4, qint] at t4
  obtain ⟨f5, u5, o5, p5⟩ := h5
  have t5 := hf 5 f5 u5
  rw [o5, p5, qbool] at t5
  obtain ⟨f6, u6, o6, p6⟩ := h6
  have t6 := hf 6 f6 u6
  rw [o6, p6, qint] at t6
  obtain ⟨f7, u7, o7, p7⟩ := h7
  have t7 := hf 7 f7 u7
  rw [o7, p7, qint] at t7
  obtain ⟨f8, u8, o8, p8⟩ := h8
  have t8 := hf 8 f8 u8
  rw [o8, p8, qint] at t8
  rw [hsz] at hyl
  match ys, hyl with
  | [y0, y1, y2, y3, y4, y5, y6, y7, y8], _ =>
    obtain ⟨n0, e0, _, w0⟩ := DataW.trod_int Tryz.underlying3 (show DataW.trod enc Tryz.prog W 0 (fun _ => true) true n' 3 [c0] = some y0 from t0)
    obtain ⟨b1, e1, _, w1⟩ := DataW.trod_string Tryz.underlying9 (show DataW.trod enc Tryz.prog W 0 (fun _ => true) true n' 9 [c1] = some y1 from t1)
    obtain ⟨b2, e2, _, w2⟩ := DataW.trod_string Tryz.underlying9 (show DataW.trod enc Tryz.prog W 0 (fun _ => true) true n' 9 [c2] = some y2 from t2)
    obtain ⟨n3, e3, _, w3⟩ := DataW.trod_int Tryz.underlying3 (show DataW.trod enc Tryz.prog W 0 (fun _ => true) true n' 3 [c3] = some y3 from t3)
    obtain ⟨n4, e4, _, w4⟩ := DataW.trod_int Tryz.underlying3 (show DataW.trod enc Tryz.prog W 0 (fun _ => true) true n' 3 [c4] = some y4 from t4)
    obtain ⟨b5, e5, _⟩ := DataW.trod_bool Tryz.underlying4 (show DataW.trod enc Tryz.prog W 0 (fun _ => true) true n' 4 [c5] = some y5 from t5)
    obtain ⟨n6, e6, _, w6⟩ := DataW.trod_int Tryz.underlying3 (show DataW.trod enc Tryz.prog W 0 (fun _ => true) true n' 3 [c6] = some y6 from t6)
    obtain ⟨n7, e7, _, w7⟩ := DataW.trod_int Tryz.underlying3 (show DataW.trod enc Tryz.prog W 0 (fun _ => true) true n' 3 [c7] = some y7 from t7)
    obtain ⟨n8, e8, _, w8⟩ := DataW.trod_int Tryz.underlying3 (show DataW.trod enc Tryz.prog W 0 (fun _ => true) true n' 3 [c8] = some y8 from t8)
    simp only [List.cons.injEq, and_true] at e0 e1 e2 e3 e4 e5 e6 e7 e8
    subst e0 e1 e2 e3 e4 e5 e6 e7 e8
    obtain ⟨s1, rfl, hs1⟩ := list_of_bytes b1
    obtain ⟨s2, rfl, hs2⟩ := list_of_bytes b2
    exact ⟨⟨n0, s1, s2, n3, n4, b5, n6, n7, n8⟩, rfl, i64_bd w0, by show s1.length < _; simp only [maxLen] at w1; omega, by show s2.length < _; simp only [maxLen] at w2; omega, i64_bd w3, i64_bd w4, i64_bd w6, i64_bd w7, i64_bd w8⟩
theorem env_open {H : Type} {enc : TypeId × Value → H} {r : Reach} {b0 : Nat} {W : World} {v : Value} {d : DataW H} {ps : List MemPlace} (hv : Value.okWide Tryz.prog W r b0 31 v) (h : DataW.Trod enc Tryz.prog W 0 (fun _ => true) true 31 v d ps) :
    ∃ x : En, v = x.v ∧ x.raw := by
  simp only [Value.okWide, Tryz.underlying31] at hv
  obtain ⟨cs, rfl, hsz, _⟩ := hv
  obtain ⟨l⟩ := cs
  match l, hsz.trans (show Tryz.prog.cellsOf 31 = 9 by kernel_rfl) with
  | [c0, c1, c2, c3, c4, c5, c6, c7, c8], _ =>
    obtain ⟨fuel, hf⟩ := h
    obtain ⟨x, ex, hx⟩ := env_of (show DataW.trod enc Tryz.prog W 0 (fun _ => true) true fuel 31 [c0, c1, c2, c3, c4, c5, c6, c7, c8] = some _ from hf)
    exact ⟨x, by rw [ex]; rfl, hx⟩
theorem raw_open {H : Type} {enc : TypeId × Value → H} {r : Reach} {b0 : Nat} {W : World} {v : Value} {d : DataW H} {ps : List MemPlace} (hv : Value.okWide Tryz.prog W r b0 33 v) (h : DataW.Trod enc Tryz.prog W 0 (fun _ => true) true 33 v d ps) :
    ∃ (e : Ex) (A : Option Addr) (c dp : Nat) (x : En), v = .agg #[.int .i64 e.op, .int .i64 e.var, .int .i64 e.ty, .int .i64 e.n, .bool e.b, .string ⟨e.s.toArray⟩, .slice A e.l.length c, .int .i64 x.kind, .string ⟨x.cls.toArray⟩, .string ⟨x.name.toArray⟩, .int .i64 x.weight, .int .i64 x.level, .bool x.stairs, .int .i64 x.scale, .int .i64 x.hour, .int .i64 x.reader] ∧ ExB W W.heap.size dp A e.l ∧ e.raw ∧ x.raw := by
  simp only [Value.okWide, Tryz.underlying33] at hv
  obtain ⟨cs, rfl, hsz, _⟩ := hv
  obtain ⟨l⟩ := cs
  obtain ⟨fs, hfs, h0, h1, hsz2⟩ : ∃ fs : Array Field, Tryz.prog.underlying 33 = some (.struct fs) ∧ (∃ f, fs[0]? = some f ∧ f.offset = 0 ∧ f.type = 29) ∧ (∃ f, fs[1]? = some f ∧ f.offset = 7 ∧ f.type = 31) ∧ fs.size = 2 :=
    ⟨_, Tryz.underlying33, ⟨_, rfl, rfl, rfl⟩, ⟨_, rfl, rfl, rfl⟩, rfl⟩
  have qe : Tryz.prog.cellsOf 29 = 7 := by kernel_rfl
  have qv : Tryz.prog.cellsOf 31 = 9 := by kernel_rfl
  obtain ⟨f0, u0, o0, p0⟩ := h0
  obtain ⟨f1, u1, o1, p1⟩ := h1
  match l, hsz.trans (show Tryz.prog.cellsOf 33 = 16 by kernel_rfl) with
  | [a0, a1, a2, a3, a4, a5, a6, c0, c1, c2, c3, c4, c5, c6, c7, c8], _ =>
    obtain ⟨fuel, hf⟩ := h
    obtain ⟨ys, n', hn', hy, hlen, hyl, hfl⟩ := DataW.trod_struct hfs hf
    have t0 := hfl 0 f0 u0
    have t1 := hfl 1 f1 u1
    rw [o0, p0, qe] at t0
    rw [o1, p1, qv] at t1
    rw [hsz2] at hyl
    match ys, hyl with
    | [y0, y1], _ =>
      obtain ⟨e, A, c, ee, hX, hr⟩ := ex_open n' _ _ (show DataW.trod enc Tryz.prog W 0 (fun _ => true) true n' 29 [a0, a1, a2, a3, a4, a5, a6] = some y0 from t0)
      obtain ⟨x, ex, hx⟩ := env_of (show DataW.trod enc Tryz.prog W 0 (fun _ => true) true n' 31 [c0, c1, c2, c3, c4, c5, c6, c7, c8] = some y1 from t1)
      refine ⟨e, A, c, n', x, ?_, hX, hr, hx⟩
      unfold Ex.cells at ee
      simp only [List.cons.injEq, and_true] at ee ex
      obtain ⟨rfl, rfl, rfl, rfl, rfl, rfl, rfl⟩ := ee
      obtain ⟨rfl, rfl, rfl, rfl, rfl, rfl, rfl, rfl, rfl⟩ := ex
      rfl
end Go.Proofs.YtggkkjnfonbpkaaGreatDoor
