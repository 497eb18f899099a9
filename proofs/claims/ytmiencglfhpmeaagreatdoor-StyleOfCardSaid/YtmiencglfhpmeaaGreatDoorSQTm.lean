/- Faces, ways and places among the arguments (printed by gen_tm.py). -/
import Derived.Test.YtmiencglfhpmeaaGreatDoorSQTj

set_option linter.unusedSimpArgs false
set_option linter.unusedVariables false
namespace Go.Proofs.YtmiencglfhpmeaaGreatDoor
open Go.RowKit Hach
open Go.ChangeShapes Go.WideShapes Go.ChangeAt Go.WideMaps Go.WideElems
open Go.ChangeMaps (open_string shut_string)

theorem list_of_bytes' (b : ByteArray) : ∃ s : List UInt8, b = ⟨s.toArray⟩ := ⟨b.data.toList, rfl⟩
set_option maxRecDepth 100000
theorem face_open {H : Type} {enc : TypeId × Value → H} {r : Reach} {b0 : Nat} {W : World} {v : Value} {d : DataW H} {ps : List MemPlace} (hv : Value.okWide Tryz.prog W r b0 69 v) (h : DataW.Trod enc Tryz.prog W 0 (fun _ => true) true 69 v d ps) :
    ∃ (vi : Value) (s1 : List UInt8) (s2 : List UInt8) (wt : Int) (vd : Value), v = .agg #[vi, .string ⟨s1.toArray⟩, .string ⟨s2.toArray⟩, .int .i64 wt, vd] := by
  simp only [Value.okWide, Tryz.underlying69] at hv
  obtain ⟨cs, rfl, hsz, _⟩ := hv
  obtain ⟨l⟩ := cs
  obtain ⟨fs, hfs, h0, h1, h2, h3, h4, hsz2⟩ : ∃ fs : Array Field, Tryz.prog.underlying 69 = some (.struct fs) ∧ (∃ f, fs[0]? = some f ∧ f.offset = 0 ∧ f.type = 3) ∧ (∃ f, fs[1]? = some f ∧ f.offset = 1 ∧ f.type = 9) ∧ (∃ f, fs[2]? = some f ∧ f.offset = 2 ∧ f.type = 9) ∧ (∃ f, fs[3]? = some f ∧ f.offset = 3 ∧ f.type = 3) ∧ (∃ f, fs[4]? = some f ∧ f.offset = 4 ∧ f.type = 3) ∧ fs.size = 5 :=
    ⟨_, Tryz.underlying69, ⟨_, rfl, rfl, rfl⟩, ⟨_, rfl, rfl, rfl⟩, ⟨_, rfl, rfl, rfl⟩, ⟨_, rfl, rfl, rfl⟩, ⟨_, rfl, rfl, rfl⟩, rfl⟩
  have qint : Tryz.prog.cellsOf 3 = 1 := by kernel_rfl
  have qbool : Tryz.prog.cellsOf 4 = 1 := by kernel_rfl
  have qstring : Tryz.prog.cellsOf 9 = 1 := by kernel_rfl
  match l, hsz.trans (show Tryz.prog.cellsOf 69 = 5 by kernel_rfl) with
  | [c0, c1, c2, c3, c4], _ =>
    obtain ⟨fuel, hf⟩ := h
    obtain ⟨ys, n', hn', hy, hlen, hyl, hfl⟩ := DataW.trod_struct hfs hf
    rw [hsz2] at hyl
    obtain ⟨f1, u1, o1, p1⟩ := h1
    have t1 := hfl 1 f1 u1
    rw [o1, p1, qstring] at t1
    obtain ⟨f2, u2, o2, p2⟩ := h2
    have t2 := hfl 2 f2 u2
    rw [o2, p2, qstring] at t2
    obtain ⟨f3, u3, o3, p3⟩ := h3
    have t3 := hfl 3 f3 u3
    rw [o3, p3, qint] at t3
    match ys, hyl with
    | [y0, y1, y2, y3, y4], _ =>
      obtain ⟨n1, e1, _, _⟩ := DataW.trod_string Tryz.underlying9 (show DataW.trod enc Tryz.prog W 0 (fun _ => true) true n' 9 [c1] = some y1 from t1)
      obtain ⟨n2, e2, _, _⟩ := DataW.trod_string Tryz.underlying9 (show DataW.trod enc Tryz.prog W 0 (fun _ => true) true n' 9 [c2] = some y2 from t2)
      obtain ⟨n3, e3, _, _⟩ := DataW.trod_int Tryz.underlying3 (show DataW.trod enc Tryz.prog W 0 (fun _ => true) true n' 3 [c3] = some y3 from t3)
      simp only [List.cons.injEq, and_true] at e1 e2 e3
      subst e1 e2 e3
      obtain ⟨l1, rfl⟩ := list_of_bytes' n1
      obtain ⟨l2, rfl⟩ := list_of_bytes' n2
      exact ⟨c0, l1, l2, n3, c4, rfl⟩
theorem way_open {H : Type} {enc : TypeId × Value → H} {r : Reach} {b0 : Nat} {W : World} {v : Value} {d : DataW H} {ps : List MemPlace} (hv : Value.okWide Tryz.prog W r b0 72 v) (h : DataW.Trod enc Tryz.prog W 0 (fun _ => true) true 72 v d ps) :
    ∃ (vi : Value) (vl : Value) (lv : Int) (s1 : List UInt8) (s2 : List UInt8) (st : Bool) (wt : Int) (vd : Value), v = .agg #[vi, vl, .int .i64 lv, .string ⟨s1.toArray⟩, .string ⟨s2.toArray⟩, .bool st, .int .i64 wt, vd] := by
  simp only [Value.okWide, Tryz.underlying72] at hv
  obtain ⟨cs, rfl, hsz, _⟩ := hv
  obtain ⟨l⟩ := cs
  obtain ⟨fs, hfs, h0, h1, h2, h3, h4, h5, h6, h7, hsz2⟩ : ∃ fs : Array Field, Tryz.prog.underlying 72 = some (.struct fs) ∧ (∃ f, fs[0]? = some f ∧ f.offset = 0 ∧ f.type = 3) ∧ (∃ f, fs[1]? = some f ∧ f.offset = 1 ∧ f.type = 70) ∧ (∃ f, fs[2]? = some f ∧ f.offset = 2 ∧ f.type = 3) ∧ (∃ f, fs[3]? = some f ∧ f.offset = 3 ∧ f.type = 9) ∧ (∃ f, fs[4]? = some f ∧ f.offset = 4 ∧ f.type = 9) ∧ (∃ f, fs[5]? = some f ∧ f.offset = 5 ∧ f.type = 4) ∧ (∃ f, fs[6]? = some f ∧ f.offset = 6 ∧ f.type = 3) ∧ (∃ f, fs[7]? = some f ∧ f.offset = 7 ∧ f.type = 3) ∧ fs.size = 8 :=
    ⟨_, Tryz.underlying72, ⟨_, rfl, rfl, rfl⟩, ⟨_, rfl, rfl, rfl⟩, ⟨_, rfl, rfl, rfl⟩, ⟨_, rfl, rfl, rfl⟩, ⟨_, rfl, rfl, rfl⟩, ⟨_, rfl, rfl, rfl⟩, ⟨_, rfl, rfl, rfl⟩, ⟨_, rfl, rfl, rfl⟩, rfl⟩
  have qint : Tryz.prog.cellsOf 3 = 1 := by kernel_rfl
  have qbool : Tryz.prog.cellsOf 4 = 1 := by kernel_rfl
  have qstring : Tryz.prog.cellsOf 9 = 1 := by kernel_rfl
  match l, hsz.trans (show Tryz.prog.cellsOf 72 = 8 by kernel_rfl) with
  | [c0, c1, c2, c3, c4, c5, c6, c7], _ =>
    obtain ⟨fuel, hf⟩ := h
    obtain ⟨ys, n', hn', hy, hlen, hyl, hfl⟩ := DataW.trod_struct hfs hf
    rw [hsz2] at hyl
    obtain ⟨f2, u2, o2, p2⟩ := h2
    have t2 := hfl 2 f2 u2
    rw [o2, p2, qint] at t2
    obtain ⟨f3, u3, o3, p3⟩ := h3
    have t3 := hfl 3 f3 u3
    rw [o3, p3, qstring] at t3
    obtain ⟨f4, u4, o4, p4⟩ := h4
    have t4 := hfl 4 f4 u4
    rw [o4, p4, qstring] at t4
    obtain ⟨f5, u5, o5, p5⟩ := h5
    have t5 := hfl 5 f5 u5
    rw [o5, p5, qbool] at t5
    obtain ⟨f6, u6, o6, p6⟩ := h6
    have t6 := hfl 6 f6 u6
    rw [o6, p6, qint] at t6
    match ys, hyl with
    | [y0, y1, y2, y3, y4, y5, y6, y7], _ =>
      obtain ⟨n2, e2, _, _⟩ := DataW.trod_int Tryz.underlying3 (show DataW.trod enc Tryz.prog W 0 (fun _ => true) true n' 3 [c2] = some y2 from t2)
      obtain ⟨n3, e3, _, _⟩ := DataW.trod_string Tryz.underlying9 (show DataW.trod enc Tryz.prog W 0 (fun _ => true) true n' 9 [c3] = some y3 from t3)
      obtain ⟨n4, e4, _, _⟩ := DataW.trod_string Tryz.underlying9 (show DataW.trod enc Tryz.prog W 0 (fun _ => true) true n' 9 [c4] = some y4 from t4)
      obtain ⟨n5, e5, _⟩ := DataW.trod_bool Tryz.underlying4 (show DataW.trod enc Tryz.prog W 0 (fun _ => true) true n' 4 [c5] = some y5 from t5)
      obtain ⟨n6, e6, _, _⟩ := DataW.trod_int Tryz.underlying3 (show DataW.trod enc Tryz.prog W 0 (fun _ => true) true n' 3 [c6] = some y6 from t6)
      simp only [List.cons.injEq, and_true] at e2 e3 e4 e5 e6
      subst e2 e3 e4 e5 e6
      obtain ⟨l3, rfl⟩ := list_of_bytes' n3
      obtain ⟨l4, rfl⟩ := list_of_bytes' n4
      exact ⟨c0, c1, n2, l3, l4, n5, n6, c7, rfl⟩
theorem place_open {H : Type} {enc : TypeId × Value → H} {r : Reach} {b0 : Nat} {W : World} {v : Value} {d : DataW H} {ps : List MemPlace} (hv : Value.okWide Tryz.prog W r b0 76 v) (h : DataW.Trod enc Tryz.prog W 0 (fun _ => true) true 76 v d ps) :
    ∃ (vi : Value) (vx : Value) (vy : Value) (s1 : List UInt8) (s2 : List UInt8) (wt : Int) (vd : Value), v = .agg #[vi, vx, vy, .string ⟨s1.toArray⟩, .string ⟨s2.toArray⟩, .int .i64 wt, vd] := by
  simp only [Value.okWide, Tryz.underlying76] at hv
  obtain ⟨cs, rfl, hsz, _⟩ := hv
  obtain ⟨l⟩ := cs
  obtain ⟨fs, hfs, h0, h1, h2, h3, h4, h5, hsz2⟩ : ∃ fs : Array Field, Tryz.prog.underlying 76 = some (.struct fs) ∧ (∃ f, fs[0]? = some f ∧ f.offset = 0 ∧ f.type = 3) ∧ (∃ f, fs[1]? = some f ∧ f.offset = 1 ∧ f.type = 74) ∧ (∃ f, fs[2]? = some f ∧ f.offset = 3 ∧ f.type = 9) ∧ (∃ f, fs[3]? = some f ∧ f.offset = 4 ∧ f.type = 9) ∧ (∃ f, fs[4]? = some f ∧ f.offset = 5 ∧ f.type = 3) ∧ (∃ f, fs[5]? = some f ∧ f.offset = 6 ∧ f.type = 3) ∧ fs.size = 6 :=
    ⟨_, Tryz.underlying76, ⟨_, rfl, rfl, rfl⟩, ⟨_, rfl, rfl, rfl⟩, ⟨_, rfl, rfl, rfl⟩, ⟨_, rfl, rfl, rfl⟩, ⟨_, rfl, rfl, rfl⟩, ⟨_, rfl, rfl, rfl⟩, rfl⟩
  have qint : Tryz.prog.cellsOf 3 = 1 := by kernel_rfl
  have qbool : Tryz.prog.cellsOf 4 = 1 := by kernel_rfl
  have qstring : Tryz.prog.cellsOf 9 = 1 := by kernel_rfl
  match l, hsz.trans (show Tryz.prog.cellsOf 76 = 7 by kernel_rfl) with
  | [c0, c1, c2, c3, c4, c5, c6], _ =>
    obtain ⟨fuel, hf⟩ := h
    obtain ⟨ys, n', hn', hy, hlen, hyl, hfl⟩ := DataW.trod_struct hfs hf
    rw [hsz2] at hyl
    obtain ⟨f2, u2, o2, p2⟩ := h2
    have t2 := hfl 2 f2 u2
    rw [o2, p2, qstring] at t2
    obtain ⟨f3, u3, o3, p3⟩ := h3
    have t3 := hfl 3 f3 u3
    rw [o3, p3, qstring] at t3
    obtain ⟨f4, u4, o4, p4⟩ := h4
    have t4 := hfl 4 f4 u4
    rw [o4, p4, qint] at t4
    match ys, hyl with
    | [y0, y1, y2, y3, y4, y5], _ =>
      obtain ⟨n2, e2, _, _⟩ := DataW.trod_string Tryz.underlying9 (show DataW.trod enc Tryz.prog W 0 (fun _ => true) true n' 9 [c3] = some y2 from t2)
      obtain ⟨n3, e3, _, _⟩ := DataW.trod_string Tryz.underlying9 (show DataW.trod enc Tryz.prog W 0 (fun _ => true) true n' 9 [c4] = some y3 from t3)
      obtain ⟨n4, e4, _, _⟩ := DataW.trod_int Tryz.underlying3 (show DataW.trod enc Tryz.prog W 0 (fun _ => true) true n' 3 [c5] = some y4 from t4)
      simp only [List.cons.injEq, and_true] at e2 e3 e4
      subst e2 e3 e4
      obtain ⟨l2, rfl⟩ := list_of_bytes' n2
      obtain ⟨l3, rfl⟩ := list_of_bytes' n3
      exact ⟨c0, c1, c2, l2, l3, n4, c6, rfl⟩
end Go.Proofs.YtmiencglfhpmeaaGreatDoor
