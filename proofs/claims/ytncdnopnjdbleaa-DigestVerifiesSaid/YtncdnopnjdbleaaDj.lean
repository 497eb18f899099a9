/- The statement DigestVerifies: at every input the call returns true and its arguments read as they did. No condition. -/
import Derived.Test.YtncdnopnjdbleaaDi
import Derived.Deep.RegionLaw
import Derived.Deep.Cut
import Derived.Deep.CutBlock
namespace Go.Proofs.Ytncdnopnjdbleaa
open Go.RowKit Hach
open Go.ChangeShapes Go.WideShapes Go.ChangeAt

def cut10 (s : ByteArray) : ByteArray := s.extract 0 (min s.size 10)
theorem cut10_size (s : ByteArray) : (cut10 s).size < 11 := by unfold cut10; rw [ByteArray.size_extract]; omega

theorem Sm.snoc {ss : List ByteArray} {s : ByteArray} (h : Sm ss) (hs : s.size < 4294967296) : Sm (ss ++ [s]) := fun k => by
  have := h k
  by_cases h1 : k < ss.length
  · simp only [List.getD, List.getElem?_append_left h1] at this ⊢; exact this
  · rw [List.getD, List.getElem?_append_right (by omega)]
    rcases Nat.eq_zero_or_pos (k - ss.length) with h2 | h2
    · rw [h2]; exact hs
    · rw [List.getElem?_eq_none (by simp; omega)]; decide
theorem Sm.append {ss ps : List ByteArray} (h : Sm ss) (h' : Sm ps) : Sm (ss ++ ps) := fun k => by
  by_cases h1 : k < ss.length
  · have := h k
    simp only [List.getD, List.getElem?_append_left h1] at this ⊢; exact this
  · have := h' (k - ss.length)
    rw [List.getD, List.getElem?_append_right (by omega)]
    exact this
theorem Sm.take {ss : List ByteArray} (h : Sm ss) (n : Nat) : Sm (ss.take n) := fun k => by
  by_cases h1 : k < n
  · have := h k
    rw [List.getD, List.getElem?_take_of_lt h1]
    exact this
  · rw [List.getD, List.getElem?_take_eq_none (by omega)]; decide
theorem Strs.take {w : World} {B : Nat} {A : Option Addr} {n : Nat} {ss : List ByteArray} (h : Strs w B A n ss) {m : Nat} (hm : m ≤ n) : Strs w B A m (ss.take m) :=
  ⟨by rw [List.length_take, h.1]; omega, fun h0 => by
    obtain ⟨b, o, e, hb, hc⟩ := h.2 (by omega)
    refine ⟨b, o, e, hb, fun j hj => ?_⟩
    rw [hc j (by omega)]
    congr 2
    simp only [List.getD]
    rw [List.getElem?_take_of_lt hj]⟩

/- append onto a slice of the call's own, of a whole list -/
theorem run_own2 (w : World) (base B : Nat) (v : Value) (ss ps : List ByteArray) (A : Option Addr) (m c : Nat) (hown : OwnS w base v ss) (hS : Strs w B A m ps) (hm : ss.length + m < 4294967296) (hbase : base ≤ w.heap.size) :
    ∃ v' w', (Builtin.append_ #[28, 28] 28 #[v, .slice A m c]).run Try.prog w = .ok v' w' ∧ OwnS w' base v' (ss ++ ps) ∧ w.grownBy w' v.ownBlock := by
  obtain ⟨i0, hi, hz0, hz1, hz2⟩ := info_parts infoS
  by_cases h0 : m = 0
  · subst h0
    have hp : ps = [] := List.eq_nil_of_length_eq_zero hS.len
    subst hp
    refine ⟨v, w, ?_, by rw [List.append_nil]; exact hown, ⟨rfl, rfl, rfl, Nat.le_refl _, fun _ _ _ => rfl⟩⟩
    rcases hown.2 with ⟨rfl, hn⟩ | ⟨g, cap, cur, rfl, hb, hg, hn, r⟩
    · cases A <;> simp [Builtin.append_, run_underlying Try.underlying28, sizeOf, typeInfo, hi, Builtin.lenOf, Builtin.firstCells, loadCells, loadCellsFrom]
    · cases A <;> simp [Builtin.append_, run_underlying Try.underlying28, sizeOf, typeInfo, hi, Builtin.lenOf, Builtin.firstCells, loadCells, loadCellsFrom, hn, storeCells]
  · obtain ⟨b, o, rfl, hb, hc⟩ := hS.at_ (k := 0) (by omega)
    have hl : ps.length = m := hS.len
    obtain ⟨v', w', h1, h2, h3, _⟩ := run_append_own (P := Try.prog) w base 28 28 9 i0 (.string ⟨#[]⟩) 1 16 Try.underlying28 hi hz0 hz1 hz2 rfl (by decide) v ss.length (ss.map Value.string) hown
      ⟨b, o, none⟩ m c (ps.map Value.string) (by rw [List.length_map, hl]; omega) (fun j u hu => by
        have hj : j < m := by
          have := (List.getElem?_eq_some_iff.1 hu).1
          rw [List.length_map, hl] at this
          exact this
        rw [Addr.add_lit, hc j hj, ← hu]
        simp [List.getD, hl, hj]) (fun u hu => by obtain ⟨x, _, rfl⟩ := List.mem_map.1 hu; rfl) (by simp only [maxLen]; omega) (by omega) hbase
    refine ⟨v', w', h1, ?_, h3⟩
    unfold OwnS
    rw [List.length_append, List.map_append, hl]
    exact h2
theorem step_own {ops : Array Oper} {o : Oper} {a : Act} {w : World} {K : Act → World → Prop} {Q : Exit → Act → World → Prop} {E : Prop} (hg : o.guard = none) (s x : Tmp)
    (hop : o.op = .call { callee := .builtin .append, args := #[.tmp s, .tmp x], argTypes := #[28, 28] }) (hty : o.type = 28)
    (base B : Nat) (v : Value) (ss ps : List ByteArray) (A : Option Addr) (m c : Nat) (hs : a.eval (.tmp s) = v) (hx : a.eval (.tmp x) = .slice A m c) (hown : OwnS w base v ss) (hS : Strs w B A m ps) (hm : ss.length + m < 4294967296) (hbase : base ≤ w.heap.size)
    (hK : ∀ v' w', OwnS w' base v' (ss ++ ps) → w.grownBy w' v.ownBlock → K (a.put o.dst v') w') : if Region.wanted o (yielded ops a.tmps) = true then Oper.wp Try.prog o a w K Q else E := by
  obtain ⟨v', w', h1, h2, h3⟩ := run_own2 w base B v ss ps A m c hown hS hm hbase
  have hw : Region.wanted o (yielded ops a.tmps) = true := by simp [Region.wanted, hg]
  rw [if_pos hw]
  unfold Oper.wp
  simp [execOp, hop, resolve, invoke, builtin, hs, hx, hty, h1, Result.andThen]
  exact hK _ _ h2 h3

theorem own_empty (w : World) : OwnS (w.drew.alloc (.cells #[] 9)) w.heap.size (.slice (some ⟨w.heap.size, 0, none⟩) 0 0) [] :=
  ⟨rfl, .inr ⟨w.heap.size, 0, #[], rfl, Nat.le_refl _, heap_alloc_new w.drew _, Nat.le_refl _, Nat.zero_le _, rfl, rfl⟩⟩
theorem OwnS.cap {w : World} {base : Nat} {A : Option Addr} {n c : Nat} {ss : List ByteArray} (h : OwnS w base (.slice A n c) ss) : n ≤ c := by
  rcases h.2 with ⟨h1, h2⟩ | ⟨g, cap, cur, h1, _, _, h2, _⟩
  · simp only [Value.slice.injEq] at h1; omega
  · simp only [Value.slice.injEq] at h1; omega

/- a row of five proofs, of three strings, of four numbers -/
def Row5 (g : Nat) (W : World) : Prop := g < W.heap.size ∧ ∀ j, j < 5 → ∃ A n c ps, W.cell? ⟨g, j, none⟩ = some (.slice A n c) ∧ Strs W W.heap.size A n ps ∧ n < 4294967296 ∧ Sm ps
theorem Row5.ext {g : Nat} {W W' : World} (h : Row5 g W) (hE : Ext W W') : Row5 g W' :=
  ⟨Nat.lt_of_lt_of_le h.1 hE.sz, fun j hj => by
    obtain ⟨A, n, c, ps, h1, h2, h3, h4⟩ := h.2 j hj
    exact ⟨A, n, c, ps, (hE.old (p := ⟨g, j, none⟩) h.1).trans h1, (h2.below hE (Nat.le_refl _)).more hE.sz, h3, h4⟩⟩
theorem row5_mk (w : World) (T : TypeId) (A0 A1 A2 A3 A4 : Option Addr) (n0 n1 n2 n3 n4 c0 c1 c2 c3 c4 : Nat) (p0 p1 p2 p3 p4 : List ByteArray)
    (h0 : Strs w w.heap.size A0 n0 p0 ∧ n0 < 4294967296 ∧ Sm p0) (h1 : Strs w w.heap.size A1 n1 p1 ∧ n1 < 4294967296 ∧ Sm p1) (h2 : Strs w w.heap.size A2 n2 p2 ∧ n2 < 4294967296 ∧ Sm p2)
    (h3 : Strs w w.heap.size A3 n3 p3 ∧ n3 < 4294967296 ∧ Sm p3) (h4 : Strs w w.heap.size A4 n4 p4 ∧ n4 < 4294967296 ∧ Sm p4) :
    Row5 w.heap.size (w.alloc (.cells #[.slice A0 n0 c0, .slice A1 n1 c1, .slice A2 n2 c2, .slice A3 n3 c3, .slice A4 n4 c4] T)) := by
  refine ⟨by simp, fun j hj => ?_⟩
  have hE : Ext w (w.alloc (.cells #[.slice A0 n0 c0, .slice A1 n1 c1, .slice A2 n2 c2, .slice A3 n3 c3, .slice A4 n4 c4] T)) := Ext.alloc _ _
  match j, hj with
  | 0, _ => exact ⟨_, _, _, _, (World.cell?_alloc_new _ _ _ _).trans rfl, (h0.1.below hE (Nat.le_refl _)).more hE.sz, h0.2⟩
  | 1, _ => exact ⟨_, _, _, _, (World.cell?_alloc_new _ _ _ _).trans rfl, (h1.1.below hE (Nat.le_refl _)).more hE.sz, h1.2⟩
  | 2, _ => exact ⟨_, _, _, _, (World.cell?_alloc_new _ _ _ _).trans rfl, (h2.1.below hE (Nat.le_refl _)).more hE.sz, h2.2⟩
  | 3, _ => exact ⟨_, _, _, _, (World.cell?_alloc_new _ _ _ _).trans rfl, (h3.1.below hE (Nat.le_refl _)).more hE.sz, h3.2⟩
  | 4, _ => exact ⟨_, _, _, _, (World.cell?_alloc_new _ _ _ _).trans rfl, (h4.1.below hE (Nat.le_refl _)).more hE.sz, h4.2⟩

def Row3 (g : Nat) (W : World) : Prop := g < W.heap.size ∧ ∀ j, j < 3 → ∃ s : ByteArray, W.cell? ⟨g, j, none⟩ = some (.string s) ∧ s.size < 31
theorem Row3.ext {g : Nat} {W W' : World} (h : Row3 g W) (hE : Ext W W') : Row3 g W' :=
  ⟨Nat.lt_of_lt_of_le h.1 hE.sz, fun j hj => by
    obtain ⟨s, h1, h2⟩ := h.2 j hj
    exact ⟨s, (hE.old (p := ⟨g, j, none⟩) h.1).trans h1, h2⟩⟩
theorem row3_mk (w : World) (T : TypeId) (a b c : ByteArray) (ha : a.size < 31) (hb : b.size < 31) (hc : c.size < 31) : Row3 w.heap.size (w.alloc (.cells #[.string a, .string b, .string c] T)) := by
  refine ⟨by simp, fun j hj => ?_⟩
  match j, hj with
  | 0, _ => exact ⟨_, (World.cell?_alloc_new _ _ _ _).trans rfl, ha⟩
  | 1, _ => exact ⟨_, (World.cell?_alloc_new _ _ _ _).trans rfl, hb⟩
  | 2, _ => exact ⟨_, (World.cell?_alloc_new _ _ _ _).trans rfl, hc⟩
def slThree : SP := ⟨fun v W => ∃ g, v = .slice (some ⟨g, 0, none⟩) 3 3 ∧ Row3 g W, fun h hE => by
  obtain ⟨g, e, hr⟩ := h
  exact ⟨g, e, hr.ext hE⟩⟩
def Row4 (g : Nat) (W : World) : Prop := g < W.heap.size ∧ ∀ j, j < 4 → ∃ i : Int, W.cell? ⟨g, j, none⟩ = some (.int .i64 i) ∧ -9223372036854775808 ≤ i ∧ i ≤ 9223372036854775807
theorem Row4.ext {g : Nat} {W W' : World} (h : Row4 g W) (hE : Ext W W') : Row4 g W' :=
  ⟨Nat.lt_of_lt_of_le h.1 hE.sz, fun j hj => by
    obtain ⟨s, h1, h2⟩ := h.2 j hj
    exact ⟨s, (hE.old (p := ⟨g, j, none⟩) h.1).trans h1, h2⟩⟩
theorem row4_mk (w : World) (T : TypeId) (a b c d : Int) (ha : -9223372036854775808 ≤ a ∧ a ≤ 9223372036854775807) (hb : -9223372036854775808 ≤ b ∧ b ≤ 9223372036854775807) (hc : -9223372036854775808 ≤ c ∧ c ≤ 9223372036854775807) (hd : -9223372036854775808 ≤ d ∧ d ≤ 9223372036854775807) :
    Row4 w.heap.size (w.alloc (.cells #[.int .i64 a, .int .i64 b, .int .i64 c, .int .i64 d] T)) := by
  refine ⟨by simp, fun j hj => ?_⟩
  match j, hj with
  | 0, _ => exact ⟨_, (World.cell?_alloc_new _ _ _ _).trans rfl, ha⟩
  | 1, _ => exact ⟨_, (World.cell?_alloc_new _ _ _ _).trans rfl, hb⟩
  | 2, _ => exact ⟨_, (World.cell?_alloc_new _ _ _ _).trans rfl, hc⟩
  | 3, _ => exact ⟨_, (World.cell?_alloc_new _ _ _ _).trans rfl, hd⟩

/- the variables that hold the arguments o and raw -/
def Boxes (N : Nat) (so : ByteArray) (no co : Nat) (A2 : Option Addr) (n2 c2 : Nat) (at_ : Int) (W : World) : Prop :=
  N + 1 + 1 < W.heap.size ∧ W.cell? ⟨N + 1, 0, none⟩ = some (.string so) ∧ W.cell? ⟨N + 1, 1, none⟩ = some (.int .u8 (no : Nat)) ∧ W.cell? ⟨N + 1, 2, none⟩ = some (.int .u8 (co : Nat)) ∧
    W.cell? ⟨N + 1 + 1, 0, none⟩ = some (.slice A2 n2 c2) ∧ W.cell? ⟨N + 1 + 1, 1, none⟩ = some (.int .i64 at_)
theorem Boxes.ext {N : Nat} {so : ByteArray} {no co : Nat} {A2 : Option Addr} {n2 c2 : Nat} {at_ : Int} {W W' : World} (h : Boxes N so no co A2 n2 c2 at_ W) (hE : Ext W W') : Boxes N so no co A2 n2 c2 at_ W' := by
  obtain ⟨h0, h1, h2, h3, h4, h5⟩ := h
  have hz := hE.sz
  exact ⟨by omega, (hE.old (p := ⟨N + 1, 0, none⟩) (by show N + 1 < _; omega)).trans h1, (hE.old (p := ⟨N + 1, 1, none⟩) (by show N + 1 < _; omega)).trans h2, (hE.old (p := ⟨N + 1, 2, none⟩) (by show N + 1 < _; omega)).trans h3,
    (hE.old (p := ⟨N + 1 + 1, 0, none⟩) (by show N + 1 + 1 < _; omega)).trans h4, (hE.old (p := ⟨N + 1 + 1, 1, none⟩) (by show N + 1 + 1 < _; omega)).trans h5⟩

/- a proof of the reference, at whatever index -/
theorem rProve_min (A : Option Addr) (m c : Nat) (t : Int) (l : List ByteArray) (w : World) (hS : Strs w w.heap.size A m l) (hm : m ≤ 20) (hls : ∀ k, (l.getD k ByteArray.empty).size < 31) (h1 : -1 ≤ t) (h2 : t < m) :
    Calls Try.prog 24 #[.slice A m c, .int .i64 t] w fun e w' => ∃ v bb pf, e = .returned (.tuple #[v, .bool bb]) ∧ OwnS w' w.heap.size v pf ∧ pf.length ≤ 5 ∧ Sm pf ∧ Below w.heap.size w w' := by
  by_cases h0 : t < 0
  · refine (rProve_no A m c t w (by omega) (by omega) (.inl h0)).mono ?_
    rintro e w' ⟨rfl, rfl⟩
    exact ⟨_, _, [], rfl, OwnS.nil _ _, Nat.zero_le _, Sm.nil, Below.refl _ _⟩
  · obtain ⟨i, rfl⟩ : ∃ i : Nat, t = i := ⟨t.toNat, by omega⟩
    have hlen := hS.len
    refine (rProve_yes A m c i l w hS (by omega) (fun k => Nat.lt_trans (hls k) (by decide)) (by omega)).mono ?_
    rintro e w' ⟨v, rfl, hO, hb⟩
    exact ⟨_, _, _, rfl, hO, (prvS_ok l i (by omega) (by omega)).2, (dgs_prvS l i (by omega)).sm, hb⟩

theorem list_min {i m : Nat} (h : m ≤ 20) : ∃ t : Int, min (i : Int) ((m : Int) - 1) = t ∧ -1 ≤ t ∧ t < m ∧ (0 < m → ∃ k : Nat, t = k ∧ k < m) := by
  refine ⟨_, rfl, by omega, by omega, fun h0 => ⟨(min (i : Int) ((m : Int) - 1)).toNat, by omega, by omega⟩⟩

set_option maxRecDepth 100000 in
set_option maxHeartbeats 1000000 in
theorem DigestVerifies_any (A : Option Addr) (n c : Nat) (ss : List ByteArray) (p q : Nat) (so : ByteArray) (no co : Nat) (AR : Option Addr) (nr cr : Nat) (ls : List ByteArray) (at_ : Int) (w : World) (hS : Strs w w.heap.size A n ss) (hn : n < 9223372036854775808) (hsm : ∀ k, (ss.getD k ByteArray.empty).size < 9223372036854775808) (hp : p < 256) (hq : q < 256) (hso : so.size ≤ maxLen) (hno : no < 256) (hco : co < 256) (hR : Strs w w.heap.size AR nr ls) (hnr : nr < 9223372036854775808) (hrsm : ∀ k, (ls.getD k ByteArray.empty).size < 9223372036854775808) (hat : -9223372036854775808 ≤ at_ ∧ at_ ≤ 9223372036854775807) :
    Calls Try.prog 7 #[.slice A n c, .agg #[.int .u8 (p : Nat), .int .u8 (q : Nat)], .agg #[.string so, .int .u8 (no : Nat), .int .u8 (co : Nat)], .agg #[.slice AR nr cr, .int .i64 at_]] w fun e w' => e = .returned (.bool true) ∧ Below w.heap.size w w' := by
  have hso' : so.size < 9223372036854775808 := by simp only [maxLen] at hso; omega
  clear hso
  go_enter Try.func7, Try.ntmps7
  go_wp2_with fail
  obtain ⟨w0, hw0⟩ : ∃ w0, ((w.alloc (.cells #[.int .u8 (p : Nat), .int .u8 (q : Nat)] 41)).alloc (.cells #[.string so, .int .u8 (no : Nat), .int .u8 (co : Nat)] 27)).alloc (.cells #[.slice AR nr cr, .int .i64 at_] 43) = w0 := ⟨_, rfl⟩
  have hE0 : Ext w w0 := by rw [← hw0]; exact ((Ext.alloc _ _).trans (Ext.alloc _ _)).trans (Ext.alloc _ _)
  have hz0 : w0.heap.size = w.heap.size + 3 := by rw [← hw0]; simp
  have cpq : w0.cell? ⟨w.heap.size, 0, none⟩ = some (.int .u8 (p : Nat)) ∧ w0.cell? ⟨w.heap.size, 1, none⟩ = some (.int .u8 (q : Nat)) ∧ Boxes w.heap.size so no co AR nr cr at_ w0 := by
    have b0 : w0.heap[w.heap.size]? = some (.cells #[.int .u8 (p : Nat), .int .u8 (q : Nat)] 41) := by
      rw [← hw0, Below.heap_alloc _ _ _ (by rw [World.size_alloc, World.size_alloc]; omega), Below.heap_alloc _ _ _ (by simp)]; exact heap_alloc_new _ _
    have b1 : w0.heap[w.heap.size + 1]? = some (.cells #[.string so, .int .u8 (no : Nat), .int .u8 (co : Nat)] 27) := by
      rw [← hw0, Below.heap_alloc _ _ _ (by simp)]
      have := heap_alloc_new (w.alloc (.cells #[.int .u8 (p : Nat), .int .u8 (q : Nat)] 41)) (.cells #[.string so, .int .u8 (no : Nat), .int .u8 (co : Nat)] 27)
      rw [World.size_alloc] at this
      exact this
    have b2 : w0.heap[w.heap.size + 2]? = some (.cells #[.slice AR nr cr, .int .i64 at_] 43) := by
      rw [← hw0]
      have := heap_alloc_new ((w.alloc (.cells #[.int .u8 (p : Nat), .int .u8 (q : Nat)] 41)).alloc (.cells #[.string so, .int .u8 (no : Nat), .int .u8 (co : Nat)] 27)) (.cells #[.slice AR nr cr, .int .i64 at_] 43)
      rw [World.size_alloc, World.size_alloc] at this
      exact this
    exact ⟨by simp [World.cell?, b0], by simp [World.cell?, b0], by omega, by simp [World.cell?, b1], by simp [World.cell?, b1], by simp [World.cell?, b1], by simp [World.cell?, b2], by simp [World.cell?, b2]⟩
  obtain ⟨cp, cq, hB0⟩ := cpq
  rw [hw0]
  clear hw0
  refine (sanity_any _).mono ?_
  rintro e w1 ⟨rfl, hb1⟩
  have hE1 : Ext w w1 := hE0.trans hb1
  go_wp2_with fail
  refine (list_any A n c ss w1 ((hS.below hE1 (Nat.le_refl _)).more hE1.sz) hn hsm).mono ?_
  rintro e w2 ⟨v, rfl, hO, hb2⟩
  have hE2 : Ext w0 w2 := Ext.trans hb1 hb2
  have hl := lst_length ss
  have hls := lst_small ss
  generalize lst ss = l at hO hl hls
  obtain ⟨A2, c2, rfl, hS2⟩ := hO.form
  obtain ⟨m, hm⟩ : ∃ m, l.length = m := ⟨_, rfl⟩
  rw [hm] at hS2 hl ⊢
  clear hm
  have cp2 : w2.cell? ⟨w.heap.size, 0, none⟩ = some (.int .u8 (p : Nat)) := (hE2.old (p := ⟨w.heap.size, 0, none⟩) (by show w.heap.size < _; omega)).trans cp
  have cq2 : w2.cell? ⟨w.heap.size, 1, none⟩ = some (.int .u8 (q : Nat)) := (hE2.old (p := ⟨w.heap.size, 1, none⟩) (by show w.heap.size < _; omega)).trans cq
  have hB2 := hB0.ext hE2
  have hlt2 : w.heap.size + 2 < w2.heap.size := hB2.1
  obtain ⟨i, hi⟩ : ∃ i, p % 40 = i := ⟨_, rfl⟩
  have hi40 : i < 40 := by omega
  have e1 : (p : Int) % 40 = i := by rw [← hi]; rfl
  have e2 : (p : Int).tmod 40 = i := by rw [← hi]; rfl
  obtain ⟨k, hk⟩ : ∃ k, q % 40 = k := ⟨_, rfl⟩
  have hk40 : k < 40 := by omega
  have e3 : (q : Int) % 40 = k := by rw [← hk]; rfl
  have e4 : (q : Int).tmod 40 = k := by rw [← hk]; rfl
  clear hi hk cp cq
  go_wp2_with fail
  apply wp_region_seq (l := [_, _, _, _, _, _, _, _, _, _]) (t := []) [some 30, some 31, some 32, some 33, some 34, some 35, some 36, some 37, some 10, some 11] [[], [0], [1], [2], [], [4], [5], [6], [3], [7]] [] [eqv _, eqv _, eqv _, eqv _, eqv _, eqv _, eqv _, eqv _, eqv _, eqv _] (by kernel_rfl) (by kernel_rfl) ⟨?o0, ?o1, ?o2, ?o3, ?o4, ?o5, ?o6, ?o7, ?o8, ?o9, trivial⟩ ?last
  case o0 => -- Op.indexAddr 41 (Operand.tmp 5) (Operand.const (Value.int IntKind.i64 0))
    intro xv W hE _
    simp only [putD, List.foldl_nil, List.getD_cons_zero]
    refine OpGoal.plain ?_
    go_wp2_with fail
    exact ⟨rfl, Ext.refl _, rfl⟩
  case o1 => -- Op.load 5 (Operand.tmp 30)
    intro xv W hE hp
    have r0 : xv 0 = _ := hp.1
    clear hp
    have cpW : W.cell? ⟨w.heap.size, 0, none⟩ = some (.int .u8 (p : Nat)) := (hE.old (p := ⟨w.heap.size, 0, none⟩) (by show w.heap.size < w2.heap.size; omega)).trans cp2
    have cqW : W.cell? ⟨w.heap.size, 1, none⟩ = some (.int .u8 (q : Nat)) := (hE.old (p := ⟨w.heap.size, 1, none⟩) (by show w.heap.size < w2.heap.size; omega)).trans cq2
    simp only [putD, List.foldl_nil, List.foldl_cons, List.getD_cons_zero, List.getD_cons_succ, Act.put, List.setIfInBounds_toArray, List.set_cons_zero, List.set_cons_succ]
    refine OpGoal.plain ?_
    go_wp2_with fail
    exact ⟨rfl, Ext.refl _, rfl⟩
  case o2 => -- Op.convert 5 3 (Operand.tmp 31)
    intro xv W hE hp
    have r1 : xv 1 = _ := hp.1
    clear hp
    simp only [putD, List.foldl_nil, List.foldl_cons, List.getD_cons_zero, List.getD_cons_succ, Act.put, List.setIfInBounds_toArray, List.set_cons_zero, List.set_cons_succ]
    refine OpGoal.plain ?_
    go_wp2_with fail
    exact ⟨rfl, Ext.refl _, rfl⟩
  case o3 => -- Op.binOp BinOp.rem 3 (Operand.tmp 32) (Operand.const (Value.int IntKind.i64 40))
    intro xv W hE hp
    have r2 : xv 2 = _ := hp.1
    clear hp
    simp only [putD, List.foldl_nil, List.foldl_cons, List.getD_cons_zero, List.getD_cons_succ, Act.put, List.setIfInBounds_toArray, List.set_cons_zero, List.set_cons_succ]
    refine OpGoal.plain ?_
    go_wp2_with fail
    exact ⟨rfl, Ext.refl _, rfl⟩
  case o4 => -- Op.indexAddr 41 (Operand.tmp 5) (Operand.const (Value.int IntKind.i64 1))
    intro xv W hE _
    simp only [putD, List.foldl_nil, List.getD_cons_zero, List.getD_cons_succ]
    refine OpGoal.plain ?_
    go_wp2_with fail
    exact ⟨rfl, Ext.refl _, rfl⟩
  case o5 => -- Op.load 5 (Operand.tmp 34)
    intro xv W hE hp
    have r4 : xv 4 = _ := hp.1
    clear hp
    have cpW : W.cell? ⟨w.heap.size, 0, none⟩ = some (.int .u8 (p : Nat)) := (hE.old (p := ⟨w.heap.size, 0, none⟩) (by show w.heap.size < w2.heap.size; omega)).trans cp2
    have cqW : W.cell? ⟨w.heap.size, 1, none⟩ = some (.int .u8 (q : Nat)) := (hE.old (p := ⟨w.heap.size, 1, none⟩) (by show w.heap.size < w2.heap.size; omega)).trans cq2
    simp only [putD, List.foldl_nil, List.foldl_cons, List.getD_cons_zero, List.getD_cons_succ, Act.put, List.setIfInBounds_toArray, List.set_cons_zero, List.set_cons_succ]
    refine OpGoal.plain ?_
    go_wp2_with fail
    exact ⟨rfl, Ext.refl _, rfl⟩
  case o6 => -- Op.convert 5 3 (Operand.tmp 35)
    intro xv W hE hp
    have r5 : xv 5 = _ := hp.1
    clear hp
    simp only [putD, List.foldl_nil, List.foldl_cons, List.getD_cons_zero, List.getD_cons_succ, Act.put, List.setIfInBounds_toArray, List.set_cons_zero, List.set_cons_succ]
    refine OpGoal.plain ?_
    go_wp2_with fail
    exact ⟨rfl, Ext.refl _, rfl⟩
  case o7 => -- Op.binOp BinOp.rem 3 (Operand.tmp 36) (Operand.const (Value.int IntKind.i64 40))
    intro xv W hE hp
    have r6 : xv 6 = _ := hp.1
    clear hp
    simp only [putD, List.foldl_nil, List.foldl_cons, List.getD_cons_zero, List.getD_cons_succ, Act.put, List.setIfInBounds_toArray, List.set_cons_zero, List.set_cons_succ]
    refine OpGoal.plain ?_
    go_wp2_with fail
    exact ⟨rfl, Ext.refl _, rfl⟩
  case o8 => -- Op.assign (Operand.tmp 33)
    intro xv W hE hp
    have r3 : xv 3 = _ := hp.1
    clear hp
    simp only [putD, List.foldl_nil, List.foldl_cons, List.getD_cons_zero, List.getD_cons_succ, Act.put, List.setIfInBounds_toArray, List.set_cons_zero, List.set_cons_succ]
    refine OpGoal.plain ?_
    go_wp2_with fail
    exact ⟨rfl, Ext.refl _, rfl⟩
  case o9 => -- Op.assign (Operand.tmp 37)
    intro xv W hE hp
    have r7 : xv 7 = _ := hp.1
    clear hp
    simp only [putD, List.foldl_nil, List.foldl_cons, List.getD_cons_zero, List.getD_cons_succ, Act.put, List.setIfInBounds_toArray, List.set_cons_zero, List.set_cons_succ]
    refine OpGoal.plain ?_
    go_wp2_with fail
    exact ⟨rfl, Ext.refl _, rfl⟩
  case last =>
    intro xv W hE hp
    have r0 : xv 0 = _ := hp.1
    have r1 : xv 1 = _ := hp.2.1
    have r2 : xv 2 = _ := hp.2.2.1
    have r3 : xv 3 = _ := hp.2.2.2.1
    have r4 : xv 4 = _ := hp.2.2.2.2.1
    have r5 : xv 5 = _ := hp.2.2.2.2.2.1
    have r6 : xv 6 = _ := hp.2.2.2.2.2.2.1
    have r7 : xv 7 = _ := hp.2.2.2.2.2.2.2.1
    have r8 : xv 8 = _ := hp.2.2.2.2.2.2.2.2.1
    have r9 : xv 9 = _ := hp.2.2.2.2.2.2.2.2.2.1
    clear hp
    simp only [putD, List.foldl_nil, List.foldl_cons, List.getD_cons_zero, List.getD_cons_succ, Act.put, List.length_cons, List.length_nil, List.range_succ, List.range_zero, List.nil_append, List.cons_append, List.setIfInBounds_toArray, List.set_cons_zero, List.set_cons_succ]
    have hEW : Ext w0 W := (hE2.trans (Ext.drew w2)).trans hE
    have hE2W : Ext w2 W := (Ext.drew w2).trans hE
    have hSW := (hS2.below hE2W (Nat.le_refl _)).more hE2W.sz
    have hBW := hB2.ext hE2W
    obtain ⟨t, ht, ht1, ht2, ht3⟩ := list_min (i := i) hl
    clear r0 r1 r2 r3 r4 r5 r6 r7 cp2 cq2 e1 e2 e3 e4
    go_wp2_with fail
    clear r8 r9
    refine (rProve_min A2 m c2 t l W hSW hl hls ht1 ht2).mono ?_
    rintro e x1 ⟨v1, bb, pf, rfl, op1, hpf5, hpfs, kb1⟩
    have hx1 : Ext W x1 := kb1
    obtain ⟨mp, hmp⟩ : ∃ mp, pf.length = mp := ⟨_, rfl⟩
    obtain ⟨B1, d1, rfl, sp1⟩ := op1.form
    have hd1 := op1.cap
    rw [hmp] at sp1 hpf5 hd1 ⊢
    go_wp2_with fail
    refine (rRoot_any A2 m c2 l x1 ((hSW.below hx1 (Nat.le_refl _)).more hx1.sz) (by omega) (fun k => Nat.lt_trans (hls k) (by decide))).mono ?_
    rintro e x2 ⟨rfl, kb2⟩
    have hx2 : Ext x1 x2 := kb2
    generalize rootS l = rt
    have hS2 := (hSW.below (hx1.trans hx2) (Nat.le_refl _)).more (hx1.trans hx2).sz
    have sp2 := (sp1.below hx2 (Nat.le_refl _)).more hx2.sz
    have hB2' := hBW.ext (hx1.trans hx2)
    have hEx2 : Ext w0 x2 := (hEW.trans hx1).trans hx2
    clear hSW sp1 hBW kb1 kb2 op1 hE2W hE2 hB2
    go_upto_if 52 with fail
    go_cut [15] from 27 (fun x wx => (∃ s : ByteArray, x = .string s ∧ s.size < 31) ∧ wx = x2)
    case first =>
      by_cases h0 : 0 < m
      · obtain ⟨j, rfl, hj⟩ := ht3 h0
        obtain ⟨b2, o2, rfl, hbl2, hc2⟩ := hS2.at_ hj
        have hcj := hc2 j hj
        have hlj := hls j
        generalize l.getD j ByteArray.empty = s at hcj hlj
        have tm : decide ((0 : Int) < (m : Int)) = true := by simp; omega
        clear hc2
        go_wp2_with fail
        go_meet
        case rel => exact ⟨⟨_, rfl, hlj⟩, rfl⟩
      · have tm : decide ((0 : Int) < (m : Int)) = false := by simp; omega
        go_wp2_with fail
        go_meet
        case rel => exact ⟨⟨_, rfl, by decide⟩, rfl⟩
    case rest =>
    obtain ⟨⟨lf_, rfl, hlf⟩, rfl⟩ := hcut
    obtain ⟨z, hz⟩ : ∃ z, k % (mp + 1) = z := ⟨_, rfl⟩
    have hzm : z < mp + 1 := by rw [← hz]; exact Nat.mod_lt _ (by omega)
    have ez1 : (k : Int) % ((mp : Int) + 1) = z := by rw [← hz]; rfl
    have ez2 : (k : Int).tmod ((mp : Int) + 1) = z := by rw [← hz]; rfl
    clear hz
    go_wp2_with fail
    go_loopw [16, 63] (fun vo vk wr => ∃ (j : Nat) (od : List ByteArray), j ≤ mp ∧ vk = .int .i64 j ∧ od.length = j ∧ Sm od ∧ OwnS wr wc.heap.size vo od ∧ Ext wc wr) (fun _ vk _ => mp - (intOf vk).toNat)
    case atStart => exact ⟨0, [], Nat.zero_le _, rfl, rfl, Sm.nil, OwnS.nil _ _, Ext.refl _⟩
    case round =>
      obtain ⟨j, od, hj, rfl, hjl, hos, hO, hEr⟩ := hrel
      by_cases hlt : j < mp
      · obtain ⟨b1, o1, rfl, hbl1, hc1⟩ := sp2.at_ hlt
        have hcj := (hEr.old (p := ⟨b1, o1 + j, none⟩) hbl1).trans (hc1 j hlt)
        have hsj := hpfs j
        generalize pf.getD j ByteArray.empty = s at hcj hsj
        obtain ⟨-, cb0, cb1, cb2, -, -⟩ := hB2'.ext hEr
        have hmp1 : ((mp : Int) + 1 == 0) = false := by rw [beq_eq_false_iff_ne]; omega
        clear hc1
        have HJL := Lib.hid hjl
        clear hjl
        have hzw := hEr.sz
        by_cases hjz : j = z
        · have tj : ((j : Int) == (z : Int)) = true := by rw [hjz]; exact beq_self_eq_true _
          clear hjz
          go_wp2_with fail
          refine (change_any so no co s wr hno hco (by omega)).mono ?_
          rintro e w5 ⟨rfl, kb5⟩
          have hs5 := chg_size no co s
          generalize chg no co s = s5 at hs5
          have hE5 : Ext wr w5 := kb5
          have hO5 := hO.ext hE5
          have hz5 := hE5.sz
          have hEr5 := hEr.trans hE5
          have hbase : ∀ o : Obj, wc.heap.size ≤ (w5.alloc o).heap.size := fun o => by rw [World.size_alloc]; omega
          go_wp2_with (at_builtin; refine app_s rfl 78 80 rfl wc.heap.size u16 od rfl (hO5.ext (Ext.alloc _ _)) w5.heap.size s5 rfl ((World.cell?_alloc_new _ _ _ _).trans rfl) (by rw [HJL.out]; omega) (hbase _) ?_; intro v' w' hO' hg')
          go_roundw
          case rel =>
            refine ⟨j + 1, od ++ [s5], by omega, by go_num, by rw [List.length_append, HJL.out]; rfl, Sm.snoc hos (by omega), hO', ?_⟩
            exact below_of_grown (hEr5.trans (Ext.alloc _ _)) (hO5.ext (Ext.alloc _ _)) hg' (hbase _)
          case measure => simp [intOf]; omega
        · have tj : ((j : Int) == (z : Int)) = false := by rw [beq_eq_false_iff_ne]; omega
          clear hjz
          have hbase : ∀ o : Obj, wc.heap.size ≤ (wr.alloc o).heap.size := fun o => by rw [World.size_alloc]; omega
          go_wp2_with (at_builtin; refine app_s rfl 78 80 rfl wc.heap.size u16 od rfl (hO.ext (Ext.alloc _ _)) wr.heap.size s rfl ((World.cell?_alloc_new _ _ _ _).trans rfl) (by rw [HJL.out]; omega) (hbase _) ?_; intro v' w' hO' hg')
          go_roundw
          case rel =>
            refine ⟨j + 1, od ++ [s], by omega, by go_num, by rw [List.length_append, HJL.out]; rfl, Sm.snoc hos (by omega), hO', ?_⟩
            exact below_of_grown (hEr.trans (Ext.alloc _ _)) (hO.ext (Ext.alloc _ _)) hg' (hbase _)
          case measure => simp [intOf]; omega
      · obtain rfl : j = mp := by omega
        obtain ⟨w6, rfl⟩ : ∃ w6, w6 = wr := ⟨_, rfl⟩
        obtain ⟨B3, d3, rfl, s3⟩ := hO.form
        rw [hjl] at s3
        rw [hjl]
        have hB6 := hB2'.ext hEr
        have sp6 := (sp2.below hEr (Nat.le_refl _)).more hEr.sz
        have hE6 : Ext w0 w6 := hEx2.trans hEr
        have hEw6 : Ext w w6 := hE0.trans hE6
        go_upto_block 2 with fail
        go_cut [19] from 27 (fun vo wx => ∃ (ot : List ByteArray), ot.length ≤ 45 ∧ Sm ot ∧ OwnS wx w6.heap.size vo ot ∧ Ext w6 wx)
        case first =>
          go_wp2_with fail
          go_loopw [19, 20] (fun vo vn wr => ∃ (e : Nat) (ot : List ByteArray), e ≤ nr ∧ e ≤ 45 ∧ vn = .int .i64 e ∧ ot.length = e ∧ Sm ot ∧ OwnS wr w6.heap.size vo ot ∧ Ext w6 wr) (fun _ vn _ => nr - (intOf vn).toNat)
          case atStart => exact ⟨0, [], Nat.zero_le _, Nat.zero_le _, rfl, rfl, Sm.nil, OwnS.nil _ _, Ext.refl _⟩
          case round =>
            obtain ⟨e, ot, he, he45, rfl, hotl, hots, hOt, hEt⟩ := hrel
            obtain ⟨hbz, -, -, -, cb3, -⟩ := hB6.ext hEt
            by_cases hlt : e < nr
            · by_cases hlt2 : e < 45
              · obtain ⟨b, o, rfl, hbl, hc0⟩ := hR.at_ hlt
                have hc : wr.cell? ⟨b, o + e, none⟩ = some (.string (ls.getD e ByteArray.empty)) := ((hEw6.trans hEt).old (p := ⟨b, o + e, none⟩) hbl).trans (hc0 e hlt)
                have hsz := hrsm e
                clear hc0
                generalize ls.getD e ByteArray.empty = s at hc hsz
                have HOL := Lib.hid hotl
                clear hotl
                have hzt := (hEw6.trans hEt).sz
                have hzt6 := hEt.sz
                have hbw : b < wr.heap.size := by omega
                have hs10 := cut10_size s
                have hlt2' : decide ((e : Int) < 45) = true := by simp; omega
                go_wp2_with fail
                apply wp_region_seq (l := [_, _, _, _, _, _, _, _, _, _, _, _, _, _, _]) (t := [_, _]) [some 94, some 95, some 96, some 97, some 98, some 99, some 100, some 101, some 102, some 103, some 104, some 105, some 106, some 107, some 108, some 109, some 19] [[], [], [1], [], [2, 3], [4], [], [6], [], [7, 8], [9], [10], [11], [5, 12], [13], [0, 14], [15]] [15, 2, 4, 4, 5, 13, 7, 9, 9, 10, 11, 12, 13, 14, 15] [eqv _, eqv _, eqv _, eqv _, eqv _, eqv _, eqv _, eqv _, eqv _, eqv _, eqv _, eqv _, eqv _, (eqv (.string (cut10 s))), (slOne (cut10 s))] (by kernel_rfl) (by kernel_rfl) ⟨?o0, ?o1, ?o2, ?o3, ?o4, ?o5, ?o6, ?o7, ?o8, ?o9, ?o10, ?o11, ?o12, ?o13, ?o14, trivial⟩ ?last
                case o0 => -- Op.move (Operand.tmp 19)
                  intro xv W hE _
                  simp only [putD, List.foldl_nil, List.getD_cons_zero]
                  refine OpGoal.plain ?_
                  go_wp2_with fail
                  exact ⟨rfl, Ext.refl _, rfl⟩
                case o1 => -- Op.fieldAddr 43 (Operand.tmp 7) 0
                  intro xv W hE _
                  simp only [putD, List.foldl_nil, List.getD_cons_zero, List.getD_cons_succ]
                  refine OpGoal.plain ?_
                  go_wp2_with fail
                  exact ⟨rfl, Ext.refl _, rfl⟩
                case o2 => -- Op.load 28 (Operand.tmp 95)
                  intro xv W hE hp
                  have r1 : xv 1 = _ := hp.1
                  clear hp
                  have hcW : W.cell? ⟨b, o + e, none⟩ = some (.string s) := (hE.old (p := ⟨b, o + e, none⟩) hbw).trans hc
                  have cbW : W.cell? ⟨w.heap.size + 1 + 1, 0, none⟩ = some (.slice (some ⟨b, o, none⟩) nr cr) := (hE.old (p := ⟨w.heap.size + 1 + 1, 0, none⟩) hbz).trans cb3
                  simp only [putD, List.foldl_nil, List.foldl_cons, List.getD_cons_zero, List.getD_cons_succ, Act.put, List.setIfInBounds_toArray, List.set_cons_zero, List.set_cons_succ]
                  refine OpGoal.plain ?_
                  go_wp2_with fail
                  exact ⟨rfl, Ext.refl _, rfl⟩
                case o3 => -- Op.move (Operand.tmp 20)
                  intro xv W hE _
                  simp only [putD, List.foldl_nil, List.getD_cons_zero, List.getD_cons_succ]
                  refine OpGoal.plain ?_
                  go_wp2_with fail
                  exact ⟨rfl, Ext.refl _, rfl⟩
                case o4 => -- Op.indexAddr 28 (Operand.tmp 96) (Operand.tmp 97)
                  intro xv W hE hp
                  have r2 : xv 2 = _ := hp.1
                  have r3 : xv 3 = _ := hp.2.1
                  clear hp
                  simp only [putD, List.foldl_nil, List.foldl_cons, List.getD_cons_zero, List.getD_cons_succ, Act.put, List.setIfInBounds_toArray, List.set_cons_zero, List.set_cons_succ]
                  refine OpGoal.plain ?_
                  go_wp2_with fail
                  exact ⟨rfl, Ext.refl _, rfl⟩
                case o5 => -- Op.load 9 (Operand.tmp 98)
                  intro xv W hE hp
                  have r4 : xv 4 = _ := hp.1
                  clear hp
                  have hcW : W.cell? ⟨b, o + e, none⟩ = some (.string s) := (hE.old (p := ⟨b, o + e, none⟩) hbw).trans hc
                  have cbW : W.cell? ⟨w.heap.size + 1 + 1, 0, none⟩ = some (.slice (some ⟨b, o, none⟩) nr cr) := (hE.old (p := ⟨w.heap.size + 1 + 1, 0, none⟩) hbz).trans cb3
                  simp only [putD, List.foldl_nil, List.foldl_cons, List.getD_cons_zero, List.getD_cons_succ, Act.put, List.setIfInBounds_toArray, List.set_cons_zero, List.set_cons_succ]
                  refine OpGoal.plain ?_
                  go_wp2_with fail
                  exact ⟨rfl, Ext.refl _, rfl⟩
                case o6 => -- Op.fieldAddr 43 (Operand.tmp 7) 0
                  intro xv W hE _
                  simp only [putD, List.foldl_nil, List.getD_cons_zero, List.getD_cons_succ]
                  refine OpGoal.plain ?_
                  go_wp2_with fail
                  exact ⟨rfl, Ext.refl _, rfl⟩
                case o7 => -- Op.load 28 (Operand.tmp 100)
                  intro xv W hE hp
                  have r6 : xv 6 = _ := hp.1
                  clear hp
                  have hcW : W.cell? ⟨b, o + e, none⟩ = some (.string s) := (hE.old (p := ⟨b, o + e, none⟩) hbw).trans hc
                  have cbW : W.cell? ⟨w.heap.size + 1 + 1, 0, none⟩ = some (.slice (some ⟨b, o, none⟩) nr cr) := (hE.old (p := ⟨w.heap.size + 1 + 1, 0, none⟩) hbz).trans cb3
                  simp only [putD, List.foldl_nil, List.foldl_cons, List.getD_cons_zero, List.getD_cons_succ, Act.put, List.setIfInBounds_toArray, List.set_cons_zero, List.set_cons_succ]
                  refine OpGoal.plain ?_
                  go_wp2_with fail
                  exact ⟨rfl, Ext.refl _, rfl⟩
                case o8 => -- Op.move (Operand.tmp 20)
                  intro xv W hE _
                  simp only [putD, List.foldl_nil, List.getD_cons_zero, List.getD_cons_succ]
                  refine OpGoal.plain ?_
                  go_wp2_with fail
                  exact ⟨rfl, Ext.refl _, rfl⟩
                case o9 => -- Op.indexAddr 28 (Operand.tmp 101) (Operand.tmp 102)
                  intro xv W hE hp
                  have r7 : xv 7 = _ := hp.1
                  have r8 : xv 8 = _ := hp.2.1
                  clear hp
                  simp only [putD, List.foldl_nil, List.foldl_cons, List.getD_cons_zero, List.getD_cons_succ, Act.put, List.setIfInBounds_toArray, List.set_cons_zero, List.set_cons_succ]
                  refine OpGoal.plain ?_
                  go_wp2_with fail
                  exact ⟨rfl, Ext.refl _, rfl⟩
                case o10 => -- Op.load 9 (Operand.tmp 103)
                  intro xv W hE hp
                  have r9 : xv 9 = _ := hp.1
                  clear hp
                  have hcW : W.cell? ⟨b, o + e, none⟩ = some (.string s) := (hE.old (p := ⟨b, o + e, none⟩) hbw).trans hc
                  have cbW : W.cell? ⟨w.heap.size + 1 + 1, 0, none⟩ = some (.slice (some ⟨b, o, none⟩) nr cr) := (hE.old (p := ⟨w.heap.size + 1 + 1, 0, none⟩) hbz).trans cb3
                  simp only [putD, List.foldl_nil, List.foldl_cons, List.getD_cons_zero, List.getD_cons_succ, Act.put, List.setIfInBounds_toArray, List.set_cons_zero, List.set_cons_succ]
                  refine OpGoal.plain ?_
                  go_wp2_with fail
                  exact ⟨rfl, Ext.refl _, rfl⟩
                case o11 => -- Op.call { callee := Callee.builtin Builtin.len, args := #[Operand.tmp 104], argT
                  intro xv W hE hp
                  have r10 : xv 10 = _ := hp.1
                  clear hp
                  simp only [putD, List.foldl_nil, List.foldl_cons, List.getD_cons_zero, List.getD_cons_succ, Act.put, List.setIfInBounds_toArray, List.set_cons_zero, List.set_cons_succ]
                  refine OpGoal.plain ?_
                  go_wp2_with fail
                  exact ⟨rfl, Ext.refl _, rfl⟩
                case o12 => -- Op.call { callee := Callee.builtin Builtin.min, args := #[Operand.tmp 105, Opera
                  intro xv W hE hp
                  have r11 : xv 11 = _ := hp.1
                  clear hp
                  simp only [putD, List.foldl_nil, List.foldl_cons, List.getD_cons_zero, List.getD_cons_succ, Act.put, List.setIfInBounds_toArray, List.set_cons_zero, List.set_cons_succ]
                  refine OpGoal.plain ?_
                  go_wp2_with fail
                  exact ⟨rfl, Ext.refl _, rfl⟩
                case o13 => -- Op.slice 9 (Operand.tmp 99) none (some (Operand.tmp 106)) none
                  intro xv W hE hp
                  have r5 : xv 5 = _ := hp.1
                  have r12 : xv 12 = _ := hp.2.1
                  clear hp
                  simp only [putD, List.foldl_nil, List.foldl_cons, List.getD_cons_zero, List.getD_cons_succ, Act.put, List.setIfInBounds_toArray, List.set_cons_zero, List.set_cons_succ]
                  refine OpGoal.plain ?_
                  go_wp2_with fail
                  refine ⟨rfl, Ext.refl _, ?_⟩
                  show Value.string _ = Value.string _
                  unfold cut10
                  rw [show (min (s.size : Int) 10).toNat = min s.size 10 by omega]
                case o14 => -- Op.buildSlice 28 1 #[(0, Operand.tmp 107)]
                  intro xv W hE hp
                  have r13 : xv 13 = _ := hp.1
                  clear hp
                  simp only [putD, List.foldl_nil, List.foldl_cons, List.getD_cons_zero, List.getD_cons_succ, Act.put, List.setIfInBounds_toArray, List.set_cons_zero, List.set_cons_succ]
                  refine OpGoal.plain ?_
                  go_wp2_with fail
                  exact ⟨rfl, Ext.alloc _ _, W.heap.size, rfl, by simp, by simp⟩
                case last =>
                  intro xv W hE hp
                  have r0 : xv 0 = _ := hp.1
                  have r1 : xv 1 = _ := hp.2.1
                  have r2 : xv 2 = _ := hp.2.2.1
                  have r3 : xv 3 = _ := hp.2.2.2.1
                  have r4 : xv 4 = _ := hp.2.2.2.2.1
                  have r5 : xv 5 = _ := hp.2.2.2.2.2.1
                  have r6 : xv 6 = _ := hp.2.2.2.2.2.2.1
                  have r7 : xv 7 = _ := hp.2.2.2.2.2.2.2.1
                  have r8 : xv 8 = _ := hp.2.2.2.2.2.2.2.2.1
                  have r9 : xv 9 = _ := hp.2.2.2.2.2.2.2.2.2.1
                  have r10 : xv 10 = _ := hp.2.2.2.2.2.2.2.2.2.2.1
                  have r11 : xv 11 = _ := hp.2.2.2.2.2.2.2.2.2.2.2.1
                  have r12 : xv 12 = _ := hp.2.2.2.2.2.2.2.2.2.2.2.2.1
                  have r13 : xv 13 = _ := hp.2.2.2.2.2.2.2.2.2.2.2.2.2.1
                  obtain ⟨g, rg, hg, hcg⟩ := hp.2.2.2.2.2.2.2.2.2.2.2.2.2.2.1
                  clear hp
                  simp only [putD, List.foldl_nil, List.foldl_cons, List.getD_cons_zero, List.getD_cons_succ, Act.put, List.length_cons, List.length_nil, List.range_succ, List.range_zero, List.nil_append, List.cons_append, List.setIfInBounds_toArray, List.set_cons_zero, List.set_cons_succ]
                  have hOt' := (hOt.ext (Ext.drew _)).ext hE
                  have hb' : w6.heap.size ≤ W.heap.size := by have := hE.sz; simp at this; omega
                  refine app_s rfl 94 108 rfl w6.heap.size u19 _ r0 hOt' g (cut10 s) rg hcg (by rw [HOL.out]; omega) hb' ?_
                  intro v' w' hO' hg'
                  go_wp2_with fail
                  go_roundw
                  case rel =>
                    refine ⟨e + 1, ot ++ [cut10 s], by omega, by omega, by go_num, by rw [List.length_append, HOL.out]; rfl, Sm.snoc hots (by omega), hO', ?_⟩
                    exact below_of_grown ((hEt.trans (Ext.drew _)).trans hE) hOt' hg' hb'
                  case measure => simp [intOf]; omega
              · have hlt2' : decide ((e : Int) < 45) = false := by simp; omega
                go_wp2_with fail
                go_meet
                case rel => exact ⟨_, by omega, hots, hOt, hEt⟩
            · obtain rfl : e = nr := by omega
              go_wp2_with fail
              go_meet
              case rel => exact ⟨_, by omega, hots, hOt, hEt⟩
        case rest =>
        obtain ⟨ot, hotl, hots, hOt, hE7⟩ := hcut
        obtain ⟨mo, hmo⟩ : ∃ mo, ot.length = mo := ⟨_, rfl⟩
        obtain ⟨B4, d4, rfl, s4⟩ := hOt.form
        rw [hmo] at s4 hotl
        rw [hmo]
        have hB7 := hB6.ext hE7
        have sp7 := (sp6.below hE7 (Nat.le_refl _)).more hE7.sz
        have s37 := (s3.below hE7 (Nat.le_refl _)).more hE7.sz
        have hE07 : Ext w0 wc := hE6.trans hE7
        have hpl := sp7.len
        have tj1 : ((j : Int) + 1 == 0) = false := by rw [beq_eq_false_iff_ne]; omega
        have hzd : (z : Int) ≤ d1 := by omega
        have hzd0 : ¬ (z : Int) < 0 := by omega
        have hzd2 : ¬ (d1 : Int) < (z : Int) := by omega
        have tj2 : ¬ ((j : Int) + 1 = 0) := by omega
        have tj3 : IntKind.i64.wrap ((j : Int) + 1) = (j : Int) + 1 := by have := IntKind.wrap_i64 ((j : Int) + 1); omega
        have hpe : ([] ++ pf ++ ot).length = j + mo := by rw [List.nil_append, List.length_append, hpl, hmo]
        have hso : Sm ([] ++ pf ++ ot) := Sm.append hpfs hots
        go_upto_region 22 with fail
        go_cut [125, 126, 127] from 27 (fun x y u wx => ∃ g, x = .slice (some ⟨g, 0, none⟩) 5 5 ∧ y = .int .i64 5 ∧ u = .int .i64 0 ∧ Row5 g wx ∧ Ext wc wx)
        case first =>
         go_region_law (first
          | (refine step_own rfl 112 113 rfl rfl wc.heap.size _ _ [] pf B1 j d1 rfl rfl (own_empty wc) (sp7.below ((Ext.drew wc).trans (Ext.alloc _ _)) (Nat.le_refl _)) (by simp; omega) (by simp) ?_
             intro v1 w1 h1 g1
             have kb1 : Ext wc w1 := below_of_grown ((Ext.drew wc).trans (Ext.alloc _ _)) (own_empty wc) g1 (by simp))
          | (refine step_own rfl 114 115 rfl rfl wc.heap.size _ _ _ ot B4 mo d4 rfl rfl h1 (s4.below kb1 (Nat.le_refl _)) (by rw [List.nil_append, hpl]; omega) kb1.sz ?_
             intro v2 w8 h2 g2
             have kb2 : Ext wc w8 := below_of_grown kb1 h1 g2 kb1.sz
             obtain ⟨B5, d5, rfl, s5⟩ := h2.form))
         go_wp2_with fail
         go_meet
         case rel =>
           have hs5 := s5
           rw [hpe] at hs5
           refine ⟨w8.heap.size, rfl, rfl, rfl, row5_mk w8 _ B1 B3 B5 B1 B4 _ _ _ _ _ _ _ _ _ _ pf od ([] ++ pf ++ ot) (pf.take z) ot ⟨(sp7.below kb2 (Nat.le_refl _)).more kb2.sz, by omega, hpfs⟩ ⟨(s37.below kb2 (Nat.le_refl _)).more kb2.sz, by omega, hos⟩ ⟨hs5, by omega, hso⟩ ⟨((Strs.take sp7 (by omega)).below kb2 (Nat.le_refl _)).more kb2.sz, by omega, Sm.take hpfs z⟩ ⟨(s4.below kb2 (Nat.le_refl _)).more kb2.sz, by omega, hots⟩, kb2.trans (Ext.alloc _ _)⟩
        case rest =>
        obtain ⟨g5, rfl, rfl, rfl, hr5, hE8⟩ := hcut
        have hB8 := hB7.ext hE8
        have hEw8 : Ext w wc := (hEw6.trans hE7).trans hE8
        clear hB6 hB7 hB2' s37 s4 sp7 sp6 hO hOt hots hos sp2 s3
        go_wp2_with fail
        go_loopw [127] (fun vi wr => ∃ e : Nat, e ≤ 5 ∧ vi = .int .i64 e ∧ Ext wc wr) (fun vi _ => 5 - (intOf vi).toNat)
        case atStart => exact ⟨0, Nat.zero_le _, rfl, Ext.refl _⟩
        case round =>
          obtain ⟨e, he, rfl, hE9⟩ := hrel
          by_cases hlt : e < 5
          · obtain ⟨hg5, hr5'⟩ := hr5.ext hE9
            obtain ⟨PA, pn, pc, ps, cP, sP, hpn, hPs⟩ := hr5' e hlt
            obtain ⟨hbz, cb0, cb1, cb2, cb3, cb4⟩ := hB8.ext hE9
            clear hr5'
            obtain ⟨lc, hlc⟩ : ∃ lc, chg no co lf_ = lc := ⟨_, rfl⟩
            have hlcs : lc.size < 31 := by rw [← hlc, chg_size]; exact hlf
            have hcs := cut30_size so
            have te1 : decide ((e : Int) < 5) = true := by simp; omega
            have te2 : decide (e < 5) = true := by simp; omega
            go_wp2_with fail
            apply wp_region_seq (l := [_, _, _, _, _, _, _, _, _, _, _, _, _, _]) (t := []) [some 131, some 132, some 133, some 134, some 135, some 136, some 137, some 138, some 139, some 140, some 141, some 142, some 143, some 144] [[], [], [], [1, 2], [], [4], [], [6], [7], [8], [5, 9], [0, 3, 10], [11], []] [] [eqv _, eqv _, eqv _, (eqv (.string lc)), eqv _, eqv _, eqv _, eqv _, eqv _, eqv _, (eqv (.string (cut30 so))), (slThree), eqv _, eqv _] (by kernel_rfl) (by kernel_rfl) ⟨?o0, ?o1, ?o2, ?o3, ?o4, ?o5, ?o6, ?o7, ?o8, ?o9, ?o10, ?o11, ?o12, ?o13, trivial⟩ ?last
            case o0 => -- Op.move (Operand.tmp 15)
              intro xv W hE _
              simp only [putD, List.foldl_nil, List.getD_cons_zero]
              refine OpGoal.plain ?_
              go_wp2_with fail
              exact ⟨rfl, Ext.refl _, rfl⟩
            case o1 => -- Op.load 27 (Operand.tmp 6)
              intro xv W hE _
              have d0 : W.cell? ⟨w.heap.size + 1, 0, none⟩ = some (.string so) := (hE.old (p := ⟨w.heap.size + 1, 0, none⟩) (by show w.heap.size + 1 < _; simp; omega)).trans cb0
              have d1 : W.cell? ⟨w.heap.size + 1, 1, none⟩ = some (.int .u8 (no : Nat)) := (hE.old (p := ⟨w.heap.size + 1, 1, none⟩) (by show w.heap.size + 1 < _; simp; omega)).trans cb1
              have d2 : W.cell? ⟨w.heap.size + 1, 2, none⟩ = some (.int .u8 (co : Nat)) := (hE.old (p := ⟨w.heap.size + 1, 2, none⟩) (by show w.heap.size + 1 < _; simp; omega)).trans cb2
              simp only [putD, List.foldl_nil, List.getD_cons_zero, List.getD_cons_succ]
              refine OpGoal.plain ?_
              go_wp2_with fail
              exact ⟨rfl, Ext.refl _, rfl⟩
            case o2 => -- Op.move (Operand.tmp 15)
              intro xv W hE _
              simp only [putD, List.foldl_nil, List.getD_cons_zero, List.getD_cons_succ]
              refine OpGoal.plain ?_
              go_wp2_with fail
              exact ⟨rfl, Ext.refl _, rfl⟩
            case o3 => -- Op.call { callee := Callee.value (Operand.func 17), args := #[Operand.tmp 132, O
              intro xv W hE hp
              have r1 : xv 1 = _ := hp.1
              have r2 : xv 2 = _ := hp.2.1
              clear hp
              simp only [putD, List.foldl_nil, List.foldl_cons, List.getD_cons_zero, List.getD_cons_succ, Act.put, List.setIfInBounds_toArray, List.set_cons_zero, List.set_cons_succ]
              refine OpGoal.plain ?_
              go_wp2_with fail
              refine (change_any so no co lf_ W hno hco (by omega)).mono ?_
              rintro e w' ⟨rfl, hb⟩
              rw [hlc]
              go_wp2_with fail
              exact ⟨rfl, hb, rfl⟩
            case o4 => -- Op.fieldAddr 27 (Operand.tmp 6) 0
              intro xv W hE _
              simp only [putD, List.foldl_nil, List.getD_cons_zero, List.getD_cons_succ]
              refine OpGoal.plain ?_
              go_wp2_with fail
              exact ⟨rfl, Ext.refl _, rfl⟩
            case o5 => -- Op.load 9 (Operand.tmp 135)
              intro xv W hE hp
              have r4 : xv 4 = _ := hp.1
              clear hp
              have d0 : W.cell? ⟨w.heap.size + 1, 0, none⟩ = some (.string so) := (hE.old (p := ⟨w.heap.size + 1, 0, none⟩) (by show w.heap.size + 1 < _; simp; omega)).trans cb0
              have d1 : W.cell? ⟨w.heap.size + 1, 1, none⟩ = some (.int .u8 (no : Nat)) := (hE.old (p := ⟨w.heap.size + 1, 1, none⟩) (by show w.heap.size + 1 < _; simp; omega)).trans cb1
              have d2 : W.cell? ⟨w.heap.size + 1, 2, none⟩ = some (.int .u8 (co : Nat)) := (hE.old (p := ⟨w.heap.size + 1, 2, none⟩) (by show w.heap.size + 1 < _; simp; omega)).trans cb2
              simp only [putD, List.foldl_nil, List.foldl_cons, List.getD_cons_zero, List.getD_cons_succ, Act.put, List.setIfInBounds_toArray, List.set_cons_zero, List.set_cons_succ]
              refine OpGoal.plain ?_
              go_wp2_with fail
              exact ⟨rfl, Ext.refl _, rfl⟩
            case o6 => -- Op.fieldAddr 27 (Operand.tmp 6) 0
              intro xv W hE _
              simp only [putD, List.foldl_nil, List.getD_cons_zero, List.getD_cons_succ]
              refine OpGoal.plain ?_
              go_wp2_with fail
              exact ⟨rfl, Ext.refl _, rfl⟩
            case o7 => -- Op.load 9 (Operand.tmp 137)
              intro xv W hE hp
              have r6 : xv 6 = _ := hp.1
              clear hp
              have d0 : W.cell? ⟨w.heap.size + 1, 0, none⟩ = some (.string so) := (hE.old (p := ⟨w.heap.size + 1, 0, none⟩) (by show w.heap.size + 1 < _; simp; omega)).trans cb0
              have d1 : W.cell? ⟨w.heap.size + 1, 1, none⟩ = some (.int .u8 (no : Nat)) := (hE.old (p := ⟨w.heap.size + 1, 1, none⟩) (by show w.heap.size + 1 < _; simp; omega)).trans cb1
              have d2 : W.cell? ⟨w.heap.size + 1, 2, none⟩ = some (.int .u8 (co : Nat)) := (hE.old (p := ⟨w.heap.size + 1, 2, none⟩) (by show w.heap.size + 1 < _; simp; omega)).trans cb2
              simp only [putD, List.foldl_nil, List.foldl_cons, List.getD_cons_zero, List.getD_cons_succ, Act.put, List.setIfInBounds_toArray, List.set_cons_zero, List.set_cons_succ]
              refine OpGoal.plain ?_
              go_wp2_with fail
              exact ⟨rfl, Ext.refl _, rfl⟩
            case o8 => -- Op.call { callee := Callee.builtin Builtin.len, args := #[Operand.tmp 138], argT
              intro xv W hE hp
              have r7 : xv 7 = _ := hp.1
              clear hp
              simp only [putD, List.foldl_nil, List.foldl_cons, List.getD_cons_zero, List.getD_cons_succ, Act.put, List.setIfInBounds_toArray, List.set_cons_zero, List.set_cons_succ]
              refine OpGoal.plain ?_
              go_wp2_with fail
              exact ⟨rfl, Ext.refl _, rfl⟩
            case o9 => -- Op.call { callee := Callee.builtin Builtin.min, args := #[Operand.tmp 139, Opera
              intro xv W hE hp
              have r8 : xv 8 = _ := hp.1
              clear hp
              simp only [putD, List.foldl_nil, List.foldl_cons, List.getD_cons_zero, List.getD_cons_succ, Act.put, List.setIfInBounds_toArray, List.set_cons_zero, List.set_cons_succ]
              refine OpGoal.plain ?_
              go_wp2_with fail
              exact ⟨rfl, Ext.refl _, rfl⟩
            case o10 => -- Op.slice 9 (Operand.tmp 136) none (some (Operand.tmp 140)) none
              intro xv W hE hp
              have r5 : xv 5 = _ := hp.1
              have r9 : xv 9 = _ := hp.2.1
              clear hp
              simp only [putD, List.foldl_nil, List.foldl_cons, List.getD_cons_zero, List.getD_cons_succ, Act.put, List.setIfInBounds_toArray, List.set_cons_zero, List.set_cons_succ]
              refine OpGoal.plain ?_
              go_wp2_with fail
              refine ⟨rfl, Ext.refl _, ?_⟩
              show Value.string _ = Value.string _
              unfold cut30
              rw [show (min (so.size : Int) 30).toNat = min so.size 30 by omega]
            case o11 => -- Op.buildSlice 28 3 #[(0, Operand.tmp 131), (1, Operand.tmp 134), (2, Operand.tmp
              intro xv W hE hp
              have r0 : xv 0 = _ := hp.1
              have r3 : xv 3 = _ := hp.2.1
              have r10 : xv 10 = _ := hp.2.2.1
              clear hp
              simp only [putD, List.foldl_nil, List.foldl_cons, List.getD_cons_zero, List.getD_cons_succ, Act.put, List.setIfInBounds_toArray, List.set_cons_zero, List.set_cons_succ]
              refine OpGoal.plain ?_
              go_wp2_with fail
              exact ⟨rfl, Ext.alloc _ _, W.heap.size, rfl, row3_mk W _ lf_ lc (cut30 so) hlf hlcs hcs⟩
            case o12 => -- Op.call { callee := Callee.builtin Builtin.len, args := #[Operand.tmp 142], argT
              intro xv W hE hp
              obtain ⟨g3, r11, hr3⟩ := hp.1
              clear hp
              simp only [putD, List.foldl_nil, List.foldl_cons, List.getD_cons_zero, List.getD_cons_succ, Act.put, List.setIfInBounds_toArray, List.set_cons_zero, List.set_cons_succ]
              refine OpGoal.plain ?_
              go_wp2_with fail
              exact ⟨rfl, Ext.refl _, rfl⟩
            case o13 => -- Op.move (Operand.const (Value.int IntKind.i64 0))
              intro xv W hE _
              simp only [putD, List.foldl_nil, List.getD_cons_zero, List.getD_cons_succ]
              refine OpGoal.plain ?_
              go_wp2_with fail
              exact ⟨rfl, Ext.refl _, rfl⟩
            case last =>
              intro xv W hE hp
              have r0 : xv 0 = _ := hp.1
              have r1 : xv 1 = _ := hp.2.1
              have r2 : xv 2 = _ := hp.2.2.1
              have r3 : xv 3 = _ := hp.2.2.2.1
              have r4 : xv 4 = _ := hp.2.2.2.2.1
              have r5 : xv 5 = _ := hp.2.2.2.2.2.1
              have r6 : xv 6 = _ := hp.2.2.2.2.2.2.1
              have r7 : xv 7 = _ := hp.2.2.2.2.2.2.2.1
              have r8 : xv 8 = _ := hp.2.2.2.2.2.2.2.2.1
              have r9 : xv 9 = _ := hp.2.2.2.2.2.2.2.2.2.1
              have r10 : xv 10 = _ := hp.2.2.2.2.2.2.2.2.2.2.1
              obtain ⟨g3, r11, hr3⟩ := hp.2.2.2.2.2.2.2.2.2.2.2.1
              have r12 : xv 12 = _ := hp.2.2.2.2.2.2.2.2.2.2.2.2.1
              have r13 : xv 13 = _ := hp.2.2.2.2.2.2.2.2.2.2.2.2.2.1
              clear hp
              simp only [putD, List.foldl_nil, List.foldl_cons, List.getD_cons_zero, List.getD_cons_succ, Act.put, List.length_cons, List.length_nil, List.range_succ, List.range_zero, List.nil_append, List.cons_append, List.setIfInBounds_toArray, List.set_cons_zero, List.set_cons_succ]
              have hEW : Ext wr W := (Ext.drew wr).trans hE
              rw [r11, r12, r13]
              clear r0 r1 r2 r3 r4 r5 r6 r7 r8 r9 r10 r11 r12 r13 cb0 cb1 cb2 cb3
              go_wp2_with fail
              go_loopw [144] (fun vi wv => ∃ f : Nat, f ≤ 3 ∧ vi = .int .i64 f ∧ Ext W wv) (fun vi _ => 3 - (intOf vi).toNat)
              case atStart => exact ⟨0, Nat.zero_le _, rfl, Ext.refl _⟩
              case round =>
                obtain ⟨f, hf, rfl, hE10⟩ := hrel
                by_cases hlt4 : f < 3
                · obtain ⟨hg3, hr3'⟩ := hr3.ext hE10
                  obtain ⟨s, cS, hss⟩ := hr3' f hlt4
                  obtain ⟨hbz, -, -, -, -, cb5⟩ := hB8.ext ((hE9.trans hEW).trans hE10)
                  have sP2 := (sP.below (hEW.trans hE10) (Nat.le_refl _)).more (hEW.trans hE10).sz
                  clear hr3'
                  have tf1 : decide ((f : Int) < 3) = true := by simp; omega
                  have tf2 : decide (f < 3) = true := by simp; omega
                  go_wp2_with fail
                  obtain ⟨w9, hw9⟩ : ∃ w9, wr.alloc (.cells #[.int .i64 (i : Nat), .int .i64 (k : Nat), .int .i64 at_, .int .i64 t] 3) = w9 := ⟨_, rfl⟩
                  have hE11 : Ext wr w9 := by rw [← hw9]; exact Ext.alloc _ _
                  have hr4 : Row4 wr.heap.size w9 := by rw [← hw9]; exact row4_mk wr _ _ _ _ _ (by omega) (by omega) hat (by omega)
                  have sP3 := (sP2.below hE11 (Nat.le_refl _)).more hE11.sz
                  rw [hw9]
                  clear hw9
                  go_loopw [159] (fun vi wv => ∃ h : Nat, h ≤ 4 ∧ vi = .int .i64 h ∧ Ext w9 wv) (fun vi _ => 4 - (intOf vi).toNat)
                  case atStart => exact ⟨0, Nat.zero_le _, rfl, Ext.refl _⟩
                  case round =>
                    obtain ⟨h, hh, rfl, hE12⟩ := hrel
                    by_cases hlt5 : h < 4
                    · obtain ⟨hg4, hr4'⟩ := hr4.ext hE12
                      obtain ⟨iv, cI, hiv⟩ := hr4' h hlt5
                      have sP4 := (sP3.below hE12 (Nat.le_refl _)).more hE12.sz
                      clear hr4'
                      go_wp2_with fail
                      refine (Verify_any rt s iv PA pn pc ps _ sP4 hpn hPs (by omega) hiv).mono ?_
                      rintro e' wa ⟨rfl, kba⟩
                      have hEa : Ext _ wa := kba
                      have sP5 := (sP4.below hEa (Nat.le_refl _)).more hEa.sz
                      go_wp2_with fail
                      refine (rVerify_any rt s iv PA pn pc ps _ sP5 hpn hPs (by omega) hiv).mono ?_
                      rintro e' wb ⟨rfl, kbb⟩
                      generalize ver rt s iv ps = vb
                      go_wp2_with fail
                      go_roundw
                      case rel => exact ⟨h + 1, by omega, by go_num, (hE12.trans hEa).trans kbb⟩
                      case measure => simp [intOf]; omega
                    · obtain rfl : h = 4 := by omega
                      go_wp2_with fail
                      go_roundw
                      case rel => exact ⟨f + 1, by omega, by go_num, (hE10.trans hE11).trans hE12⟩
                      case measure => simp [intOf]; omega
                · obtain rfl : f = 3 := by omega
                  go_wp2_with fail
                  go_roundw
                  case rel => exact ⟨e + 1, by omega, by go_num, (hE9.trans hEW).trans hE10⟩
                  case measure => simp [intOf]; omega
          · obtain rfl : e = 5 := by omega
            go_wp2_with fail
            go_ret
            exact ⟨rfl, hEw8.trans hE9⟩
end Go.Proofs.Ytncdnopnjdbleaa
