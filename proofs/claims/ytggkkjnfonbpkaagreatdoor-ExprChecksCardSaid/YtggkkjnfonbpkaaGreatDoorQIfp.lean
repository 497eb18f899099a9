/- The contract of the reference's Odd (printed by gen_if.py). -/
import Derived.Test.YtggkkjnfonbpkaaGreatDoorQIe
import Derived.Test.YtggkkjnfonbpkaaGreatDoorQXm
import Derived.Test.YtggkkjnfonbpkaaGreatDoorQXj
import Derived.Test.YtggkkjnfonbpkaaGreatDoorQXk
import Derived.Deep.MidRow

set_option linter.unusedSimpArgs false
set_option linter.unusedVariables false
namespace Go.Proofs.YtggkkjnfonbpkaaGreatDoor
open Go.RowKit Hach

abbrev Box7 (W : World) (b : Nat) (op var ty n : Int) (bb : Bool) (s : List UInt8) (v : Value) : Prop := W.cell? ⟨b, 0, none⟩ = some (.int .i64 op) ∧ W.cell? ⟨b, 1, none⟩ = some (.int .i64 var) ∧ W.cell? ⟨b, 2, none⟩ = some (.int .i64 ty) ∧ W.cell? ⟨b, 3, none⟩ = some (.int .i64 n) ∧ W.cell? ⟨b, 4, none⟩ = some (.bool bb) ∧ W.cell? ⟨b, 5, none⟩ = some (.string ⟨s.toArray⟩) ∧ W.cell? ⟨b, 6, none⟩ = some v
def OddR (e : Ex) (w : World) (r : Ending) (w' : World) : Prop := ∃ (x : Ex) (A : Option Addr) (c d : Nat), r = .returned (.agg (x.cells A c).toArray) ∧ ExL w' (fun b => w.heap.size ≤ b ∧ b < w'.heap.size) d A x.l ∧ x.size ≤ 64 * e.size + 63 ∧ x.ok ∧ Ext w w'
/- on the way: the variable holds an expression -/
structure OddS (w wr : World) (bo : Nat) (x : Ex) (A : Option Addr) (c d N : Nat) : Prop where
  inb : InBlk wr bo x (.slice A x.l.length c)
  z : Z7 wr (w.heap.size + 2)
  ext : Ext w wr
  kids : ExL wr (fun k => w.heap.size + 2 < k ∧ k < wr.heap.size ∧ k ≠ bo) d A x.l
  sz : x.size ≤ N
  ok : x.ok
  hbo : w.heap.size + 2 < bo
theorem OddS.chg {w wr wr' : World} {bo : Nat} {x x' : Ex} {A : Option Addr} {c d N : Nat} (h : OddS w wr bo x A c d N) (hg : wr.grownBy wr' (some bo)) (hin : InBlk wr' bo x' (.slice A x'.l.length c)) (hl : x'.l = x.l) (hok : x'.ok) : OddS w wr' bo x' A c d N := by
  have hb := h.hbo
  refine ⟨hin, h.z.own hg (by simp; omega), Below.trans h.ext (below_row' hg h.ext.sz (fun g e => by simp only [Option.some.injEq] at e; omega)), ?_, ?_, hok, hb⟩
  · rw [hl]
    exact (h.kids.keep fun k hk o => grown_cell hg hk.2.1 (by have := hk.2.2; simp; omega) o).more fun k hk => ⟨hk.1, Nat.lt_of_lt_of_le hk.2.1 hg.size, hk.2.2⟩
  · have := h.sz
    rw [x'.size_eq, hl, ← x.size_eq]; exact this
theorem odd_fin {fn : Func} {s : Tmp} (hr : fn.results = #[.cell s 29]) {e : Ex} {w wr : World} {bo : Nat} {x : Ex} {A : Option Addr} {c d : Nat} (h : OddS w wr bo x A c d (64 * e.size + 63)) (n : Nat) (hn : n = x.l.length) {tmps : Array Value} (ht : tmps.getD s undef = .pointer (some ⟨w.heap.size + 2, 0, none⟩)) :
    bodyPost Tryz.prog fn (OddR e w) Exit.ret ⟨tmps, []⟩ (set7 wr (w.heap.size + 2) x (.slice A n c)) := by
  have hG := set7_grown wr (w.heap.size + 2) x (.slice A n c)
  refine fin7 hr x h.z A n c hn ht ⟨x, A, c, d, rfl, ?_, h.sz, h.ok, ?_⟩
  · exact (h.kids.keep fun k hk o => grown_cell hG hk.2.1 (by have := hk.1; simp; omega) o).more fun k hk => ⟨by omega, Nat.lt_of_lt_of_le hk.2.1 hG.size⟩
  · exact Below.trans h.ext (below_row' hG h.ext.sz (fun g e => by simp only [Option.some.injEq] at e; omega))
theorem InBlk.cells' {w : World} {b : Nat} {op var ty n : Int} {bb : Bool} {s : List UInt8} {l : List Ex} {v : Value} (h : InBlk w b (.mk op var ty n bb s l) v) : w.cell? ⟨b, 0, none⟩ = some (.int .i64 op) ∧ w.cell? ⟨b, 1, none⟩ = some (.int .i64 var) ∧ w.cell? ⟨b, 2, none⟩ = some (.int .i64 ty) ∧ w.cell? ⟨b, 3, none⟩ = some (.int .i64 n) ∧ w.cell? ⟨b, 4, none⟩ = some (.bool bb) ∧ w.cell? ⟨b, 5, none⟩ = some (.string ⟨s.toArray⟩) ∧ w.cell? ⟨b, 6, none⟩ = some v := h.cells
theorem InBlk.set0 {w : World} {b : Nat} {op var ty n : Int} {bb : Bool} {s : List UInt8} {l : List Ex} {v : Value} (h : InBlk w b (.mk op var ty n bb s l) v) (o : Int) : InBlk (w.setCell ⟨b, 0, none⟩ (.int .i64 o)) b (.mk o var ty n bb s l) v := by
  have h' : w.heap[b]? = _ := h
  simp [InBlk, World.setCell, Array.getElem?_modify, h', cell7, Ex.op, Ex.var, Ex.ty, Ex.n, Ex.b, Ex.s]
theorem InBlk.set1 {w : World} {b : Nat} {op var ty n : Int} {bb : Bool} {s : List UInt8} {l : List Ex} {v : Value} (h : InBlk w b (.mk op var ty n bb s l) v) (o : Int) : InBlk (w.setCell ⟨b, 1, none⟩ (.int .i64 o)) b (.mk op o ty n bb s l) v := by
  have h' : w.heap[b]? = _ := h
  simp [InBlk, World.setCell, Array.getElem?_modify, h', cell7, Ex.op, Ex.var, Ex.ty, Ex.n, Ex.b, Ex.s]
theorem ok_mk {op var ty n : Int} {bb : Bool} {s : List UInt8} {l : List Ex} {op' var' ty' n' : Int} {bb' : Bool} {s' : List UInt8} (h : (Ex.mk op var ty n bb s l).ok) (h1 : -9223372036854775808 ≤ op' ∧ op' ≤ 9223372036854775807) (h2 : -9223372036854775808 ≤ var' ∧ var' ≤ 9223372036854775807) (h3 : -9223372036854775808 ≤ ty' ∧ ty' ≤ 9223372036854775807) (h4 : -9223372036854775808 ≤ n' ∧ n' ≤ 9223372036854775807) (h5 : s'.length < 1048576) : (Ex.mk op' var' ty' n' bb' s' l).ok := by
  rw [Ex.ok] at h ⊢
  exact ⟨h1, h2, h3, h4, h5, h.2.2.2.2.2⟩
theorem oks_append : ∀ {l m : List Ex}, Ex.oks l → Ex.oks m → Ex.oks (l ++ m)
  | [], _, _, h => h
  | e :: l, m, h, h2 => by rw [List.cons_append]; exact ⟨h.1, oks_append h.2 h2⟩
theorem oks_take : ∀ {l : List Ex} (k : Nat), Ex.oks l → Ex.oks (l.take k)
  | [], k, h => by rw [List.take_nil]; trivial
  | e :: l, 0, h => trivial
  | e :: l, k + 1, h => ⟨h.1, oks_take k h.2⟩
theorem sizes_append : ∀ (l m : List Ex), Ex.sizes (l ++ m) = Ex.sizes l + Ex.sizes m
  | [], m => by simp [Ex.sizes]
  | e :: l, m => by simp only [List.cons_append, Ex.sizes, sizes_append l m]; omega
theorem exl_take {w : World} {S : Nat → Prop} {d : Nat} {A : Option Addr} {l : List Ex} (h : ExL w S d A l) (k : Nat) : ExL w S d A (l.take k) := by
  cases d with
  | zero => rw [show l = [] from h, List.take_nil]; exact rfl
  | succ d =>
    intro hne
    have hl : l ≠ [] := by rintro rfl; simp at hne
    obtain ⟨b, o, e, hS, hx⟩ := h hl
    refine ⟨b, o, e, hS, fun j x hj => hx j x ?_⟩
    have hjl := (List.getElem?_eq_some_iff.1 hj).1
    rw [List.length_take] at hjl
    rw [List.getElem?_take, if_pos (by omega)] at hj
    exact hj
theorem OddS.le {w wr : World} {bo : Nat} {x : Ex} {A : Option Addr} {c d N N' : Nat} (h : OddS w wr bo x A c d N) (hN : N ≤ N') : OddS w wr bo x A c d N' := ⟨h.inb, h.z, h.ext, h.kids, Nat.le_trans h.sz hN, h.ok, h.hbo⟩
theorem own_cap {w : World} {base n c : Nat} {A : Option Addr} {us : List Nd} (h : OwnN w base (.slice A n c) us) : n ≤ c := by
  rcases h.2 with ⟨e, _⟩ | ⟨g, cap, cur, e, _, _, hn, _⟩
  · simp only [Value.slice.injEq] at e; omega
  · simp only [Value.slice.injEq] at e; omega
theorem OwnN.listS {w : World} {base : Nat} {A : Option Addr} {n c : Nat} {us : List Nd} {S : Nat → Prop} {d : Nat} (h : OwnN w base (.slice A n c) us) (hk : Kids w S d us) (hS : ∀ b, (Value.slice A n c).ownBlock = some b → S b) : ExL w S (d + 1) A (us.map (·.x)) ∧ n = us.length := by
  obtain ⟨A', c', e, hf⟩ := h.form
  simp only [Value.slice.injEq] at e
  obtain ⟨rfl, rfl, rfl⟩ := e
  refine ⟨fun hne => ?_, rfl⟩
  have hpos : 0 < us.length := by
    cases us with
    | nil => simp at hne
    | cons u us => simp
  obtain ⟨b, rfl, hb1, hb2, hob, hcell⟩ := hf hpos
  refine ⟨b, 0, rfl, hS b hob, fun j x hj => ?_⟩
  rw [List.getElem?_map] at hj
  cases hu : us[j]? with
  | none => rw [hu] at hj; cases hj
  | some u =>
    rw [hu] at hj
    simp only [Option.map_some, Option.some.injEq] at hj
    subst hj
    refine ⟨u.A, u.c, hk u (List.mem_of_getElem? hu), fun i v hi => ?_⟩
    rw [Nat.zero_add]
    exact hcell j u hu i v hi
abbrev Z7F (W : World) (b : Nat) : Prop := (W.cell? ⟨b, 0, none⟩ = some (.int .i64 0) ∧ W.cell? ⟨b, 1, none⟩ = some (.int .i64 0) ∧ W.cell? ⟨b, 2, none⟩ = some (.int .i64 0) ∧ W.cell? ⟨b, 3, none⟩ = some (.int .i64 0) ∧ W.cell? ⟨b, 4, none⟩ = some (.bool false) ∧ W.cell? ⟨b, 5, none⟩ = some (.string ⟨#[]⟩) ∧ W.cell? ⟨b, 6, none⟩ = some (.slice none 0 0)) ∧ W.frozen? ⟨b, 0, none⟩ = false ∧ W.frozen? ⟨b, 1, none⟩ = false ∧ W.frozen? ⟨b, 2, none⟩ = false ∧ W.frozen? ⟨b, 3, none⟩ = false ∧ W.frozen? ⟨b, 4, none⟩ = false ∧ W.frozen? ⟨b, 5, none⟩ = false ∧ W.frozen? ⟨b, 6, none⟩ = false
theorem OddS.ext' {w wr wr' : World} {bo : Nat} {x : Ex} {A : Option Addr} {c d N : Nat} (h : OddS w wr bo x A c d N) (hE : Ext wr wr') : OddS w wr' bo x A c d N :=
  ⟨h.inb.ext hE, h.z.ext hE, h.ext.trans hE, (h.kids.keep fun k hk o => hE.old (p := ⟨k, o, none⟩) hk.2.1).more fun k hk => ⟨hk.1, Nat.lt_of_lt_of_le hk.2.1 hE.sz, hk.2.2⟩, h.sz, h.ok, h.hbo⟩
theorem InBlk.set6 {w : World} {b : Nat} {op var ty n : Int} {bb : Bool} {s : List UInt8} {l : List Ex} {v : Value} (h : InBlk w b (.mk op var ty n bb s l) v) (l' : List Ex) (u : Value) : InBlk (w.setCell ⟨b, 6, none⟩ u) b (.mk op var ty n bb s l') u := by
  have h' : w.heap[b]? = _ := h
  simp [InBlk, World.setCell, Array.getElem?_modify, h', cell7, Ex.op, Ex.var, Ex.ty, Ex.n, Ex.b, Ex.s]
theorem One.there {W : World} {b o : Nat} {x : Ex} {A : Option Addr} {c : Nat} (h : One W b o x A c) (hf : ∀ j, W.frozen? ⟨b, j, none⟩ = false) : W.there b o 7 := fun j hj => by
  refine ⟨?_, hf _⟩
  rcases (by omega : j = 0 ∨ j = 1 ∨ j = 2 ∨ j = 3 ∨ j = 4 ∨ j = 5 ∨ j = 6) with rfl | rfl | rfl | rfl | rfl | rfl | rfl
  · rw [Nat.add_zero, h.c0]; rfl
  · rw [h.c1]; rfl
  · rw [h.c2]; rfl
  · rw [h.c3]; rfl
  · rw [h.c4]; rfl
  · rw [h.c5]; rfl
  · rw [h.c6]; rfl
/- one element of a row is written anew -/
def set7o (w : World) (b o : Nat) (x : Ex) (v : Value) : World := ((((((w.setCell ⟨b, o, none⟩ (.int .i64 x.op)).setCell ⟨b, o + 1, none⟩ (.int .i64 x.var)).setCell ⟨b, o + 2, none⟩ (.int .i64 x.ty)).setCell ⟨b, o + 3, none⟩ (.int .i64 x.n)).setCell ⟨b, o + 4, none⟩ (.bool x.b)).setCell ⟨b, o + 5, none⟩ (.string ⟨x.s.toArray⟩)).setCell ⟨b, o + 6, none⟩ v
theorem set7o_grown (w : World) (b o : Nat) (x : Ex) (v : Value) : w.grownBy (set7o w b o x v) (some b) :=
  grown_trans (grown_trans (grown_trans (grown_trans (grown_trans (grown_trans (grown_set _ _ _ _) (grown_set _ _ _ _)) (grown_set _ _ _ _)) (grown_set _ _ _ _)) (grown_set _ _ _ _)) (grown_set _ _ _ _)) (grown_set _ _ _ _)
theorem cells_set : ∀ (us : List Nd) (k : Nat) (nd : Nd), k < us.length → (((((((us.map Nd.cells).flatten.set (k * 7) (.int .i64 nd.x.op)).set (k * 7 + 1) (.int .i64 nd.x.var)).set (k * 7 + 2) (.int .i64 nd.x.ty)).set (k * 7 + 3) (.int .i64 nd.x.n)).set (k * 7 + 4) (.bool nd.x.b)).set (k * 7 + 5) (.string ⟨nd.x.s.toArray⟩)).set (k * 7 + 6) (.slice nd.A nd.x.l.length nd.c) = ((us.set k nd).map Nd.cells).flatten
  | [], k, nd, h => by simp at h
  | u :: us, 0, nd, h => by simp [Nd.cells, Ex.cells]
  | u :: us, k + 1, nd, h => by
    have ih := cells_set us k nd (by simpa using h)
    simp only [List.map_cons, List.flatten_cons, List.set_cons_succ]
    rw [← ih]
    have hc : ∀ (L : List Value) (i : Nat) (v : Value), (u.cells ++ L).set ((k + 1) * 7 + i) v = u.cells ++ L.set (k * 7 + i) v := fun L i v => by
      have hl : u.cells.length = 7 := rfl
      rw [List.set_append_right (h := by omega), hl, show (k + 1) * 7 + i - 7 = k * 7 + i by omega]
    have hc0 := hc ((us.map Nd.cells).flatten) 0 (.int .i64 nd.x.op)
    simp only [Nat.add_zero] at hc0
    simp only [hc0, hc]
theorem OwnN.set7 {w : World} {base g n c : Nat} {us : List Nd} (h : OwnN w base (.slice (some ⟨g, 0, none⟩) n c) us) {k : Nat} (hk : k < us.length) (nd : Nd) : OwnN (set7o w g (k * 7) nd.x (.slice nd.A nd.x.l.length nd.c)) base (.slice (some ⟨g, 0, none⟩) n c) (us.set k nd) := by
  have hn : n = us.length := by
    obtain ⟨_, _, e, _⟩ := h.form
    simp only [Value.slice.injEq] at e
    exact e.2.1
  subst hn
  unfold OwnN
  rw [List.length_set, ← cells_set us k nd hk]
  exact (((((((h.stored _ _).1.stored _ _).1.stored _ _).1.stored _ _).1.stored _ _).1.stored _ _).1.stored _ _).1
theorem sizes_set : ∀ (l : List Ex) (k : Nat) (x : Ex) (hk : k < l.length), Ex.sizes (l.set k x) + l[k].size = Ex.sizes l + x.size
  | [], k, x, h => by simp at h
  | e :: l, 0, x, h => by simp [Ex.sizes]; omega
  | e :: l, k + 1, x, h => by
    have := sizes_set l k x (by simpa using h)
    simp only [List.set_cons_succ, Ex.sizes, List.getElem_cons_succ]; omega
theorem oks_set : ∀ (l : List Ex) (k : Nat) (x : Ex), Ex.oks l → x.ok → Ex.oks (l.set k x)
  | [], k, x, h, _ => by simpa using h
  | e :: l, 0, x, h, hx => ⟨hx, h.2⟩
  | e :: l, k + 1, x, h, hx => ⟨h.1, oks_set l k x h.2 hx⟩
theorem oks_at : ∀ {l : List Ex} {k : Nat} (h : k < l.length), Ex.oks l → l[k].ok
  | [], k, h, _ => by simp at h
  | e :: l, 0, _, h => h.1
  | e :: l, k + 1, h, hh => by rw [List.getElem_cons_succ]; exact oks_at (l := l) (by simpa using h) hh.2
def oddSP (lo N : Nat) : SP := ⟨fun v W => ∃ (x : Ex) (A : Option Addr) (c d : Nat), v = .agg #[.int .i64 x.op, .int .i64 x.var, .int .i64 x.ty, .int .i64 x.n, .bool x.b, .string ⟨x.s.toArray⟩, .slice A x.l.length c] ∧ ExL W (fun b => lo ≤ b ∧ b < W.heap.size) d A x.l ∧ x.size ≤ N ∧ x.ok, fun h hE => by
  obtain ⟨x, A, c, d, e, h, h1, h2⟩ := h
  exact ⟨x, A, c, d, e, (h.keep fun b hb o => hE.old (p := ⟨b, o, none⟩) hb.2).more fun b hb => ⟨hb.1, Nat.lt_of_lt_of_le hb.2 hE.sz⟩, h1, h2⟩⟩
/- one element of the variable's row is written anew -/
theorem OddS.put {w w5 W : World} {bo w3z : Nat} {op var ty nn : Int} {bb : Bool} {s : List UInt8} {l : List Ex} {g c d D : Nat} {us : List Nd} (h : OddS w w5 bo (.mk op var ty nn bb s l) (some ⟨g, 0, none⟩) c D (Ex.mk op var ty nn bb s l).size) (hE : Ext w5 W)
    (hO : OwnN w5 w3z (.slice (some ⟨g, 0, none⟩) l.length c) us) (hK : Kids w5 (fun k => w3z ≤ k ∧ k < bo ∧ (Value.slice (some ⟨g, 0, none⟩) l.length c).ownBlock ≠ some k) d us) (hus : us.map (·.x) = l) (hz : w.heap.size + 2 < w3z) (hg : g < bo)
    {k : Nat} (hk : k < l.length) {x : Ex} {A : Option Addr} {cx dx : Nat} (hX : ExL W (fun b => w5.heap.size ≤ b ∧ b < W.heap.size) dx A x.l) (hs : x.size ≤ 64 * l[k].size + 63) (hx : x.ok) (hok : (Ex.mk op var ty nn bb s l).ok) :
    OddS w (set7o W g (k * 7) x (.slice A x.l.length cx)) bo (.mk op var ty nn bb s (l.set k x)) (some ⟨g, 0, none⟩) c (d + dx + 1) (64 * (Ex.mk op var ty nn bb s l).size + 63) := by
  have hG := set7o_grown W g (k * 7) x (.slice A x.l.length cx)
  have hul : us.length = l.length := by rw [← hus, List.length_map]
  have hb5 := h.inb.lt
  have hb := h.hbo
  have hEs := hE.sz
  have hg3 : w3z ≤ g := (hO.lt g rfl).1
  have hOx : OwnN (set7o W g (k * 7) x (.slice A x.l.length cx)) w3z (.slice (some ⟨g, 0, none⟩) l.length c) (us.set k ⟨x, A, cx⟩) := (hO.ext hE).set7 (by omega) ⟨x, A, cx⟩
  have hob : (Value.slice (some ⟨g, 0, none⟩) l.length c).ownBlock = some g := rfl
  have hgs := hG.size
  have hKx : Kids (set7o W g (k * 7) x (.slice A x.l.length cx)) (fun b => w.heap.size + 2 < b ∧ b < (set7o W g (k * 7) x (.slice A x.l.length cx)).heap.size ∧ b ≠ bo) (d + dx) (us.set k ⟨x, A, cx⟩) := by
    intro u hu
    rcases List.mem_or_eq_of_mem_set hu with hu | rfl
    · have h1 := hK u hu
      exact ((((h1.keep fun b hbb o => hE.old (p := ⟨b, o, none⟩) (show b < w5.heap.size by omega)).keep fun b hbb o => grown_cell hG (by omega) (by have := hbb.2.2; rw [hob] at this; exact this) o)).more fun b hbb => ⟨by omega, by omega, by omega⟩).deep (by omega)
    · exact ((hX.keep fun b hbb o => grown_cell hG hbb.2 (by simp; omega) o).more fun b hbb => ⟨by omega, by omega, by omega⟩).deep (by omega)
  obtain ⟨hL, hn⟩ := hOx.listS hKx (fun b hbb => by rw [hob] at hbb; simp only [Option.some.injEq] at hbb; subst hbb; exact ⟨by omega, by omega, by omega⟩)
  rw [List.map_set, hus] at hL
  have hin : InBlk W bo (.mk op var ty nn bb s l) (.slice (some ⟨g, 0, none⟩) l.length c) := h.inb.ext hE
  refine ⟨?_, (h.z.ext hE).own hG (by simp; omega), Below.trans (h.ext.trans hE) (below_row' hG (by have := h.ext.sz; omega) (fun b e => by simp only [Option.some.injEq] at e; omega)), hL, ?_, ?_, hb⟩
  · have := hin.own hG (by simp; omega)
    simp only [Ex.l]
    rw [List.length_set]
    exact this
  · have h1 := sizes_set l k x hk
    have h2 := Ex.size_mem (x := l[k]) (l := l) (List.getElem_mem _)
    rw [Ex.size, Ex.size]; omega
  · rw [Ex.ok] at hok ⊢
    exact ⟨hok.1, hok.2.1, hok.2.2.1, hok.2.2.2.1, hok.2.2.2.2.1, oks_set l k x hok.2.2.2.2.2 hx⟩
end Go.Proofs.YtggkkjnfonbpkaaGreatDoor
