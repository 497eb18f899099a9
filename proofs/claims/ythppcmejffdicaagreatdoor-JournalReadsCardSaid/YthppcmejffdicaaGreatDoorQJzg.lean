/- The contracts of strings.trieNode's add, at the nodes that the replacer that shows makes. -/
import Derived.Test.YthppcmejffdicaaGreatDoorQD

set_option linter.unusedSimpArgs false
set_option linter.unusedVariables false
namespace Go.Proofs.YthppcmejffdicaaGreatDoor
open Go.RowKit Hach Num Jn

/- of the blocks that lay, only those of S have turned -/
structure Upd (S : List Nat) (w w' : World) : Prop where
  os : w'.os = w.os
  tape : w'.tape = w.tape
  output : w'.output = w.output
  size : w.heap.size ≤ w'.heap.size
  block : ∀ k, k < w.heap.size → k ∉ S → w'.heap[k]? = w.heap[k]?
theorem Upd.refl (S : List Nat) (w : World) : Upd S w w := ⟨rfl, rfl, rfl, Nat.le_refl _, fun _ _ _ => rfl⟩
theorem Upd.trans {S : List Nat} {a b c : World} (h : Upd S a b) (k : Upd S b c) : Upd S a c :=
  ⟨k.os.trans h.os, k.tape.trans h.tape, k.output.trans h.output, Nat.le_trans h.size k.size, fun i hi hS => (k.block i (Nat.lt_of_lt_of_le hi h.size) hS).trans (h.block i hi hS)⟩
theorem Upd.more {S S' : List Nat} {a b : World} (h : Upd S a b) (hS : ∀ k ∈ S, k ∈ S' ∨ a.heap.size ≤ k) : Upd S' a b :=
  ⟨h.os, h.tape, h.output, h.size, fun i hi h' => h.block i hi fun hm => (hS i hm).elim h' fun hge => by omega⟩
theorem Upd.ext {a b : World} (S : List Nat) (h : Ext a b) : Upd S a b := ⟨h.os, h.tape, h.output, h.size, fun k hk _ => h.block k hk⟩
theorem Upd.set (S : List Nat) (w : World) {b : Nat} (hb : b ∈ S) (i : Nat) (v : Value) : Upd S w (w.setCell ⟨b, i, none⟩ v) :=
  ⟨rfl, rfl, rfl, Nat.le_of_eq (setCell_size _ _ _).symm, fun k _ hk => Below.heap_setCell _ _ _ _ (by rintro rfl; exact hk hb)⟩
theorem Upd.below {S : List Nat} {a b : World} {B : Nat} (h : Upd S a b) (hB : B ≤ a.heap.size) (hS : ∀ k ∈ S, B ≤ k) : Below B a b :=
  ⟨h.os, h.tape, h.output, h.size, fun k hk => h.block k (by omega) fun hm => by have := hS k hm; omega⟩
theorem Upd.cell {S : List Nat} {a b : World} (h : Upd S a b) {p : Addr} (hl : p.block < a.heap.size) (hp : p.block ∉ S) : b.cell? p = a.cell? p := World.cell?_of_block (w := a) (h.block _ hl hp)
theorem Upd.frozen {S : List Nat} {a b : World} (h : Upd S a b) {p : Addr} (hl : p.block < a.heap.size) (hp : p.block ∉ S) : b.frozen? p = a.frozen? p := World.frozen?_of_block (w := a) (h.block _ hl hp)

/- a node of the trie -/
structure Nd (w : World) (a : Nat) (val : ByteArray) (prio : Int) (pre : ByteArray) (nx : Option Addr) (tab : Value) : Prop where
  row : ∃ t, w.heap[a]? = some (.cells #[.string val, .int .i64 prio, .string pre, .pointer nx, tab] t (0, 0))
section
variable {w w' : World} {a : Nat} {val pre : ByteArray} {prio : Int} {nx : Option Addr} {tab : Value}
theorem Nd.lt (h : Nd w a val prio pre nx tab) : a < w.heap.size := by obtain ⟨t, h⟩ := h.row; exact (Array.getElem?_eq_some_iff.1 h).1
theorem Nd.cell (h : Nd w a val prio pre nx tab) : w.cell? ⟨a, 0, none⟩ = some (.string val) ∧ w.cell? ⟨a, 1, none⟩ = some (.int .i64 prio) ∧ w.cell? ⟨a, 2, none⟩ = some (.string pre) ∧ w.cell? ⟨a, 3, none⟩ = some (.pointer nx) ∧ w.cell? ⟨a, 4, none⟩ = some tab := by
  obtain ⟨t, h⟩ := h.row
  refine ⟨?_, ?_, ?_, ?_, ?_⟩ <;> simp [World.cell?, h]
theorem Nd.fz (h : Nd w a val prio pre nx tab) (i : Nat) : w.frozen? ⟨a, i, none⟩ = false := by
  obtain ⟨t, h⟩ := h.row
  simp [World.frozen?, h]
theorem Nd.set0 (h : Nd w a val prio pre nx tab) (v : ByteArray) : Nd (w.setCell ⟨a, 0, none⟩ (.string v)) a v prio pre nx tab := by
  obtain ⟨t, h⟩ := h.row
  exact ⟨t, by simp [World.setCell, Array.getElem?_modify, h]⟩
theorem Nd.set1 (h : Nd w a val prio pre nx tab) (v : Int) : Nd (w.setCell ⟨a, 1, none⟩ (.int .i64 v)) a val v pre nx tab := by
  obtain ⟨t, h⟩ := h.row
  exact ⟨t, by simp [World.setCell, Array.getElem?_modify, h]⟩
theorem Nd.set2 (h : Nd w a val prio pre nx tab) (v : ByteArray) : Nd (w.setCell ⟨a, 2, none⟩ (.string v)) a val prio v nx tab := by
  obtain ⟨t, h⟩ := h.row
  exact ⟨t, by simp [World.setCell, Array.getElem?_modify, h]⟩
theorem Nd.set3 (h : Nd w a val prio pre nx tab) (v : Option Addr) : Nd (w.setCell ⟨a, 3, none⟩ (.pointer v)) a val prio pre v tab := by
  obtain ⟨t, h⟩ := h.row
  exact ⟨t, by simp [World.setCell, Array.getElem?_modify, h]⟩
theorem Nd.set4 (h : Nd w a val prio pre nx tab) (v : Value) : Nd (w.setCell ⟨a, 4, none⟩ v) a val prio pre nx v := by
  obtain ⟨t, h⟩ := h.row
  exact ⟨t, by simp [World.setCell, Array.getElem?_modify, h]⟩
theorem Nd.of_block (h : Nd w a val prio pre nx tab) (e : w'.heap[a]? = w.heap[a]?) : Nd w' a val prio pre nx tab := by obtain ⟨t, h⟩ := h.row; exact ⟨t, e.trans h⟩
theorem Nd.upd {S : List Nat} (h : Nd w a val prio pre nx tab) (hU : Upd S w w') (hS : a ∉ S) : Nd w' a val prio pre nx tab := h.of_block (hU.block _ h.lt hS)
theorem Nd.new (w : World) (t : TypeId) : Nd (w.alloc (.cells #[.string ⟨#[]⟩, .int .i64 0, .string ⟨#[]⟩, .pointer none, .slice none 0 0] t)) w.heap.size ⟨#[]⟩ 0 ⟨#[]⟩ none (.slice none 0 0) := ⟨t, Array.getElem?_push_size⟩
end

set_option maxRecDepth 100000 in
set_option maxHeartbeats 1000000 in
theorem add_empty (a : Nat) (v : ByteArray) (p : Int) (r : Value) (w : World) (h : Nd w a ⟨#[]⟩ 0 ⟨#[]⟩ none (.slice none 0 0)) :
    Calls Tryz.prog 113 #[.pointer (some ⟨a, 0, none⟩), .string ⟨#[]⟩, .string v, .int .i64 p, r] w fun e w' => e = .returned (.tuple #[]) ∧ Nd w' a v p ⟨#[]⟩ none (.slice none 0 0) ∧ Upd [a] w w' := by
  obtain ⟨c0, c1, c2, c3, c4⟩ := h.cell
  have z0 := h.fz 0
  have z1 := h.fz 1
  go_enter Tryz.func113, Tryz.ntmps113
  go_wp2_with fail
  refine bodyPost_ret (results_none rfl _ _ _) rfl ?_
  exact ⟨rfl, (h.set0 v).set1 p, (Upd.set [a] w (by simp) 0 _).trans (Upd.set [a] _ (by simp) 1 _)⟩

set_option maxRecDepth 100000 in
set_option maxHeartbeats 1000000 in
theorem add_leaf (a : Nat) (key v : ByteArray) (hkey : key.toList ≠ []) (p : Int) (r : Value) (w : World) (h : Nd w a ⟨#[]⟩ 0 ⟨#[]⟩ none (.slice none 0 0)) :
    Calls Tryz.prog 113 #[.pointer (some ⟨a, 0, none⟩), .string key, .string v, .int .i64 p, r] w fun e w' => e = .returned (.tuple #[]) ∧ ∃ b, w.heap.size ≤ b ∧ Nd w' a ⟨#[]⟩ 0 key (some ⟨b, 0, none⟩) (.slice none 0 0) ∧ Nd w' b v p ⟨#[]⟩ none (.slice none 0 0) ∧ Upd [a] w w' := by
  obtain ⟨c0, c1, c2, c3, c4⟩ := h.cell
  have z2 := h.fz 2
  have z3 := h.fz 3
  have hl := h.lt
  have k1 : (key.toList == []) = false := by simpa using hkey
  go_enter Tryz.func113, Tryz.ntmps113
  go_wp2_with fail
  have hs : ((w.setCell ⟨a, 2, none⟩ (.string key)).setCell ⟨a, 3, none⟩ (.pointer (some ⟨w.heap.size, 0, none⟩))).heap.size = w.heap.size := (setCell_size _ _ _).trans (setCell_size _ _ _)
  have hA : Nd ((w.setCell ⟨a, 2, none⟩ (.string key)).setCell ⟨a, 3, none⟩ (.pointer (some ⟨w.heap.size, 0, none⟩))) a ⟨#[]⟩ 0 key (some ⟨w.heap.size, 0, none⟩) (.slice none 0 0) := (h.set2 key).set3 _
  have hU0 : Upd [a] w ((w.setCell ⟨a, 2, none⟩ (.string key)).setCell ⟨a, 3, none⟩ (.pointer (some ⟨w.heap.size, 0, none⟩))) := (Upd.set [a] w (by simp) 2 _).trans (Upd.set [a] _ (by simp) 3 _)
  generalize (w.setCell ⟨a, 2, none⟩ (.string key)).setCell ⟨a, 3, none⟩ (.pointer (some ⟨w.heap.size, 0, none⟩)) = V at *
  have hn := Nd.new V 167
  rw [hs] at hn
  refine (add_empty w.heap.size v p r _ hn).mono ?_
  rintro e w1 ⟨rfl, hB, hU⟩
  go_wp2_with fail
  go_end0
  have hE : Upd [w.heap.size] V w1 := (Upd.ext _ (Ext.alloc V _)).trans hU
  exact ⟨rfl, w.heap.size, Nat.le_refl _, hA.upd hE (by simp; omega), hB, hU0.trans (hE.more fun k hk => by simp at hk; subst hk; exact .inr (by omega))⟩

theorem infoP : (Tryz.prog.info? 164).map (fun i => (i.zero, i.size, i.bytes)) = some (some (.pointer none), 1, 8) := by kernel_rfl
theorem make22 (w : World) : (Instr.makeSlice 165 (.int .i64 2) (.int .i64 2)).run Tryz.prog w = .ok (.slice (some ⟨w.heap.size, 0, none⟩) 2 2) (w.alloc (.cells #[.pointer none, .pointer none] 164)) := by
  obtain ⟨i0, hi, hz0, hz1, hz2⟩ := info_parts infoP
  have h := run_make (P := Tryz.prog) w 165 164 i0 (.pointer none) Tryz.underlying165 hi hz0 .i64 .i64 2 2 (by omega) (by omega) (by rw [hz2]; omega) (by omega)
  rw [hz1, show (Int.toNat 2 * 1) = 2 from rfl, show (Value.pointer none).cells = #[.pointer none] from rfl, made2] at h
  exact h

/- between the steps of the split -/
structure SpW (w W : World) (a b c t g : Nat) (x y : Option Addr) : Prop where
  na : Nd W a ⟨#[]⟩ 0 ⟨#[92]⟩ (some ⟨b, 0, none⟩) (.slice (some ⟨t, 0, none⟩) 2 2)
  nc : Nd W c ⟨#[]⟩ 0 ⟨#[]⟩ none (.slice none 0 0)
  ht : ∃ T, W.heap[t]? = some (.cells #[.pointer x, .pointer y] T (0, 0))
  gl : g < w.heap.size
  g5 : W.cell? ⟨g, 5, none⟩ = some (.int .i64 2)
  g98 : W.cell? ⟨g, 98, none⟩ = some (.int .u8 0)
  g116 : W.cell? ⟨g, 116, none⟩ = some (.int .u8 1)
  up : Upd [a] w W
  al : a < w.heap.size
  ct : w.heap.size ≤ c ∧ w.heap.size ≤ t ∧ c ≠ t
theorem SpW.tl {w W : World} {a b c t g : Nat} {x y : Option Addr} (h : SpW w W a b c t g x y) : t < W.heap.size := by obtain ⟨T, h⟩ := h.ht; exact (Array.getElem?_eq_some_iff.1 h).1
theorem SpW.tc {w W : World} {a b c t g : Nat} {x y : Option Addr} (h : SpW w W a b c t g x y) : W.cell? ⟨t, 0, none⟩ = some (.pointer x) ∧ W.cell? ⟨t, 1, none⟩ = some (.pointer y) ∧ ∀ i, W.frozen? ⟨t, i, none⟩ = false := by
  obtain ⟨T, h⟩ := h.ht
  exact ⟨by simp [World.cell?, h], by simp [World.cell?, h], fun i => by simp [World.frozen?, h]⟩
theorem SpW.ext {w W W' : World} {a b c t g : Nat} {x y : Option Addr} (h : SpW w W a b c t g x y) (hE : Ext W W') : SpW w W' a b c t g x y := by
  have hgl : g < W.heap.size := Nat.lt_of_lt_of_le h.gl h.up.size
  have htl := h.tl
  obtain ⟨T, ht⟩ := h.ht
  exact ⟨h.na.of_block (Below.block hE _ h.na.lt), h.nc.of_block (Below.block hE _ h.nc.lt), ⟨T, (Below.block hE _ htl).trans ht⟩, h.gl, (hE.old (p := ⟨g, 5, none⟩) hgl).trans h.g5, (hE.old (p := ⟨g, 98, none⟩) hgl).trans h.g98, (hE.old (p := ⟨g, 116, none⟩) hgl).trans h.g116,
    h.up.trans (Upd.ext _ hE), h.al, h.ct⟩
theorem SpW.set0 {w W : World} {a b c t g : Nat} {x y : Option Addr} (h : SpW w W a b c t g x y) (z : Option Addr) : SpW w (W.setCell ⟨t, 0, none⟩ (.pointer z)) a b c t g z y := by
  have hc := h.ct
  have ha := h.al
  have hg := h.gl
  have hU : Upd [t] W (W.setCell ⟨t, 0, none⟩ (.pointer z)) := Upd.set _ _ (by simp) _ _
  have hgl : g < W.heap.size := Nat.lt_of_lt_of_le h.gl h.up.size
  obtain ⟨T, ht⟩ := h.ht
  exact ⟨h.na.upd hU (by simp; omega), h.nc.upd hU (by simp; omega), ⟨T, by simp [World.setCell, Array.getElem?_modify, ht]⟩, h.gl, (hU.cell (p := ⟨g, 5, none⟩) hgl (by simp; omega)).trans h.g5, (hU.cell (p := ⟨g, 98, none⟩) hgl (by simp; omega)).trans h.g98, (hU.cell (p := ⟨g, 116, none⟩) hgl (by simp; omega)).trans h.g116,
    ⟨hU.os.trans h.up.os, hU.tape.trans h.up.tape, hU.output.trans h.up.output, Nat.le_trans h.up.size hU.size, fun k hk hn => (hU.block k (Nat.lt_of_lt_of_le hk h.up.size) (by simp; omega)).trans (h.up.block k hk hn)⟩, h.al, h.ct⟩
theorem SpW.set1 {w W : World} {a b c t g : Nat} {x y : Option Addr} (h : SpW w W a b c t g x y) (z : Option Addr) : SpW w (W.setCell ⟨t, 1, none⟩ (.pointer z)) a b c t g x z := by
  have hc := h.ct
  have ha := h.al
  have hg := h.gl
  have hU : Upd [t] W (W.setCell ⟨t, 1, none⟩ (.pointer z)) := Upd.set _ _ (by simp) _ _
  have hgl : g < W.heap.size := Nat.lt_of_lt_of_le h.gl h.up.size
  obtain ⟨T, ht⟩ := h.ht
  exact ⟨h.na.upd hU (by simp; omega), h.nc.upd hU (by simp; omega), ⟨T, by simp [World.setCell, Array.getElem?_modify, ht]⟩, h.gl, (hU.cell (p := ⟨g, 5, none⟩) hgl (by simp; omega)).trans h.g5, (hU.cell (p := ⟨g, 98, none⟩) hgl (by simp; omega)).trans h.g98, (hU.cell (p := ⟨g, 116, none⟩) hgl (by simp; omega)).trans h.g116,
    ⟨hU.os.trans h.up.os, hU.tape.trans h.up.tape, hU.output.trans h.up.output, Nat.le_trans h.up.size hU.size, fun k hk hn => (hU.block k (Nat.lt_of_lt_of_le hk h.up.size) (by simp; omega)).trans (h.up.block k hk hn)⟩, h.al, h.ct⟩
theorem split_world {w V : World} {a b g : Nat} (hE : Ext w V) (h : Nd V a ⟨#[]⟩ 0 ⟨#[92]⟩ (some ⟨b, 0, none⟩) (.slice none 0 0)) (ha : a < w.heap.size) (hg : g < w.heap.size) (hga : g ≠ a)
    (g5 : V.cell? ⟨g, 5, none⟩ = some (.int .i64 2)) (g98 : V.cell? ⟨g, 98, none⟩ = some (.int .u8 0)) (g116 : V.cell? ⟨g, 116, none⟩ = some (.int .u8 1)) (t1 t2 : TypeId) :
    SpW w (((V.setCell ⟨a, 4, none⟩ (.slice (some ⟨V.heap.size + 1, 0, none⟩) 2 2)).alloc (.cells #[.string ⟨#[]⟩, .int .i64 0, .string ⟨#[]⟩, .pointer none, .slice none 0 0] t1)).alloc (.cells #[.pointer none, .pointer none] t2)) a b V.heap.size (V.heap.size + 1) g none none := by
  have hz := hE.sz
  have s1 := setCell_size V ⟨a, 4, none⟩ (.slice (some ⟨V.heap.size + 1, 0, none⟩) 2 2)
  have hU : Upd [a] V (V.setCell ⟨a, 4, none⟩ (.slice (some ⟨V.heap.size + 1, 0, none⟩) 2 2)) := Upd.set _ _ (by simp) _ _
  have n1 := h.set4 (.slice (some ⟨V.heap.size + 1, 0, none⟩) 2 2)
  generalize V.setCell ⟨a, 4, none⟩ (.slice (some ⟨V.heap.size + 1, 0, none⟩) 2 2) = X at *
  have n2 := Nd.new X t1
  have e1 := Ext.alloc X (.cells #[.string ⟨#[]⟩, .int .i64 0, .string ⟨#[]⟩, .pointer none, .slice none 0 0] t1)
  have s2 : (X.alloc (.cells #[.string ⟨#[]⟩, .int .i64 0, .string ⟨#[]⟩, .pointer none, .slice none 0 0] t1)).heap.size = X.heap.size + 1 := Array.size_push _
  generalize X.alloc (.cells #[.string ⟨#[]⟩, .int .i64 0, .string ⟨#[]⟩, .pointer none, .slice none 0 0] t1) = Y at *
  have e2 := Ext.alloc Y (.cells #[.pointer none, .pointer none] t2)
  have n3 : (Y.alloc (.cells #[.pointer none, .pointer none] t2)).heap[Y.heap.size]? = some (.cells #[.pointer none, .pointer none] t2) := Array.getElem?_push_size
  generalize Y.alloc (.cells #[.pointer none, .pointer none] t2) = Z at *
  have hU2 : Upd [a] V Z := hU.trans (Upd.ext _ (e1.trans e2))
  rw [s2, s1] at n3
  rw [s1] at n2
  have hgl : g < V.heap.size := by omega
  exact ⟨n1.of_block ((Below.block e2 _ (by omega)).trans (Below.block e1 _ (by omega))), n2.of_block (Below.block e2 _ (by omega)), ⟨t2, n3⟩, hg, (hU2.cell (p := ⟨g, 5, none⟩) hgl (by simpa using hga)).trans g5, (hU2.cell (p := ⟨g, 98, none⟩) hgl (by simpa using hga)).trans g98, (hU2.cell (p := ⟨g, 116, none⟩) hgl (by simpa using hga)).trans g116,
    (Upd.ext _ hE).trans hU2, ha, by omega⟩

set_option maxRecDepth 100000 in
set_option maxHeartbeats 2000000 in
theorem add_split (a b g : Nat) (v : ByteArray) (p : Int) (w : World) (h : Nd w a ⟨#[]⟩ 0 ⟨#[92]⟩ (some ⟨b, 0, none⟩) (.slice none 0 0)) (hg : g < w.heap.size) (hga : g ≠ a)
    (g5 : w.cell? ⟨g, 5, none⟩ = some (.int .i64 2)) (g92 : w.cell? ⟨g, 98, none⟩ = some (.int .u8 0)) (g110 : w.cell? ⟨g, 116, none⟩ = some (.int .u8 1)) :
    Calls Tryz.prog 113 #[.pointer (some ⟨a, 0, none⟩), .string ⟨#[110]⟩, .string v, .int .i64 p, .pointer (some ⟨g, 0, none⟩)] w fun e w' => e = .returned (.tuple #[]) ∧ ∃ t c T, w.heap.size ≤ t ∧ w.heap.size ≤ c ∧
      Nd w' a ⟨#[]⟩ 0 ⟨#[]⟩ none (.slice (some ⟨t, 0, none⟩) 2 2) ∧ w'.heap[t]? = some (.cells #[.pointer (some ⟨b, 0, none⟩), .pointer (some ⟨c, 0, none⟩)] T (0, 0)) ∧ Nd w' c v p ⟨#[]⟩ none (.slice none 0 0) ∧ Upd [a] w w' := by
  obtain ⟨c0, c1, c2, c3, c4⟩ := h.cell
  have z := fun i => h.fz i
  have hl := h.lt
  have hb110 : ∀ h : 0 < (⟨#[110]⟩ : ByteArray).size, (⟨#[110]⟩ : ByteArray)[0]'h = 110 := fun _ => rfl
  have hb92 : ∀ h : 0 < (⟨#[92]⟩ : ByteArray).size, (⟨#[92]⟩ : ByteArray)[0]'h = 92 := fun _ => rfl
  have hmk := make22
  go_enter Tryz.func113, Tryz.ntmps113
  go_wp2_with fail
  go_loopw [10] (fun n wr => n = .int .i64 0 ∧ wr = w) (fun _ _ => 0)
  case atStart => exact ⟨rfl, rfl⟩
  case round =>
    obtain ⟨rfl, hw⟩ := hrel
    subst hw
    rename World => w
    go_wp2_with fail
    apply wp_region_seq (l := [_, _, _, _, _, _, _, _, _]) (t := [_]) [some 50, some 51, some 52, some 53, some 54, some 55, some 56, some 57, some 58, some 59] [[], [0], [1], [2], [], [3, 4], [], [], [6, 7], [5, 8]] [1, 2, 3, 5, 5, 9, 8, 8, 9] [eqv _, eqv _, eqv _, eqv _, eqv _, eqv _, eqv _, eqv _, eqv _] (by kernel_rfl) (by kernel_rfl) ⟨?o0, ?o1, ?o2, ?o3, ?o4, ?o5, ?o6, ?o7, ?o8, trivial⟩ ?last
    case o0 => -- Op.move (Operand.tmp 0)
      intro xv V hE _
      simp only [putD, List.foldl_nil, List.getD_cons_zero]
      refine OpGoal.plain ?_
      go_wp2_with fail
      exact ⟨rfl, Ext.refl _, rfl⟩
    case o1 => -- Op.nilCheck (Operand.tmp 50)
      intro xv V hE hp
      have r0 : xv 0 = _ := hp.1
      clear hp
      simp only [putD, List.foldl_nil, List.foldl_cons, List.getD_cons_zero, List.getD_cons_succ, Act.put, List.setIfInBounds_toArray, List.set_cons_zero, List.set_cons_succ]
      refine OpGoal.plain ?_
      go_wp2_with fail
      exact ⟨rfl, Ext.refl _, rfl⟩
    case o2 => -- Op.fieldAddr 167 (Operand.tmp 51) 2
      intro xv V hE hp
      have r1 : xv 1 = _ := hp.1
      clear hp
      simp only [putD, List.foldl_nil, List.foldl_cons, List.getD_cons_zero, List.getD_cons_succ, Act.put, List.setIfInBounds_toArray, List.set_cons_zero, List.set_cons_succ]
      refine OpGoal.plain ?_
      go_wp2_with fail
      exact ⟨rfl, Ext.refl _, rfl⟩
    case o3 => -- Op.load 9 (Operand.tmp 52)
      intro xv V hE hp
      have r2 : xv 2 = _ := hp.1
      clear hp
      have k2 := ((Ext.drew w).trans hE).old (p := ⟨a, 2, none⟩) hl |>.trans c2
      simp only [putD, List.foldl_nil, List.foldl_cons, List.getD_cons_zero, List.getD_cons_succ, Act.put, List.setIfInBounds_toArray, List.set_cons_zero, List.set_cons_succ]
      refine OpGoal.plain ?_
      go_wp2_with fail
      exact ⟨rfl, Ext.refl _, rfl⟩
    case o4 => -- Op.move (Operand.tmp 10)
      intro xv V hE _
      simp only [putD, List.foldl_nil, List.getD_cons_zero, List.getD_cons_succ]
      refine OpGoal.plain ?_
      go_wp2_with fail
      exact ⟨rfl, Ext.refl _, rfl⟩
    case o5 => -- Op.index 9 (Operand.tmp 53) (Operand.tmp 54)
      intro xv V hE hp
      have r3 : xv 3 = _ := hp.1
      have r4 : xv 4 = _ := hp.2.1
      clear hp
      simp only [putD, List.foldl_nil, List.foldl_cons, List.getD_cons_zero, List.getD_cons_succ, Act.put, List.setIfInBounds_toArray, List.set_cons_zero, List.set_cons_succ]
      refine OpGoal.plain ?_
      go_wp2_with fail
      exact ⟨rfl, Ext.refl _, rfl⟩
    case o6 => -- Op.move (Operand.tmp 1)
      intro xv V hE _
      simp only [putD, List.foldl_nil, List.getD_cons_zero, List.getD_cons_succ]
      refine OpGoal.plain ?_
      go_wp2_with fail
      exact ⟨rfl, Ext.refl _, rfl⟩
    case o7 => -- Op.move (Operand.tmp 10)
      intro xv V hE _
      simp only [putD, List.foldl_nil, List.getD_cons_zero, List.getD_cons_succ]
      refine OpGoal.plain ?_
      go_wp2_with fail
      exact ⟨rfl, Ext.refl _, rfl⟩
    case o8 => -- Op.index 9 (Operand.tmp 56) (Operand.tmp 57)
      intro xv V hE hp
      have r6 : xv 6 = _ := hp.1
      have r7 : xv 7 = _ := hp.2.1
      clear hp
      simp only [putD, List.foldl_nil, List.foldl_cons, List.getD_cons_zero, List.getD_cons_succ, Act.put, List.setIfInBounds_toArray, List.set_cons_zero, List.set_cons_succ]
      refine OpGoal.plain ?_
      go_wp2_with fail
      exact ⟨rfl, Ext.refl _, rfl⟩
    case last =>
      intro xv V hE hp
      have r0 : xv 0 = _ := hp.1
      have r1 : xv 1 = _ := hp.2.1
      have r2 : xv 2 = _ := hp.2.2.1
      have r3 : xv 3 = _ := hp.2.2.2.1
      have r4 : xv 4 = _ := hp.2.2.2.2.1
      have r5 : xv 5 = _ := hp.2.2.2.2.2.1
      have r6 : xv 6 = _ := hp.2.2.2.2.2.2.1
      have r7 : xv 7 = _ := hp.2.2.2.2.2.2.2.1
      have r8 : xv 8 = _ := hp.2.2.2.2.2.2.2.2.1
      clear hp
      simp only [putD, List.foldl_nil, List.foldl_cons, List.getD_cons_zero, List.getD_cons_succ, Act.put, List.length_cons, List.length_nil, List.range_succ, List.range_zero, List.nil_append, List.cons_append, List.setIfInBounds_toArray, List.set_cons_zero, List.set_cons_succ]
      have hW := (Ext.drew w).trans hE
      have d2 := (hW.old (p := ⟨a, 2, none⟩) hl).trans c2
      have d3 := (hW.old (p := ⟨a, 3, none⟩) hl).trans c3
      have d4 := (hW.old (p := ⟨a, 4, none⟩) hl).trans c4
      have y5 := (hW.old (p := ⟨g, 5, none⟩) hg).trans g5
      have y92 := (hW.old (p := ⟨g, 98, none⟩) hg).trans g92
      have y110 := (hW.old (p := ⟨g, 116, none⟩) hg).trans g110
      have hgV : g < V.heap.size := Nat.lt_of_lt_of_le hg hW.sz
      have haV : a < V.heap.size := Nat.lt_of_lt_of_le hl hW.sz
      have zV := fun i => (show Nd V a _ _ _ _ _ from h.of_block (Below.block hW a hl)).fz i
      have h' : Nd V a _ _ _ _ _ := h.of_block (Below.block hW a hl)
      go_wp2_with fail
      have F := split_world (w := w) hW h' hl hg hga y5 y92 y110 167 164
      generalize ((V.setCell ⟨a, 4, none⟩ (.slice (some ⟨V.heap.size + 1, 0, none⟩) 2 2)).alloc (.cells #[.string ⟨#[]⟩, .int .i64 0, .string ⟨#[]⟩, .pointer none, .slice none 0 0] 167)).alloc (.cells #[.pointer none, .pointer none] 164) = W1 at F ⊢
      generalize V.heap.size + 1 = t at F ⊢
      generalize V.heap.size = c at F hgV haV ⊢
      clear d2 d3 d4 y5 y92 y110 h' zV hgV haV hW
      apply wp_region_seq (l := [_, _, _, _, _, _, _, _, _, _, _, _, _, _, _]) (t := [_, _]) [some 110, some 111, some 112, some 113, some 114, some 115, some 116, some 117, some 118, some 119, some 120, some 121, some 122, some 123, some 124, some 125, none] [[], [0], [1], [2], [], [], [5], [6], [7], [8], [4], [10], [9, 11], [12], [], [3, 13], [14, 15]] [15, 15, 15, 15, 15, 15, 15, 15, 15, 15, 15, 15, 15, 15, 15] [eqv _, eqv _, eqv _, eqv _, eqv _, eqv _, eqv _, eqv _, eqv _, eqv _, eqv _, eqv _, eqv _, eqv _, eqv _] (by kernel_rfl) (by kernel_rfl) ⟨?o0, ?o1, ?o2, ?o3, ?o4, ?o5, ?o6, ?o7, ?o8, ?o9, ?o10, ?o11, ?o12, ?o13, ?o14, trivial⟩ ?last
      case o0 => -- Op.move (Operand.tmp 0)
        intro xv V1 hE _
        simp only [putD, List.foldl_nil, List.getD_cons_zero]
        refine OpGoal.plain ?_
        go_wp2_with fail
        exact ⟨rfl, Ext.refl _, rfl⟩
      case o1 => -- Op.nilCheck (Operand.tmp 110)
        intro xv V1 hE hp
        have r0 : xv 0 = _ := hp.1
        clear hp
        simp only [putD, List.foldl_nil, List.foldl_cons, List.getD_cons_zero, List.getD_cons_succ, Act.put, List.setIfInBounds_toArray, List.set_cons_zero, List.set_cons_succ]
        refine OpGoal.plain ?_
        go_wp2_with fail
        exact ⟨rfl, Ext.refl _, rfl⟩
      case o2 => -- Op.fieldAddr 167 (Operand.tmp 111) 4
        intro xv V1 hE hp
        have r1 : xv 1 = _ := hp.1
        clear hp
        simp only [putD, List.foldl_nil, List.foldl_cons, List.getD_cons_zero, List.getD_cons_succ, Act.put, List.setIfInBounds_toArray, List.set_cons_zero, List.set_cons_succ]
        refine OpGoal.plain ?_
        go_wp2_with fail
        exact ⟨rfl, Ext.refl _, rfl⟩
      case o3 => -- Op.load 165 (Operand.tmp 112)
        intro xv V1 hE hp
        have r2 : xv 2 = _ := hp.1
        clear hp
        have F1 := F.ext ((Ext.drew W1).trans hE); have f2 := F1.na.cell.2.2.1; have f4 := F1.na.cell.2.2.2.2; have f98 := F1.g98
        simp only [putD, List.foldl_nil, List.foldl_cons, List.getD_cons_zero, List.getD_cons_succ, Act.put, List.setIfInBounds_toArray, List.set_cons_zero, List.set_cons_succ]
        refine OpGoal.plain ?_
        go_wp2_with fail
        exact ⟨rfl, Ext.refl _, rfl⟩
      case o4 => -- Op.move (Operand.tmp 4)
        intro xv V1 hE _
        simp only [putD, List.foldl_nil, List.getD_cons_zero, List.getD_cons_succ]
        refine OpGoal.plain ?_
        go_wp2_with fail
        exact ⟨rfl, Ext.refl _, rfl⟩
      case o5 => -- Op.move (Operand.tmp 0)
        intro xv V1 hE _
        simp only [putD, List.foldl_nil, List.getD_cons_zero, List.getD_cons_succ]
        refine OpGoal.plain ?_
        go_wp2_with fail
        exact ⟨rfl, Ext.refl _, rfl⟩
      case o6 => -- Op.nilCheck (Operand.tmp 115)
        intro xv V1 hE hp
        have r5 : xv 5 = _ := hp.1
        clear hp
        simp only [putD, List.foldl_nil, List.foldl_cons, List.getD_cons_zero, List.getD_cons_succ, Act.put, List.setIfInBounds_toArray, List.set_cons_zero, List.set_cons_succ]
        refine OpGoal.plain ?_
        go_wp2_with fail
        exact ⟨rfl, Ext.refl _, rfl⟩
      case o7 => -- Op.fieldAddr 167 (Operand.tmp 116) 2
        intro xv V1 hE hp
        have r6 : xv 6 = _ := hp.1
        clear hp
        simp only [putD, List.foldl_nil, List.foldl_cons, List.getD_cons_zero, List.getD_cons_succ, Act.put, List.setIfInBounds_toArray, List.set_cons_zero, List.set_cons_succ]
        refine OpGoal.plain ?_
        go_wp2_with fail
        exact ⟨rfl, Ext.refl _, rfl⟩
      case o8 => -- Op.load 9 (Operand.tmp 117)
        intro xv V1 hE hp
        have r7 : xv 7 = _ := hp.1
        clear hp
        have F1 := F.ext ((Ext.drew W1).trans hE); have f2 := F1.na.cell.2.2.1; have f4 := F1.na.cell.2.2.2.2; have f98 := F1.g98
        simp only [putD, List.foldl_nil, List.foldl_cons, List.getD_cons_zero, List.getD_cons_succ, Act.put, List.setIfInBounds_toArray, List.set_cons_zero, List.set_cons_succ]
        refine OpGoal.plain ?_
        go_wp2_with fail
        exact ⟨rfl, Ext.refl _, rfl⟩
      case o9 => -- Op.index 9 (Operand.tmp 118) (Operand.const (Value.int IntKind.i64 0))
        intro xv V1 hE hp
        have r8 : xv 8 = _ := hp.1
        clear hp
        simp only [putD, List.foldl_nil, List.foldl_cons, List.getD_cons_zero, List.getD_cons_succ, Act.put, List.setIfInBounds_toArray, List.set_cons_zero, List.set_cons_succ]
        refine OpGoal.plain ?_
        go_wp2_with fail
        exact ⟨rfl, Ext.refl _, rfl⟩
      case o10 => -- Op.nilCheck (Operand.tmp 114)
        intro xv V1 hE hp
        have r4 : xv 4 = _ := hp.1
        clear hp
        simp only [putD, List.foldl_nil, List.foldl_cons, List.getD_cons_zero, List.getD_cons_succ, Act.put, List.setIfInBounds_toArray, List.set_cons_zero, List.set_cons_succ]
        refine OpGoal.plain ?_
        go_wp2_with fail
        exact ⟨rfl, Ext.refl _, rfl⟩
      case o11 => -- Op.fieldAddr 169 (Operand.tmp 120) 2
        intro xv V1 hE hp
        have r10 : xv 10 = _ := hp.1
        clear hp
        simp only [putD, List.foldl_nil, List.foldl_cons, List.getD_cons_zero, List.getD_cons_succ, Act.put, List.setIfInBounds_toArray, List.set_cons_zero, List.set_cons_succ]
        refine OpGoal.plain ?_
        go_wp2_with fail
        exact ⟨rfl, Ext.refl _, rfl⟩
      case o12 => -- Op.indexAddr 131 (Operand.tmp 121) (Operand.tmp 119)
        intro xv V1 hE hp
        have r9 : xv 9 = _ := hp.1
        have r11 : xv 11 = _ := hp.2.1
        clear hp
        simp only [putD, List.foldl_nil, List.foldl_cons, List.getD_cons_zero, List.getD_cons_succ, Act.put, List.setIfInBounds_toArray, List.set_cons_zero, List.set_cons_succ]
        refine OpGoal.plain ?_
        go_wp2_with fail
        exact ⟨rfl, Ext.refl _, rfl⟩
      case o13 => -- Op.load 5 (Operand.tmp 122)
        intro xv V1 hE hp
        have r12 : xv 12 = _ := hp.1
        clear hp
        have F1 := F.ext ((Ext.drew W1).trans hE); have f2 := F1.na.cell.2.2.1; have f4 := F1.na.cell.2.2.2.2; have f98 := F1.g98
        simp only [putD, List.foldl_nil, List.foldl_cons, List.getD_cons_zero, List.getD_cons_succ, Act.put, List.setIfInBounds_toArray, List.set_cons_zero, List.set_cons_succ]
        refine OpGoal.plain ?_
        go_wp2_with fail
        exact ⟨rfl, Ext.refl _, rfl⟩
      case o14 => -- Op.move (Operand.tmp 11)
        intro xv V1 hE _
        simp only [putD, List.foldl_nil, List.getD_cons_zero, List.getD_cons_succ]
        refine OpGoal.plain ?_
        go_wp2_with fail
        exact ⟨rfl, Ext.refl _, rfl⟩
      case last =>
        intro xv V1 hE hp
        have r0 : xv 0 = _ := hp.1
        have r1 : xv 1 = _ := hp.2.1
        have r2 : xv 2 = _ := hp.2.2.1
        have r3 : xv 3 = _ := hp.2.2.2.1
        have r4 : xv 4 = _ := hp.2.2.2.2.1
        have r5 : xv 5 = _ := hp.2.2.2.2.2.1
        have r6 : xv 6 = _ := hp.2.2.2.2.2.2.1
        have r7 : xv 7 = _ := hp.2.2.2.2.2.2.2.1
        have r8 : xv 8 = _ := hp.2.2.2.2.2.2.2.2.1
        have r9 : xv 9 = _ := hp.2.2.2.2.2.2.2.2.2.1
        have r10 : xv 10 = _ := hp.2.2.2.2.2.2.2.2.2.2.1
        have r11 : xv 11 = _ := hp.2.2.2.2.2.2.2.2.2.2.2.1
        have r12 : xv 12 = _ := hp.2.2.2.2.2.2.2.2.2.2.2.2.1
        have r13 : xv 13 = _ := hp.2.2.2.2.2.2.2.2.2.2.2.2.2.1
        have r14 : xv 14 = _ := hp.2.2.2.2.2.2.2.2.2.2.2.2.2.2.1
        clear hp
        simp only [putD, List.foldl_nil, List.foldl_cons, List.getD_cons_zero, List.getD_cons_succ, Act.put, List.length_cons, List.length_nil, List.range_succ, List.range_zero, List.nil_append, List.cons_append, List.setIfInBounds_toArray, List.set_cons_zero, List.set_cons_succ]
        have F1 := F.ext ((Ext.drew W1).trans hE)
        obtain ⟨q0, q1, qz⟩ := F1.tc
        go_wp2_with fail
        have F2 := F1.set0 (some ⟨b, 0, none⟩)
        generalize V1.setCell ⟨t, 0, none⟩ (.pointer (some ⟨b, 0, none⟩)) = W2 at F2 ⊢
        clear q0 q1 qz F1
        apply wp_region_seq (l := [_, _, _, _, _, _, _, _, _, _, _, _]) (t := [_, _]) [some 126, some 127, some 128, some 129, some 130, some 131, some 132, some 133, some 134, some 135, some 136, some 137, some 138, none] [[], [0], [1], [2], [], [], [5], [4], [7], [6, 8], [9], [], [3, 10], [11, 12]] [12, 12, 12, 12, 12, 12, 12, 12, 12, 12, 12, 12] [eqv _, eqv _, eqv _, eqv _, eqv _, eqv _, eqv _, eqv _, eqv _, eqv _, eqv _, eqv _] (by kernel_rfl) (by kernel_rfl) ⟨?o0, ?o1, ?o2, ?o3, ?o4, ?o5, ?o6, ?o7, ?o8, ?o9, ?o10, ?o11, trivial⟩ ?last
        case o0 => -- Op.move (Operand.tmp 0)
          intro xv V2 hE _
          simp only [putD, List.foldl_nil, List.getD_cons_zero]
          refine OpGoal.plain ?_
          go_wp2_with fail
          exact ⟨rfl, Ext.refl _, rfl⟩
        case o1 => -- Op.nilCheck (Operand.tmp 126)
          intro xv V2 hE hp
          have r0 : xv 0 = _ := hp.1
          clear hp
          simp only [putD, List.foldl_nil, List.foldl_cons, List.getD_cons_zero, List.getD_cons_succ, Act.put, List.setIfInBounds_toArray, List.set_cons_zero, List.set_cons_succ]
          refine OpGoal.plain ?_
          go_wp2_with fail
          exact ⟨rfl, Ext.refl _, rfl⟩
        case o2 => -- Op.fieldAddr 167 (Operand.tmp 127) 4
          intro xv V2 hE hp
          have r1 : xv 1 = _ := hp.1
          clear hp
          simp only [putD, List.foldl_nil, List.foldl_cons, List.getD_cons_zero, List.getD_cons_succ, Act.put, List.setIfInBounds_toArray, List.set_cons_zero, List.set_cons_succ]
          refine OpGoal.plain ?_
          go_wp2_with fail
          exact ⟨rfl, Ext.refl _, rfl⟩
        case o3 => -- Op.load 165 (Operand.tmp 128)
          intro xv V2 hE hp
          have r2 : xv 2 = _ := hp.1
          clear hp
          have F1 := F2.ext ((Ext.drew W2).trans hE); have f4 := F1.na.cell.2.2.2.2; have f116 := F1.g116
          simp only [putD, List.foldl_nil, List.foldl_cons, List.getD_cons_zero, List.getD_cons_succ, Act.put, List.setIfInBounds_toArray, List.set_cons_zero, List.set_cons_succ]
          refine OpGoal.plain ?_
          go_wp2_with fail
          exact ⟨rfl, Ext.refl _, rfl⟩
        case o4 => -- Op.move (Operand.tmp 4)
          intro xv V2 hE _
          simp only [putD, List.foldl_nil, List.getD_cons_zero, List.getD_cons_succ]
          refine OpGoal.plain ?_
          go_wp2_with fail
          exact ⟨rfl, Ext.refl _, rfl⟩
        case o5 => -- Op.move (Operand.tmp 1)
          intro xv V2 hE _
          simp only [putD, List.foldl_nil, List.getD_cons_zero, List.getD_cons_succ]
          refine OpGoal.plain ?_
          go_wp2_with fail
          exact ⟨rfl, Ext.refl _, rfl⟩
        case o6 => -- Op.index 9 (Operand.tmp 131) (Operand.const (Value.int IntKind.i64 0))
          intro xv V2 hE hp
          have r5 : xv 5 = _ := hp.1
          clear hp
          simp only [putD, List.foldl_nil, List.foldl_cons, List.getD_cons_zero, List.getD_cons_succ, Act.put, List.setIfInBounds_toArray, List.set_cons_zero, List.set_cons_succ]
          refine OpGoal.plain ?_
          go_wp2_with fail
          exact ⟨rfl, Ext.refl _, rfl⟩
        case o7 => -- Op.nilCheck (Operand.tmp 130)
          intro xv V2 hE hp
          have r4 : xv 4 = _ := hp.1
          clear hp
          simp only [putD, List.foldl_nil, List.foldl_cons, List.getD_cons_zero, List.getD_cons_succ, Act.put, List.setIfInBounds_toArray, List.set_cons_zero, List.set_cons_succ]
          refine OpGoal.plain ?_
          go_wp2_with fail
          exact ⟨rfl, Ext.refl _, rfl⟩
        case o8 => -- Op.fieldAddr 169 (Operand.tmp 133) 2
          intro xv V2 hE hp
          have r7 : xv 7 = _ := hp.1
          clear hp
          simp only [putD, List.foldl_nil, List.foldl_cons, List.getD_cons_zero, List.getD_cons_succ, Act.put, List.setIfInBounds_toArray, List.set_cons_zero, List.set_cons_succ]
          refine OpGoal.plain ?_
          go_wp2_with fail
          exact ⟨rfl, Ext.refl _, rfl⟩
        case o9 => -- Op.indexAddr 131 (Operand.tmp 134) (Operand.tmp 132)
          intro xv V2 hE hp
          have r6 : xv 6 = _ := hp.1
          have r8 : xv 8 = _ := hp.2.1
          clear hp
          simp only [putD, List.foldl_nil, List.foldl_cons, List.getD_cons_zero, List.getD_cons_succ, Act.put, List.setIfInBounds_toArray, List.set_cons_zero, List.set_cons_succ]
          refine OpGoal.plain ?_
          go_wp2_with fail
          exact ⟨rfl, Ext.refl _, rfl⟩
        case o10 => -- Op.load 5 (Operand.tmp 135)
          intro xv V2 hE hp
          have r9 : xv 9 = _ := hp.1
          clear hp
          have F1 := F2.ext ((Ext.drew W2).trans hE); have f4 := F1.na.cell.2.2.2.2; have f116 := F1.g116
          simp only [putD, List.foldl_nil, List.foldl_cons, List.getD_cons_zero, List.getD_cons_succ, Act.put, List.setIfInBounds_toArray, List.set_cons_zero, List.set_cons_succ]
          refine OpGoal.plain ?_
          go_wp2_with fail
          exact ⟨rfl, Ext.refl _, rfl⟩
        case o11 => -- Op.move (Operand.tmp 12)
          intro xv V2 hE _
          simp only [putD, List.foldl_nil, List.getD_cons_zero, List.getD_cons_succ]
          refine OpGoal.plain ?_
          go_wp2_with fail
          exact ⟨rfl, Ext.refl _, rfl⟩
        case last =>
          intro xv V2 hE hp
          have r0 : xv 0 = _ := hp.1
          have r1 : xv 1 = _ := hp.2.1
          have r2 : xv 2 = _ := hp.2.2.1
          have r3 : xv 3 = _ := hp.2.2.2.1
          have r4 : xv 4 = _ := hp.2.2.2.2.1
          have r5 : xv 5 = _ := hp.2.2.2.2.2.1
          have r6 : xv 6 = _ := hp.2.2.2.2.2.2.1
          have r7 : xv 7 = _ := hp.2.2.2.2.2.2.2.1
          have r8 : xv 8 = _ := hp.2.2.2.2.2.2.2.2.1
          have r9 : xv 9 = _ := hp.2.2.2.2.2.2.2.2.2.1
          have r10 : xv 10 = _ := hp.2.2.2.2.2.2.2.2.2.2.1
          have r11 : xv 11 = _ := hp.2.2.2.2.2.2.2.2.2.2.2.1
          clear hp
          simp only [putD, List.foldl_nil, List.foldl_cons, List.getD_cons_zero, List.getD_cons_succ, Act.put, List.length_cons, List.length_nil, List.range_succ, List.range_zero, List.nil_append, List.cons_append, List.setIfInBounds_toArray, List.set_cons_zero, List.set_cons_succ]
          have F3 := F2.ext ((Ext.drew W2).trans hE)
          obtain ⟨q0, q1, qz⟩ := F3.tc
          have nz := fun i => F3.na.fz i
          obtain ⟨u0, u1, u2, u3, u4⟩ := F3.na.cell
          have hat : ¬ a = t := by have := F3.ct; have := F3.al; omega
          have hta : ¬ t = a := by have := F3.ct; have := F3.al; omega
          go_wp2_with fail
          have F4 := F3.set1 (some ⟨c, 0, none⟩)
          generalize V2.setCell ⟨t, 1, none⟩ (.pointer (some ⟨c, 0, none⟩)) = W4 at F4 ⊢
          have hct := F4.ct
          have hU5 : Upd [a] W4 ((W4.setCell ⟨a, 2, none⟩ (.string ⟨#[]⟩)).setCell ⟨a, 3, none⟩ (.pointer none)) := (Upd.set [a] _ (by simp) 2 _).trans (Upd.set [a] _ (by simp) 3 _)
          have n5 := (F4.na.set2 ⟨#[]⟩).set3 none
          generalize (W4.setCell ⟨a, 2, none⟩ (.string ⟨#[]⟩)).setCell ⟨a, 3, none⟩ (.pointer none) = W5 at hU5 n5 ⊢
          have c5 := F4.nc.upd hU5 (by simp; omega)
          obtain ⟨T, h5⟩ := F4.ht
          have t5 := (hU5.block t F4.tl (by simp; omega)).trans h5
          refine (add_empty c v p (.pointer (some ⟨g, 0, none⟩)) W5 c5).mono ?_
          rintro e w6 ⟨rfl, n6, hU6⟩
          go_wp2_with fail
          go_end0
          have hUw := F4.up.trans hU5
          have hct2 : t < W5.heap.size := (Array.getElem?_eq_some_iff.1 t5).1
          exact ⟨rfl, t, c, T, hct.2.1, hct.1, n5.upd hU6 (by simp; omega), (hU6.block t hct2 (by simp; omega)).trans t5, n6, ⟨hU6.os.trans hUw.os, hU6.tape.trans hUw.tape, hU6.output.trans hUw.output, Nat.le_trans hUw.size hU6.size, fun k hk hn => (hU6.block k (Nat.lt_of_lt_of_le hk hUw.size) (by simp; omega)).trans (hUw.block k hk hn)⟩⟩
end Go.Proofs.YthppcmejffdicaaGreatDoor
