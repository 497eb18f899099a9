/- A generic replacer in memory; its root's add. -/
import Derived.Test.YthppcmejffdicaaGreatDoorQJzg
import Derived.Deep.MidRow

set_option linter.unusedSimpArgs false
set_option linter.unusedVariables false
namespace Go.Proofs.YthppcmejffdicaaGreatDoor
open Go.RowKit Hach Num Jn

/- a generic replacer's cells: its root has no value; a table, its size, the mapping -/
def grf (tab : Value) (sz : Int) (m : Nat → Int) (i : Nat) : Value :=
  if i = 0 then .string ⟨#[]⟩ else if i = 1 then .int .i64 0 else if i = 2 then .string ⟨#[]⟩ else if i = 3 then .pointer none else if i = 4 then tab else if i = 5 then .int .i64 sz else .int .u8 (m (i - 6))
def GR (w : World) (g : Nat) (tab : Value) (sz : Int) (m : Nat → Int) : Prop := w.rowIs g 169 262 (grf tab sz m)
section
variable {w w' : World} {g : Nat} {tab : Value} {sz : Int} {m : Nat → Int}
theorem GR.lt (h : GR w g tab sz m) : g < w.heap.size := World.rowIs.lt h
theorem GR.fz (h : GR w g tab sz m) (i : Nat) : w.frozen? ⟨g, i, none⟩ = false := World.rowIs.frozen h i
theorem GR.c1 (h : GR w g tab sz m) : w.cell? ⟨g, 1, none⟩ = some (.int .i64 0) := World.rowIs.cell h (i := 1) (by omega)
theorem GR.c2 (h : GR w g tab sz m) : w.cell? ⟨g, 2, none⟩ = some (.string ⟨#[]⟩) := World.rowIs.cell h (i := 2) (by omega)
theorem GR.c3 (h : GR w g tab sz m) : w.cell? ⟨g, 3, none⟩ = some (.pointer none) := World.rowIs.cell h (i := 3) (by omega)
theorem GR.c4 (h : GR w g tab sz m) : w.cell? ⟨g, 4, none⟩ = some tab := World.rowIs.cell h (i := 4) (by omega)
theorem GR.c5 (h : GR w g tab sz m) : w.cell? ⟨g, 5, none⟩ = some (.int .i64 sz) := World.rowIs.cell h (i := 5) (by omega)
theorem grf_map (tab : Value) (sz : Int) (m : Nat → Int) (i : Nat) : grf tab sz m (6 + i) = .int .u8 (m i) := by
  unfold grf
  rw [if_neg (by omega), if_neg (by omega), if_neg (by omega), if_neg (by omega), if_neg (by omega), if_neg (by omega), Nat.add_sub_cancel_left]
theorem GR.map (h : GR w g tab sz m) {i : Nat} (hi : i < 256) : w.cell? ⟨g, 6 + i, none⟩ = some (.int .u8 (m i)) := by
  rw [World.rowIs.cell h (i := 6 + i) (by omega), grf_map]
theorem GR.block (h : GR w g tab sz m) (e : w'.heap[g]? = w.heap[g]?) : GR w' g tab sz m := World.rowIs.of_block h e
theorem GR.ext (h : GR w g tab sz m) (hE : Ext w w') : GR w' g tab sz m := h.block (Below.block hE _ h.lt)
theorem GR.congr {m' : Nat → Int} (h : GR w g tab sz m) (e : ∀ i, i < 256 → m i = m' i) : GR w g tab sz m' := by
  refine World.rowIs.congr h fun i hi => ?_
  unfold grf
  by_cases h6 : i < 6
  · have : i = 0 ∨ i = 1 ∨ i = 2 ∨ i = 3 ∨ i = 4 ∨ i = 5 := by omega
    rcases this with rfl | rfl | rfl | rfl | rfl | rfl <;> rfl
  · rw [e (i - 6) (by omega)]
theorem GR.setMap (h : GR w g tab sz m) (c : Nat) (x : Int) : GR (w.setCell ⟨g, 6 + c, none⟩ (.int .u8 x)) g tab sz (fun i => if i = c then x else m i) := by
  refine World.rowIs.congr (World.rowIs.set h (6 + c) _) fun i hi => ?_
  by_cases e : i = 6 + c
  · subst e; rw [if_pos rfl, grf_map, if_pos rfl]
  · rw [if_neg e]
    unfold grf
    by_cases h6 : i < 6
    · have : i = 0 ∨ i = 1 ∨ i = 2 ∨ i = 3 ∨ i = 4 ∨ i = 5 := by omega
      rcases this with rfl | rfl | rfl | rfl | rfl | rfl <;> rfl
    · simp only [if_neg (show ¬ i - 6 = c by omega)]
theorem GR.setSize (h : GR w g tab sz m) (x : Int) : GR (w.setCell ⟨g, 5, none⟩ (.int .i64 x)) g tab x m := by
  refine World.rowIs.congr (World.rowIs.set h 5 _) fun i hi => ?_
  unfold grf
  by_cases h6 : i < 6
  · have : i = 0 ∨ i = 1 ∨ i = 2 ∨ i = 3 ∨ i = 4 ∨ i = 5 := by omega
    rcases this with rfl | rfl | rfl | rfl | rfl | rfl <;> rfl
  · rw [if_neg (show ¬ i = 5 by omega), if_neg (show ¬ i = 5 by omega), if_neg (show ¬ i = 5 by omega)]
theorem GR.setTab (h : GR w g tab sz m) (x : Value) : GR (w.setCell ⟨g, 4, none⟩ x) g x sz m := by
  refine World.rowIs.congr (World.rowIs.set h 4 _) fun i hi => ?_
  unfold grf
  by_cases h6 : i < 6
  · have : i = 0 ∨ i = 1 ∨ i = 2 ∨ i = 3 ∨ i = 4 ∨ i = 5 := by omega
    rcases this with rfl | rfl | rfl | rfl | rfl | rfl <;> rfl
  · rw [if_neg (show ¬ i = 4 by omega), if_neg (show ¬ i = 4 by omega), if_neg (show ¬ i = 4 by omega)]
end
def zG : Array Value := ([Value.string ⟨#[]⟩, .int .i64 0, .string ⟨#[]⟩, .pointer none, .slice none 0 0, .int .i64 0] ++ List.replicate 256 (Value.int .u8 0)).toArray
theorem zG_eq : Tryz.zeroCells169 = zG := by kernel_rfl
theorem GR.new (w : World) : GR (w.alloc (.cells Tryz.zeroCells169 169)) w.heap.size (.slice none 0 0) 0 (fun _ => 0) := by
  rw [zG_eq]
  refine ⟨zG, Array.getElem?_push_size, by unfold zG; rw [List.size_toArray, List.length_append, List.length_replicate]; rfl, fun i hi => ?_⟩
  unfold zG grf
  rw [List.getElem?_toArray]
  by_cases h6 : i < 6
  · have : i = 0 ∨ i = 1 ∨ i = 2 ∨ i = 3 ∨ i = 4 ∨ i = 5 := by omega
    rcases this with rfl | rfl | rfl | rfl | rfl | rfl <;> rfl
  · rw [List.getElem?_append_right (by show 6 ≤ i; omega), List.getElem?_replicate, if_pos (by show i - 6 < 256; omega), if_neg (by omega), if_neg (by omega), if_neg (by omega), if_neg (by omega), if_neg (by omega), if_neg (by omega)]
/- the mapping as an array's value -/
def arr (m : Nat → Int) : List Value := (List.range 256).map fun i => .int .u8 (m i)
theorem arr_length (m : Nat → Int) : (arr m).length = 256 := by unfold arr; rw [List.length_map, List.length_range]
theorem GR.range {w : World} {g : Nat} {tab : Value} {sz : Int} {m : Nat → Int} (h : GR w g tab sz m) : w.rangeAt g 6 (arr m) := fun j v hv => by
  unfold arr at hv
  rw [List.getElem?_map] at hv
  by_cases hj : j < 256
  · rw [List.getElem?_range hj] at hv
    cases hv
    exact h.map hj
  · rw [List.getElem?_eq_none (by rw [List.length_range]; omega)] at hv; cases hv
theorem arr_index (m : Nat → Int) (k : Nat) (hk : k < 256) (w : World) : (Instr.index 131 (.agg (arr m).toArray) (.int .i64 (k : Int))).run Tryz.prog w = .ok (.int .u8 (m k)) w := by
  have hg : (arr m).toArray[k]? = some (.int .u8 (m k)) := by
    rw [List.getElem?_toArray]; unfold arr; rw [List.getElem?_map, List.getElem?_range hk]; rfl
  have hu : Tryz.prog.underlying 131 = some (.array 256 5) := Tryz.underlying131
  rw [List.getElem?_toArray] at hg
  simp [Instr.index, run_underlying hu, asIntOf, hk, go_sem]
  rw [hg]; rfl
/- the mapping at the end -/
def fmp (i : Nat) : Int := if i = 92 then 0 else if i = 110 then 1 else 2
structure TwoP (w : World) (t : Nat) (x y : Option Addr) : Prop where
  row : ∃ T, w.heap[t]? = some (.cells #[.pointer x, .pointer y] T (0, 0))
section
variable {w w' : World} {t : Nat} {x y : Option Addr}
theorem TwoP.lt (h : TwoP w t x y) : t < w.heap.size := by obtain ⟨T, h⟩ := h.row; exact (Array.getElem?_eq_some_iff.1 h).1
theorem TwoP.c0 (h : TwoP w t x y) : w.cell? ⟨t, 0, none⟩ = some (.pointer x) := by obtain ⟨T, h⟩ := h.row; simp [World.cell?, h]
theorem TwoP.c1 (h : TwoP w t x y) : w.cell? ⟨t, 1, none⟩ = some (.pointer y) := by obtain ⟨T, h⟩ := h.row; simp [World.cell?, h]
theorem TwoP.fz (h : TwoP w t x y) (i : Nat) : w.frozen? ⟨t, i, none⟩ = false := by obtain ⟨T, h⟩ := h.row; simp [World.frozen?, h]
theorem TwoP.block (h : TwoP w t x y) (e : w'.heap[t]? = w.heap[t]?) : TwoP w' t x y := by obtain ⟨T, h⟩ := h.row; exact ⟨T, e.trans h⟩
theorem TwoP.ext (h : TwoP w t x y) (hE : Ext w w') : TwoP w' t x y := h.block (Below.block hE _ h.lt)
theorem TwoP.set0 (h : TwoP w t x y) (z : Option Addr) : TwoP (w.setCell ⟨t, 0, none⟩ (.pointer z)) t z y := by obtain ⟨T, h⟩ := h.row; exact ⟨T, by simp [World.setCell, Array.getElem?_modify, h]⟩
end
theorem GR.ne2 {w : World} {g t : Nat} {tab : Value} {sz : Int} {m : Nat → Int} {x y : Option Addr} (h : GR w g tab sz m) (ht : TwoP w t x y) : t ≠ g := by
  rintro rfl
  have h1 := h.c1
  rw [ht.c1] at h1
  cases h1
theorem GR.neN {w : World} {g a : Nat} {tab : Value} {sz : Int} {m : Nat → Int} {val pre : ByteArray} {prio : Int} {nx : Option Addr} {tab2 : Value} (h : GR w g tab sz m) (ha : Nd w a val prio pre nx tab2) : a ≠ g := by
  rintro rfl
  have h1 := h.c5
  obtain ⟨t, hr⟩ := ha.row
  simp [World.cell?, hr] at h1
theorem TwoP.neN {w : World} {t a : Nat} {x y : Option Addr} {val pre : ByteArray} {prio : Int} {nx : Option Addr} {tab2 : Value} (h : TwoP w t x y) (ha : Nd w a val prio pre nx tab2) : a ≠ t := by
  rintro rfl
  have h1 := h.c0
  rw [ha.cell.1] at h1
  cases h1

theorem r1_world {w V : World} {g t : Nat} {tab : Value} {sz : Int} {m : Nat → Int} (hE : Ext w V) (hG : GR V g tab sz m) (ht : TwoP V t none none) (htl : t < w.heap.size) (T : TypeId) :
    TwoP ((V.setCell ⟨t, 0, none⟩ (.pointer (some ⟨V.heap.size, 0, none⟩))).alloc (.cells #[.string ⟨#[]⟩, .int .i64 0, .string ⟨#[]⟩, .pointer none, .slice none 0 0] T)) t (some ⟨V.heap.size, 0, none⟩) none ∧
    Nd ((V.setCell ⟨t, 0, none⟩ (.pointer (some ⟨V.heap.size, 0, none⟩))).alloc (.cells #[.string ⟨#[]⟩, .int .i64 0, .string ⟨#[]⟩, .pointer none, .slice none 0 0] T)) V.heap.size ⟨#[]⟩ 0 ⟨#[]⟩ none (.slice none 0 0) ∧
    GR ((V.setCell ⟨t, 0, none⟩ (.pointer (some ⟨V.heap.size, 0, none⟩))).alloc (.cells #[.string ⟨#[]⟩, .int .i64 0, .string ⟨#[]⟩, .pointer none, .slice none 0 0] T)) g tab sz m ∧
    Upd [t] w ((V.setCell ⟨t, 0, none⟩ (.pointer (some ⟨V.heap.size, 0, none⟩))).alloc (.cells #[.string ⟨#[]⟩, .int .i64 0, .string ⟨#[]⟩, .pointer none, .slice none 0 0] T)) := by
  have hne := hG.ne2 ht
  have s1 := setCell_size V ⟨t, 0, none⟩ (.pointer (some ⟨V.heap.size, 0, none⟩))
  have n1 := ht.set0 (some ⟨V.heap.size, 0, none⟩)
  have hU : Upd [t] V (V.setCell ⟨t, 0, none⟩ (.pointer (some ⟨V.heap.size, 0, none⟩))) := Upd.set _ _ (by simp) _ _
  have g1 : GR (V.setCell ⟨t, 0, none⟩ (.pointer (some ⟨V.heap.size, 0, none⟩))) g tab sz m := hG.block (hU.block g hG.lt (by simp; omega))
  have n2 := Nd.new (V.setCell ⟨t, 0, none⟩ (.pointer (some ⟨V.heap.size, 0, none⟩))) T
  rw [s1] at n2
  have e1 := Ext.alloc (V.setCell ⟨t, 0, none⟩ (.pointer (some ⟨V.heap.size, 0, none⟩))) (.cells #[.string ⟨#[]⟩, .int .i64 0, .string ⟨#[]⟩, .pointer none, .slice none 0 0] T)
  exact ⟨n1.ext e1, n2, g1.ext e1, (Upd.ext _ hE).trans (hU.trans (Upd.ext _ e1))⟩

set_option maxRecDepth 100000 in
set_option maxHeartbeats 2000000 in
theorem add_r1 (g t : Nat) (v : ByteArray) (p : Int) (w : World) (hG : GR w g (.slice (some ⟨t, 0, none⟩) 2 2) 2 fmp) (ht : TwoP w t none none) :
    Calls Tryz.prog 113 #[.pointer (some ⟨g, 0, none⟩), .string ⟨#[92, 92]⟩, .string v, .int .i64 p, .pointer (some ⟨g, 0, none⟩)] w fun e w' => e = .returned (.tuple #[]) ∧ ∃ a b, w.heap.size ≤ a ∧ w.heap.size ≤ b ∧ a ≠ b ∧
      TwoP w' t (some ⟨a, 0, none⟩) none ∧ Nd w' a ⟨#[]⟩ 0 ⟨#[92]⟩ (some ⟨b, 0, none⟩) (.slice none 0 0) ∧ Nd w' b v p ⟨#[]⟩ none (.slice none 0 0) ∧ Upd [t] w w' := by
  have c2 := hG.c2
  have c4 := hG.c4
  have q0 : ∀ h : 0 < (⟨#[92, 92]⟩ : ByteArray).size, (⟨#[92, 92]⟩ : ByteArray)[0]'h = 92 := fun _ => rfl
  go_enter Tryz.func113, Tryz.ntmps113
  go_wp2_with fail
  apply wp_region_seq (l := [_, _, _, _, _, _, _]) (t := [_]) [some 190, some 191, some 192, some 193, some 194, some 195, some 196, some 14] [[], [], [1], [0], [3], [2, 4], [5], [6]] [7, 7, 7, 7, 7, 7, 7] [eqv _, eqv _, eqv _, eqv _, eqv _, eqv _, eqv _] (by kernel_rfl) (by kernel_rfl) ⟨?o0, ?o1, ?o2, ?o3, ?o4, ?o5, ?o6, trivial⟩ ?last
  case o0 => -- Op.move (Operand.tmp 4)
    intro xv V hE _
    simp only [putD, List.foldl_nil, List.getD_cons_zero]
    refine OpGoal.plain ?_
    go_wp2_with fail
    exact ⟨rfl, Ext.refl _, rfl⟩
  case o1 => -- Op.move (Operand.tmp 1)
    intro xv V hE _
    simp only [putD, List.foldl_nil, List.getD_cons_zero, List.getD_cons_succ]
    refine OpGoal.plain ?_
    go_wp2_with fail
    exact ⟨rfl, Ext.refl _, rfl⟩
  case o2 => -- Op.index 9 (Operand.tmp 191) (Operand.const (Value.int IntKind.i64 0))
    intro xv V hE hp
    have r1 : xv 1 = _ := hp.1
    clear hp
    simp only [putD, List.foldl_nil, List.foldl_cons, List.getD_cons_zero, List.getD_cons_succ, Act.put, List.setIfInBounds_toArray, List.set_cons_zero, List.set_cons_succ]
    refine OpGoal.plain ?_
    go_wp2_with fail
    exact ⟨rfl, Ext.refl _, rfl⟩
  case o3 => -- Op.nilCheck (Operand.tmp 190)
    intro xv V hE hp
    have r0 : xv 0 = _ := hp.1
    clear hp
    simp only [putD, List.foldl_nil, List.foldl_cons, List.getD_cons_zero, List.getD_cons_succ, Act.put, List.setIfInBounds_toArray, List.set_cons_zero, List.set_cons_succ]
    refine OpGoal.plain ?_
    go_wp2_with fail
    exact ⟨rfl, Ext.refl _, rfl⟩
  case o4 => -- Op.fieldAddr 169 (Operand.tmp 193) 2
    intro xv V hE hp
    have r3 : xv 3 = _ := hp.1
    clear hp
    simp only [putD, List.foldl_nil, List.foldl_cons, List.getD_cons_zero, List.getD_cons_succ, Act.put, List.setIfInBounds_toArray, List.set_cons_zero, List.set_cons_succ]
    refine OpGoal.plain ?_
    go_wp2_with fail
    exact ⟨rfl, Ext.refl _, rfl⟩
  case o5 => -- Op.indexAddr 131 (Operand.tmp 194) (Operand.tmp 192)
    intro xv V hE hp
    have r2 : xv 2 = _ := hp.1
    have r4 : xv 4 = _ := hp.2.1
    clear hp
    simp only [putD, List.foldl_nil, List.foldl_cons, List.getD_cons_zero, List.getD_cons_succ, Act.put, List.setIfInBounds_toArray, List.set_cons_zero, List.set_cons_succ]
    refine OpGoal.plain ?_
    go_wp2_with fail
    exact ⟨rfl, Ext.refl _, rfl⟩
  case o6 => -- Op.load 5 (Operand.tmp 195)
    intro xv V hE hp
    have r5 : xv 5 = _ := hp.1
    clear hp
    have km : V.cell? ⟨g, 98, none⟩ = some (.int .u8 0) := (hG.ext ((Ext.drew w).trans hE)).map (i := 92) (by omega)
    simp only [putD, List.foldl_nil, List.foldl_cons, List.getD_cons_zero, List.getD_cons_succ, Act.put, List.setIfInBounds_toArray, List.set_cons_zero, List.set_cons_succ]
    refine OpGoal.plain ?_
    go_wp2_with fail
    exact ⟨rfl, Ext.refl _, rfl⟩
  case last =>
    intro xv V hE hp
    have r0 : xv 0 = _ := hp.1
    have r1 : xv 1 = _ := hp.2.1
    have r2 : xv 2 = _ := hp.2.2.1
    have r3 : xv 3 = _ := hp.2.2.2.1
    have r4 : xv 4 = _ := hp.2.2.2.2.1
    have r5 : xv 5 = _ := hp.2.2.2.2.2.1
    have r6 : xv 6 = _ := hp.2.2.2.2.2.2.1
    clear hp
    simp only [putD, List.foldl_nil, List.foldl_cons, List.getD_cons_zero, List.getD_cons_succ, Act.put, List.length_cons, List.length_nil, List.range_succ, List.range_zero, List.nil_append, List.cons_append, List.setIfInBounds_toArray, List.set_cons_zero, List.set_cons_succ]
    have hV := (Ext.drew w).trans hE
    have hG1 := hG.ext hV
    have ht1 := ht.ext hV
    have d4 := hG1.c4
    have t0 := ht1.c0
    have tz := ht1.fz 0
    have htl := ht1.lt
    have hgl := hG1.lt
    have hne := hG1.ne2 ht1
    have hne2 : ¬ g = t := fun e => hne e.symm
    clear c2 c4
    go_wp2_with fail
    obtain ⟨F1, F2, F3, F4⟩ := r1_world hV hG1 ht1 ht.lt 167
    have hza := hV.sz
    generalize (V.setCell ⟨t, 0, none⟩ (.pointer (some ⟨V.heap.size, 0, none⟩))).alloc (.cells #[.string ⟨#[]⟩, .int .i64 0, .string ⟨#[]⟩, .pointer none, .slice none 0 0] 167) = W1 at F1 F2 F3 F4 ⊢
    generalize V.heap.size = a at F1 F2 htl hgl hza ⊢
    clear d4 t0 tz
    apply wp_region_seq (l := [_, _, _, _, _, _, _, _, _, _, _, _]) (t := [_]) [some 212, some 213, some 214, some 215, some 216, some 217, some 218, some 219, some 220, some 221, some 222, some 223, some 224] [[], [0], [1], [2], [], [3, 4], [5], [], [7], [], [], [], [6, 8, 9, 10, 11]] [1, 2, 3, 5, 5, 6, 12, 8, 12, 12, 12, 12] [eqv _, eqv _, eqv _, eqv _, eqv _, eqv _, eqv _, eqv _, eqv _, eqv _, eqv _, eqv _] (by kernel_rfl) (by kernel_rfl) ⟨?o0, ?o1, ?o2, ?o3, ?o4, ?o5, ?o6, ?o7, ?o8, ?o9, ?o10, ?o11, trivial⟩ ?last
    case o0 => -- Op.move (Operand.tmp 0)
      intro xv V1 hE _
      simp only [putD, List.foldl_nil, List.getD_cons_zero]
      refine OpGoal.plain ?_
      go_wp2_with fail
      exact ⟨rfl, Ext.refl _, rfl⟩
    case o1 => -- Op.nilCheck (Operand.tmp 212)
      intro xv V1 hE hp
      have r0 : xv 0 = _ := hp.1
      clear hp
      simp only [putD, List.foldl_nil, List.foldl_cons, List.getD_cons_zero, List.getD_cons_succ, Act.put, List.setIfInBounds_toArray, List.set_cons_zero, List.set_cons_succ]
      refine OpGoal.plain ?_
      go_wp2_with fail
      exact ⟨rfl, Ext.refl _, rfl⟩
    case o2 => -- Op.fieldAddr 167 (Operand.tmp 213) 4
      intro xv V1 hE hp
      have r1 : xv 1 = _ := hp.1
      clear hp
      simp only [putD, List.foldl_nil, List.foldl_cons, List.getD_cons_zero, List.getD_cons_succ, Act.put, List.setIfInBounds_toArray, List.set_cons_zero, List.set_cons_succ]
      refine OpGoal.plain ?_
      go_wp2_with fail
      exact ⟨rfl, Ext.refl _, rfl⟩
    case o3 => -- Op.load 165 (Operand.tmp 214)
      intro xv V1 hE hp
      have r2 : xv 2 = _ := hp.1
      clear hp
      have hx := (Ext.drew W1).trans hE; have f4 := (F3.ext hx).c4; have f0 := (F1.ext hx).c0
      simp only [putD, List.foldl_nil, List.foldl_cons, List.getD_cons_zero, List.getD_cons_succ, Act.put, List.setIfInBounds_toArray, List.set_cons_zero, List.set_cons_succ]
      refine OpGoal.plain ?_
      go_wp2_with fail
      exact ⟨rfl, Ext.refl _, rfl⟩
    case o4 => -- Op.move (Operand.tmp 14)
      intro xv V1 hE _
      simp only [putD, List.foldl_nil, List.getD_cons_zero, List.getD_cons_succ]
      refine OpGoal.plain ?_
      go_wp2_with fail
      exact ⟨rfl, Ext.refl _, rfl⟩
    case o5 => -- Op.indexAddr 165 (Operand.tmp 215) (Operand.tmp 216)
      intro xv V1 hE hp
      have r3 : xv 3 = _ := hp.1
      have r4 : xv 4 = _ := hp.2.1
      clear hp
      simp only [putD, List.foldl_nil, List.foldl_cons, List.getD_cons_zero, List.getD_cons_succ, Act.put, List.setIfInBounds_toArray, List.set_cons_zero, List.set_cons_succ]
      refine OpGoal.plain ?_
      go_wp2_with fail
      exact ⟨rfl, Ext.refl _, rfl⟩
    case o6 => -- Op.load 164 (Operand.tmp 217)
      intro xv V1 hE hp
      have r5 : xv 5 = _ := hp.1
      clear hp
      have hx := (Ext.drew W1).trans hE; have f4 := (F3.ext hx).c4; have f0 := (F1.ext hx).c0
      simp only [putD, List.foldl_nil, List.foldl_cons, List.getD_cons_zero, List.getD_cons_succ, Act.put, List.setIfInBounds_toArray, List.set_cons_zero, List.set_cons_succ]
      refine OpGoal.plain ?_
      go_wp2_with fail
      exact ⟨rfl, Ext.refl _, rfl⟩
    case o7 => -- Op.move (Operand.tmp 1)
      intro xv V1 hE _
      simp only [putD, List.foldl_nil, List.getD_cons_zero, List.getD_cons_succ]
      refine OpGoal.plain ?_
      go_wp2_with fail
      exact ⟨rfl, Ext.refl _, rfl⟩
    case o8 => -- Op.slice 9 (Operand.tmp 219) (some (Operand.const (Value.int IntKind.i64 1))) no
      intro xv V1 hE hp
      have r7 : xv 7 = _ := hp.1
      clear hp
      simp only [putD, List.foldl_nil, List.foldl_cons, List.getD_cons_zero, List.getD_cons_succ, Act.put, List.setIfInBounds_toArray, List.set_cons_zero, List.set_cons_succ]
      refine OpGoal.plain ?_
      go_wp2_with fail
      exact ⟨rfl, Ext.refl _, rfl⟩
    case o9 => -- Op.move (Operand.tmp 2)
      intro xv V1 hE _
      simp only [putD, List.foldl_nil, List.getD_cons_zero, List.getD_cons_succ]
      refine OpGoal.plain ?_
      go_wp2_with fail
      exact ⟨rfl, Ext.refl _, rfl⟩
    case o10 => -- Op.move (Operand.tmp 3)
      intro xv V1 hE _
      simp only [putD, List.foldl_nil, List.getD_cons_zero, List.getD_cons_succ]
      refine OpGoal.plain ?_
      go_wp2_with fail
      exact ⟨rfl, Ext.refl _, rfl⟩
    case o11 => -- Op.move (Operand.tmp 4)
      intro xv V1 hE _
      simp only [putD, List.foldl_nil, List.getD_cons_zero, List.getD_cons_succ]
      refine OpGoal.plain ?_
      go_wp2_with fail
      exact ⟨rfl, Ext.refl _, rfl⟩
    case last =>
      intro xv V1 hE hp
      have r0 : xv 0 = _ := hp.1
      have r1 : xv 1 = _ := hp.2.1
      have r2 : xv 2 = _ := hp.2.2.1
      have r3 : xv 3 = _ := hp.2.2.2.1
      have r4 : xv 4 = _ := hp.2.2.2.2.1
      have r5 : xv 5 = _ := hp.2.2.2.2.2.1
      have r6 : xv 6 = _ := hp.2.2.2.2.2.2.1
      have r7 : xv 7 = _ := hp.2.2.2.2.2.2.2.1
      have r8 : xv 8 = _ := hp.2.2.2.2.2.2.2.2.1
      have r9 : xv 9 = _ := hp.2.2.2.2.2.2.2.2.2.1
      have r10 : xv 10 = _ := hp.2.2.2.2.2.2.2.2.2.2.1
      have r11 : xv 11 = _ := hp.2.2.2.2.2.2.2.2.2.2.2.1
      clear hp
      simp only [putD, List.foldl_nil, List.foldl_cons, List.getD_cons_zero, List.getD_cons_succ, Act.put, List.length_cons, List.length_nil, List.range_succ, List.range_zero, List.nil_append, List.cons_append, List.setIfInBounds_toArray, List.set_cons_zero, List.set_cons_succ]
      have hx := (Ext.drew W1).trans hE
      have H1 := F1.ext hx
      have H2 : Nd V1 a _ _ _ _ _ := F2.of_block (Below.block hx _ F2.lt)
      have hat := H1.neN H2
      have hU1 := F4.trans (Upd.ext _ hx)
      have hll := add_leaf a ⟨#[92]⟩ v (by rw [ByteArray.toList_eq]; simp) p (.pointer (some ⟨g, 0, none⟩)) V1 H2
      go_wp2_with fail
      refine hll.mono ?_
      rintro e w2 ⟨rfl, b, hb, n1, n2, hU⟩
      go_wp2_with fail
      go_end0
      have hta : t ∉ [a] := by simp; omega
      have hb1 := H2.lt
      exact ⟨rfl, a, b, hza, by have := hU1.size; omega, by omega, H1.block (hU.block t H1.lt hta), n1, n2, ⟨hU.os.trans hU1.os, hU.tape.trans hU1.tape, hU.output.trans hU1.output, Nat.le_trans hU1.size hU.size, fun k hk hn => (hU.block k (Nat.lt_of_lt_of_le hk hU1.size) (by simp; omega)).trans (hU1.block k hk hn)⟩⟩

set_option maxRecDepth 100000 in
set_option maxHeartbeats 2000000 in
theorem add_r2 (g t a b : Nat) (v : ByteArray) (p : Int) (w : World) (hG : GR w g (.slice (some ⟨t, 0, none⟩) 2 2) 2 fmp) (ht : TwoP w t (some ⟨a, 0, none⟩) none) (ha : Nd w a ⟨#[]⟩ 0 ⟨#[92]⟩ (some ⟨b, 0, none⟩) (.slice none 0 0)) :
    Calls Tryz.prog 113 #[.pointer (some ⟨g, 0, none⟩), .string ⟨#[92, 110]⟩, .string v, .int .i64 p, .pointer (some ⟨g, 0, none⟩)] w fun e w' => e = .returned (.tuple #[]) ∧ ∃ t1 c, w.heap.size ≤ t1 ∧ w.heap.size ≤ c ∧
      Nd w' a ⟨#[]⟩ 0 ⟨#[]⟩ none (.slice (some ⟨t1, 0, none⟩) 2 2) ∧ TwoP w' t1 (some ⟨b, 0, none⟩) (some ⟨c, 0, none⟩) ∧ Nd w' c v p ⟨#[]⟩ none (.slice none 0 0) ∧ Upd [a] w w' := by
  have c2 := hG.c2
  have c4 := hG.c4
  have q0 : ∀ h : 0 < (⟨#[92, 110]⟩ : ByteArray).size, (⟨#[92, 110]⟩ : ByteArray)[0]'h = 92 := fun _ => rfl
  go_enter Tryz.func113, Tryz.ntmps113
  go_wp2_with fail
  apply wp_region_seq (l := [_, _, _, _, _, _, _]) (t := [_]) [some 190, some 191, some 192, some 193, some 194, some 195, some 196, some 14] [[], [], [1], [0], [3], [2, 4], [5], [6]] [7, 7, 7, 7, 7, 7, 7] [eqv _, eqv _, eqv _, eqv _, eqv _, eqv _, eqv _] (by kernel_rfl) (by kernel_rfl) ⟨?o0, ?o1, ?o2, ?o3, ?o4, ?o5, ?o6, trivial⟩ ?last
  case o0 => -- Op.move (Operand.tmp 4)
    intro xv V hE _
    simp only [putD, List.foldl_nil, List.getD_cons_zero]
    refine OpGoal.plain ?_
    go_wp2_with fail
    exact ⟨rfl, Ext.refl _, rfl⟩
  case o1 => -- Op.move (Operand.tmp 1)
    intro xv V hE _
    simp only [putD, List.foldl_nil, List.getD_cons_zero, List.getD_cons_succ]
    refine OpGoal.plain ?_
    go_wp2_with fail
    exact ⟨rfl, Ext.refl _, rfl⟩
  case o2 => -- Op.index 9 (Operand.tmp 191) (Operand.const (Value.int IntKind.i64 0))
    intro xv V hE hp
    have r1 : xv 1 = _ := hp.1
    clear hp
    simp only [putD, List.foldl_nil, List.foldl_cons, List.getD_cons_zero, List.getD_cons_succ, Act.put, List.setIfInBounds_toArray, List.set_cons_zero, List.set_cons_succ]
    refine OpGoal.plain ?_
    go_wp2_with fail
    exact ⟨rfl, Ext.refl _, rfl⟩
  case o3 => -- Op.nilCheck (Operand.tmp 190)
    intro xv V hE hp
    have r0 : xv 0 = _ := hp.1
    clear hp
    simp only [putD, List.foldl_nil, List.foldl_cons, List.getD_cons_zero, List.getD_cons_succ, Act.put, List.setIfInBounds_toArray, List.set_cons_zero, List.set_cons_succ]
    refine OpGoal.plain ?_
    go_wp2_with fail
    exact ⟨rfl, Ext.refl _, rfl⟩
  case o4 => -- Op.fieldAddr 169 (Operand.tmp 193) 2
    intro xv V hE hp
    have r3 : xv 3 = _ := hp.1
    clear hp
    simp only [putD, List.foldl_nil, List.foldl_cons, List.getD_cons_zero, List.getD_cons_succ, Act.put, List.setIfInBounds_toArray, List.set_cons_zero, List.set_cons_succ]
    refine OpGoal.plain ?_
    go_wp2_with fail
    exact ⟨rfl, Ext.refl _, rfl⟩
  case o5 => -- Op.indexAddr 131 (Operand.tmp 194) (Operand.tmp 192)
    intro xv V hE hp
    have r2 : xv 2 = _ := hp.1
    have r4 : xv 4 = _ := hp.2.1
    clear hp
    simp only [putD, List.foldl_nil, List.foldl_cons, List.getD_cons_zero, List.getD_cons_succ, Act.put, List.setIfInBounds_toArray, List.set_cons_zero, List.set_cons_succ]
    refine OpGoal.plain ?_
    go_wp2_with fail
    exact ⟨rfl, Ext.refl _, rfl⟩
  case o6 => -- Op.load 5 (Operand.tmp 195)
    intro xv V hE hp
    have r5 : xv 5 = _ := hp.1
    clear hp
    have km : V.cell? ⟨g, 98, none⟩ = some (.int .u8 0) := (hG.ext ((Ext.drew w).trans hE)).map (i := 92) (by omega)
    simp only [putD, List.foldl_nil, List.foldl_cons, List.getD_cons_zero, List.getD_cons_succ, Act.put, List.setIfInBounds_toArray, List.set_cons_zero, List.set_cons_succ]
    refine OpGoal.plain ?_
    go_wp2_with fail
    exact ⟨rfl, Ext.refl _, rfl⟩
  case last =>
    intro xv V hE hp
    have r0 : xv 0 = _ := hp.1
    have r1 : xv 1 = _ := hp.2.1
    have r2 : xv 2 = _ := hp.2.2.1
    have r3 : xv 3 = _ := hp.2.2.2.1
    have r4 : xv 4 = _ := hp.2.2.2.2.1
    have r5 : xv 5 = _ := hp.2.2.2.2.2.1
    have r6 : xv 6 = _ := hp.2.2.2.2.2.2.1
    clear hp
    simp only [putD, List.foldl_nil, List.foldl_cons, List.getD_cons_zero, List.getD_cons_succ, Act.put, List.length_cons, List.length_nil, List.range_succ, List.range_zero, List.nil_append, List.cons_append, List.setIfInBounds_toArray, List.set_cons_zero, List.set_cons_succ]
    have hV := (Ext.drew w).trans hE
    have d4 := (hG.ext hV).c4
    have t0 := (ht.ext hV).c0
    clear c2 c4
    go_wp2_with fail
    apply wp_region_seq (l := [_, _, _, _, _, _, _, _, _, _, _, _]) (t := [_]) [some 212, some 213, some 214, some 215, some 216, some 217, some 218, some 219, some 220, some 221, some 222, some 223, some 224] [[], [0], [1], [2], [], [3, 4], [5], [], [7], [], [], [], [6, 8, 9, 10, 11]] [1, 2, 3, 5, 5, 6, 12, 8, 12, 12, 12, 12] [eqv _, eqv _, eqv _, eqv _, eqv _, eqv _, eqv _, eqv _, eqv _, eqv _, eqv _, eqv _] (by kernel_rfl) (by kernel_rfl) ⟨?o0, ?o1, ?o2, ?o3, ?o4, ?o5, ?o6, ?o7, ?o8, ?o9, ?o10, ?o11, trivial⟩ ?last
    case o0 => -- Op.move (Operand.tmp 0)
      intro xv V1 hE _
      simp only [putD, List.foldl_nil, List.getD_cons_zero]
      refine OpGoal.plain ?_
      go_wp2_with fail
      exact ⟨rfl, Ext.refl _, rfl⟩
    case o1 => -- Op.nilCheck (Operand.tmp 212)
      intro xv V1 hE hp
      have r0 : xv 0 = _ := hp.1
      clear hp
      simp only [putD, List.foldl_nil, List.foldl_cons, List.getD_cons_zero, List.getD_cons_succ, Act.put, List.setIfInBounds_toArray, List.set_cons_zero, List.set_cons_succ]
      refine OpGoal.plain ?_
      go_wp2_with fail
      exact ⟨rfl, Ext.refl _, rfl⟩
    case o2 => -- Op.fieldAddr 167 (Operand.tmp 213) 4
      intro xv V1 hE hp
      have r1 : xv 1 = _ := hp.1
      clear hp
      simp only [putD, List.foldl_nil, List.foldl_cons, List.getD_cons_zero, List.getD_cons_succ, Act.put, List.setIfInBounds_toArray, List.set_cons_zero, List.set_cons_succ]
      refine OpGoal.plain ?_
      go_wp2_with fail
      exact ⟨rfl, Ext.refl _, rfl⟩
    case o3 => -- Op.load 165 (Operand.tmp 214)
      intro xv V1 hE hp
      have r2 : xv 2 = _ := hp.1
      clear hp
      have hx := hV.trans ((Ext.drew V).trans hE); have f4 := (hG.ext hx).c4; have f0 := (ht.ext hx).c0
      simp only [putD, List.foldl_nil, List.foldl_cons, List.getD_cons_zero, List.getD_cons_succ, Act.put, List.setIfInBounds_toArray, List.set_cons_zero, List.set_cons_succ]
      refine OpGoal.plain ?_
      go_wp2_with fail
      exact ⟨rfl, Ext.refl _, rfl⟩
    case o4 => -- Op.move (Operand.tmp 14)
      intro xv V1 hE _
      simp only [putD, List.foldl_nil, List.getD_cons_zero, List.getD_cons_succ]
      refine OpGoal.plain ?_
      go_wp2_with fail
      exact ⟨rfl, Ext.refl _, rfl⟩
    case o5 => -- Op.indexAddr 165 (Operand.tmp 215) (Operand.tmp 216)
      intro xv V1 hE hp
      have r3 : xv 3 = _ := hp.1
      have r4 : xv 4 = _ := hp.2.1
      clear hp
      simp only [putD, List.foldl_nil, List.foldl_cons, List.getD_cons_zero, List.getD_cons_succ, Act.put, List.setIfInBounds_toArray, List.set_cons_zero, List.set_cons_succ]
      refine OpGoal.plain ?_
      go_wp2_with fail
      exact ⟨rfl, Ext.refl _, rfl⟩
    case o6 => -- Op.load 164 (Operand.tmp 217)
      intro xv V1 hE hp
      have r5 : xv 5 = _ := hp.1
      clear hp
      have hx := hV.trans ((Ext.drew V).trans hE); have f4 := (hG.ext hx).c4; have f0 := (ht.ext hx).c0
      simp only [putD, List.foldl_nil, List.foldl_cons, List.getD_cons_zero, List.getD_cons_succ, Act.put, List.setIfInBounds_toArray, List.set_cons_zero, List.set_cons_succ]
      refine OpGoal.plain ?_
      go_wp2_with fail
      exact ⟨rfl, Ext.refl _, rfl⟩
    case o7 => -- Op.move (Operand.tmp 1)
      intro xv V1 hE _
      simp only [putD, List.foldl_nil, List.getD_cons_zero, List.getD_cons_succ]
      refine OpGoal.plain ?_
      go_wp2_with fail
      exact ⟨rfl, Ext.refl _, rfl⟩
    case o8 => -- Op.slice 9 (Operand.tmp 219) (some (Operand.const (Value.int IntKind.i64 1))) no
      intro xv V1 hE hp
      have r7 : xv 7 = _ := hp.1
      clear hp
      simp only [putD, List.foldl_nil, List.foldl_cons, List.getD_cons_zero, List.getD_cons_succ, Act.put, List.setIfInBounds_toArray, List.set_cons_zero, List.set_cons_succ]
      refine OpGoal.plain ?_
      go_wp2_with fail
      exact ⟨rfl, Ext.refl _, rfl⟩
    case o9 => -- Op.move (Operand.tmp 2)
      intro xv V1 hE _
      simp only [putD, List.foldl_nil, List.getD_cons_zero, List.getD_cons_succ]
      refine OpGoal.plain ?_
      go_wp2_with fail
      exact ⟨rfl, Ext.refl _, rfl⟩
    case o10 => -- Op.move (Operand.tmp 3)
      intro xv V1 hE _
      simp only [putD, List.foldl_nil, List.getD_cons_zero, List.getD_cons_succ]
      refine OpGoal.plain ?_
      go_wp2_with fail
      exact ⟨rfl, Ext.refl _, rfl⟩
    case o11 => -- Op.move (Operand.tmp 4)
      intro xv V1 hE _
      simp only [putD, List.foldl_nil, List.getD_cons_zero, List.getD_cons_succ]
      refine OpGoal.plain ?_
      go_wp2_with fail
      exact ⟨rfl, Ext.refl _, rfl⟩
    case last =>
      intro xv V1 hE hp
      have r0 : xv 0 = _ := hp.1
      have r1 : xv 1 = _ := hp.2.1
      have r2 : xv 2 = _ := hp.2.2.1
      have r3 : xv 3 = _ := hp.2.2.2.1
      have r4 : xv 4 = _ := hp.2.2.2.2.1
      have r5 : xv 5 = _ := hp.2.2.2.2.2.1
      have r6 : xv 6 = _ := hp.2.2.2.2.2.2.1
      have r7 : xv 7 = _ := hp.2.2.2.2.2.2.2.1
      have r8 : xv 8 = _ := hp.2.2.2.2.2.2.2.2.1
      have r9 : xv 9 = _ := hp.2.2.2.2.2.2.2.2.2.1
      have r10 : xv 10 = _ := hp.2.2.2.2.2.2.2.2.2.2.1
      have r11 : xv 11 = _ := hp.2.2.2.2.2.2.2.2.2.2.2.1
      clear hp
      simp only [putD, List.foldl_nil, List.foldl_cons, List.getD_cons_zero, List.getD_cons_succ, Act.put, List.length_cons, List.length_nil, List.range_succ, List.range_zero, List.nil_append, List.cons_append, List.setIfInBounds_toArray, List.set_cons_zero, List.set_cons_succ]
      have hx := hV.trans ((Ext.drew V).trans hE)
      have H0 := hG.ext hx
      have H2 : Nd V1 a _ _ _ _ _ := ha.of_block (Below.block hx _ ha.lt)
      have hga : g ≠ a := fun e => (H0.neN H2) e.symm
      have hll := add_split a b g v p V1 H2 H0.lt hga H0.c5 (H0.map (i := 92) (by omega)) (H0.map (i := 110) (by omega))
      go_wp2_with fail
      refine hll.mono ?_
      rintro e w2 ⟨rfl, t1, c, T, h1, h2, n1, h5, n2, hU⟩
      go_wp2_with fail
      go_end0
      have hz := hx.sz
      exact ⟨rfl, t1, c, by omega, by omega, n1, ⟨T, h5⟩, n2, (Upd.ext _ hx).trans hU⟩
end Go.Proofs.YthppcmejffdicaaGreatDoor
