/- strings.Replacer's build, for the replacer that hides: two bytes, each with two bytes that stand for it. -/
import Derived.Test.YthppcmejffdicaaGreatDoorQJzb
import Derived.Great.Walk
import Derived.Lib.ConvBytes

set_option linter.unusedSimpArgs false
set_option linter.unusedVariables false
namespace Go.Proofs.YthppcmejffdicaaGreatDoor
open Go.RowKit Hach Num Jn

/- four strings in a row -/
structure Four (w : World) (o : Nat) (x0 x1 x2 x3 : ByteArray) : Prop where
  lt : o < w.heap.size
  c0 : w.cell? ⟨o, 0, none⟩ = some (.string x0)
  c1 : w.cell? ⟨o, 1, none⟩ = some (.string x1)
  c2 : w.cell? ⟨o, 2, none⟩ = some (.string x2)
  c3 : w.cell? ⟨o, 3, none⟩ = some (.string x3)
theorem Four.ext {w w' : World} {o : Nat} {x0 x1 x2 x3 : ByteArray} (h : Four w o x0 x1 x2 x3) (hE : Ext w w') : Four w' o x0 x1 x2 x3 :=
  ⟨Nat.lt_of_lt_of_le h.lt hE.sz, (hE.old (p := ⟨o, 0, none⟩) h.lt).trans h.c0, (hE.old (p := ⟨o, 1, none⟩) h.lt).trans h.c1, (hE.old (p := ⟨o, 2, none⟩) h.lt).trans h.c2, (hE.old (p := ⟨o, 3, none⟩) h.lt).trans h.c3⟩

/- the byte replacer as it is made: no byte is replaced -/
def bsr0 (v : Value) : Array Value := (List.replicate 256 (Value.slice none 0 0) ++ [v]).toArray
theorem built148 (x : Option Addr) (n c : Nat) : Tryz.prog.built 148 [(1, .slice x n c)] = some (bsr0 (.slice x n c)) := by kernel_rfl

theorem wpList_built {P : Program} {ops : Array Oper} {rest : List Oper} {o : Oper} {a : Act} {w : World} {Q : Exit → Act → World → Prop} (hg : o.guard = none) (t : TypeId) (parts : Array (Nat × Operand)) (ho : o.op = .build t parts)
    (cells : Array Value) (hf : P.built t (parts.map fun (i, x) => (i, a.eval x)).toList = some cells)
    (h : wpList P ops Q rest (a.put o.dst (.agg cells)) w) : wpList P ops Q (o :: rest) a w := wpList_build hg t parts ho (by rw [hf]; rfl) (by rw [hf]; exact h)
theorem made2 (x : Value) : madeCells #[x] 2 = #[x, x] := by
  unfold madeCells
  apply Array.toList_inj.1
  rw [Array.toList_map, Array.toList_range]
  simp [List.range_succ]
theorem make02 (w : World) : (Instr.makeSlice 36 (.int .i64 0) (.int .i64 2)).run Tryz.prog w = .ok (.slice (some ⟨w.heap.size, 0, none⟩) 0 2) (w.alloc (.cells #[.string ⟨#[]⟩, .string ⟨#[]⟩] 9)) := by
  obtain ⟨i0, hi, hz0, hz1, hz2⟩ := info_parts infoS
  have h := run_make (P := Tryz.prog) w 36 9 i0 (.string ⟨#[]⟩) Tryz.underlying36 hi hz0 .i64 .i64 0 2 (by omega) (by omega) (by rw [hz2]; omega) (by omega)
  rw [hz1, show (Int.toNat 2 * 1) = 2 from rfl, show (Value.string ⟨#[]⟩).cells = #[.string ⟨#[]⟩] from rfl, made2] at h
  exact h
theorem infoB : (Tryz.prog.info? 148).map (·.size) = some 257 := by kernel_rfl
theorem zB_eq : Tryz.zeroCells148 = bsr0 (.slice none 0 0) := by kernel_rfl
theorem bsr0_set (v : Value) : (Tryz.zeroCells148).setIfInBounds 256 v = bsr0 v := by
  rw [zB_eq]
  unfold bsr0
  apply Array.toList_inj.1
  rw [Array.toList_setIfInBounds]
  show (List.replicate 256 _ ++ [_]).set 256 v = _
  rw [List.set_append_right _ _ (by rw [List.length_replicate]; exact Nat.le_refl _), List.length_replicate]
  rfl
theorem bsr0_size (v : Value) : (bsr0 v).size = 257 := by
  unfold bsr0
  rw [List.size_toArray, List.length_append, List.length_replicate]
  rfl
theorem bsr0_get (v : Value) (i : Nat) (hi : i < 257) : (bsr0 v)[i]? = some (if i = 256 then v else .slice none 0 0) := by
  unfold bsr0
  rw [List.getElem?_toArray]
  by_cases h : i = 256
  · subst h
    rw [if_pos rfl, List.getElem?_append_right (by rw [List.length_replicate]; exact Nat.le_refl _), List.length_replicate]
    rfl
  · rw [if_neg h, List.getElem?_append_left (by rw [List.length_replicate]; omega), List.getElem?_replicate, if_pos (by omega)]
theorem bsr0_one (x : Option Addr) (n c : Nat) : (bsr0 (.slice x n c)).all (·.oneCell') = true := by
  rw [Array.all_eq_true_iff_forall_mem]
  intro v hv
  unfold bsr0 at hv
  rw [List.mem_toArray, List.mem_append] at hv
  rcases hv with h | h
  · rw [(List.mem_replicate.1 h).2]; rfl
  · rw [List.mem_singleton.1 h]; rfl
/- the store of the whole row -/
set_option maxRecDepth 100000 in
theorem store_bsr {ops : Array Oper} {rest : List Oper} {o : Oper} {a : Act} {w0 : World} {Q : Exit → Act → World → Prop} (hgd : o.guard = none) (ty : TypeId) (x y : Operand) (ho : o.op = .store ty x y) (hty : ty = 148)
    (w : World) (hw : w = (w0.alloc (.cells #[.string ⟨#[]⟩, .string ⟨#[]⟩] 9)).alloc (.cells Tryz.zeroCells148 148))
    (hx : a.eval x = .pointer (some ⟨w0.heap.size + 1, 0, none⟩)) (z : Option Addr) (n c : Nat) (cs : Array Value) (hcs : cs = (Tryz.zeroCells148).setIfInBounds 256 (.slice z n c)) (hy : a.eval y = .agg cs)
    (h : ∀ W, Ext w0 W → W.heap[w0.heap.size]? = some (.cells #[.string ⟨#[]⟩, .string ⟨#[]⟩] 9 (0, 0)) → W.rowIs (w0.heap.size + 1) 148 257 (fun i => if i = 256 then .slice z n c else .slice none 0 0) → wpList Tryz.prog ops Q rest (a.put o.dst undef) W) :
    wpList Tryz.prog ops Q (o :: rest) a w := by
  subst hty hcs hw
  have hs : (w0.alloc (.cells #[.string ⟨#[]⟩, .string ⟨#[]⟩] 9)).heap.size = w0.heap.size + 1 := Array.size_push _
  have hg : ((w0.alloc (.cells #[.string ⟨#[]⟩, .string ⟨#[]⟩] 9)).alloc (.cells Tryz.zeroCells148 148)).heap[w0.heap.size + 1]? = some (.cells Tryz.zeroCells148 148 (0, 0)) := by
    rw [← hs]; exact Array.getElem?_push_size
  rw [bsr0_set] at hy
  refine wpList_store_row hgd _ x y ho (w0.heap.size + 1) (bsr0 (.slice z n c)) hx hy _ _ hg (by rw [infoB, bsr0_size]) (by rw [bsr0_size, zB_eq, bsr0_size]) (bsr0_one _ _ _) ?_
  refine h _ ?_ ?_ ⟨_, setRow_heap _ _ _ _ _ _ hg, bsr0_size _, fun i hi => bsr0_get _ i hi⟩
  · exact below_setRow ((Ext.alloc w0 _).trans (Ext.alloc _ _)) (Nat.le_succ _) _
  · rw [setRow_other _ _ _ _ (by omega), Below.heap_alloc _ _ _ (by rw [hs]; omega)]
    exact Array.getElem?_push_size

theorem nil_nil (w : World) : (binOp .eql 57 (.slice none 0 0) (.slice none 0 0)).run Tryz.prog w = .ok (.bool true) w := by kernel_rfl
theorem byte1 (w : World) (y : UInt8) (n : Int) (hn : n = (y.toNat : Nat)) : (convert 57 9 (.slice (some ⟨w.heap.size, 0, none⟩) 1 1)).run Tryz.prog (w.alloc (.cells #[.int .u8 n] 5)) = .ok (.string ⟨#[y]⟩) (w.alloc (.cells #[.int .u8 n] 5)) := by
  subst hn
  refine one_byte (y := y) ?_ 1
  simp
theorem two_new (w : World) (o1 : Obj) (v : Value) (t : TypeId) (fr : Nat × Nat) : ((w.alloc o1).alloc (.cells #[v] t fr)).cell? ⟨w.heap.size + 1, 0, none⟩ = some v := by
  have h : (w.alloc o1).heap.size = w.heap.size + 1 := Array.size_push _
  rw [← h, World.cell?_alloc_mark]
  rfl
/- one string more, where there is room -/
theorem app_room {ops : Array Oper} {rest : List Oper} {o : Oper} {a : Act} {w : World} {Q : Exit → Act → World → Prop} (hgd : o.guard = none) (s x : Tmp)
    (ho : o.op = .call { callee := .builtin .append, args := #[.tmp s, .tmp x], argTypes := #[36, 36] }) (h k : Nat) (hk : k < 2) (hs : a.eval (.tmp s) = .slice (some ⟨h, 0, none⟩) k 2)
    (g : Nat) (t : ByteArray) (hx : a.eval (.tmp x) = .slice (some ⟨g, 0, none⟩) 1 1) (hc : w.cell? ⟨g, 0, none⟩ = some (.string t)) (v : Value) (h1 : w.cell? ⟨h, k, none⟩ = some v) (hf : w.frozen? ⟨h, k, none⟩ = false)
    (hK : wpList Tryz.prog ops Q rest (a.put o.dst (.slice (some ⟨h, 0, none⟩) (k + 1) 2)) (w.setCell ⟨h, k, none⟩ (.string t))) : wpList Tryz.prog ops Q (o :: rest) a w := by
  obtain ⟨i0, hi, hz0, hz1, hz2⟩ := info_parts infoS
  refine wpList_plain hgd fun K hK' => ?_
  have hrun := run_append_room_cells (P := Tryz.prog) w 36 o.type 9 i0 Tryz.underlying36 hi h 0 k 2 ⟨g, 0, none⟩ 1 1 [.string t] (by rw [hz1]; rfl) (by
    intro j u hu
    match j, hu with
    | 0, hu => simp at hu; subst hu; simpa [Addr.add] using hc
    | j + 1, hu => simp at hu) (by intro u hu; simp at hu; subst hu; rfl) (by omega) (by
    intro j hj
    obtain rfl : j = 0 := by simpa using hj
    rw [hz1, Nat.mul_one, Nat.add_zero, Nat.zero_add, h1]; rfl) (by
    intro j hj
    obtain rfl : j = 0 := by simpa using hj
    rw [hz1, Nat.mul_one, Nat.add_zero, Nat.zero_add]; exact hf)
  rw [hz1, Nat.mul_one, Nat.zero_add] at hrun
  have e : w.setCells h k [.string t] = w.setCell ⟨h, k, none⟩ (.string t) := by simp [World.setCells]
  rw [e] at hrun
  unfold Oper.wp
  simp [execOp, ho, resolve, invoke, builtin, hs, hx, hrun, Result.andThen]
  exact hK' _ _ hK
/- the bytes of a string, in a new block -/
theorem conv_bytes {ops : Array Oper} {rest : List Oper} {o : Oper} {a : Act} {w : World} {Q : Exit → Act → World → Prop} (hgd : o.guard = none) (x : Tmp)
    (ho : o.op = .convert 9 57 (.tmp x)) (s : ByteArray) (hx : a.eval (.tmp x) = .string s)
    (hK : ∀ c W, Ext w W → W.heap.size = w.heap.size + 1 → (∀ j, j < s.size → W.cell? ⟨w.heap.size, j, none⟩ = some (.int .u8 (s.data.toList.getD j 0).toNat)) → wpList Tryz.prog ops Q rest (a.put o.dst (.slice (some ⟨w.heap.size, 0, none⟩) s.size c)) W) : wpList Tryz.prog ops Q (o :: rest) a w := by
  refine wpList_plain hgd fun K hK' => ?_
  have hrun := Lib.run_convert_string_bytes (P := Tryz.prog) w 9 57 5 s Tryz.underlying9 Tryz.underlying57 Tryz.underlying5
  unfold Oper.wp
  simp [execOp, ho, hx, hrun, Result.andThen]
  exact hK' _ _ (hK _ _ ⟨rfl, rfl, rfl, by rw [Lib.bytesWorld_size]; omega, fun k hk => Lib.bytesWorld_at_old _ _ _ _ hk⟩ (Lib.bytesWorld_size _ _ _) (fun j hj => Lib.bytesWorld_cell _ _ _ j hj))
/- the world ahead of that conversion -/
theorem chain_row {w : World} {h k : Nat} {T : TypeId} {f : Nat → Value} (t v : Value) (o1 o2 : Obj) (hR : w.rowIs (h + 1) T 257 f) :
    ((((w.setCell ⟨h, k, none⟩ t).setCell ⟨h + 1, 256, none⟩ v).alloc o1).alloc o2).rowIs (h + 1) T 257 (fun j => if j = 256 then v else f j) :=
  (((hR.setOther (a := ⟨h, k, none⟩) (by show h + 1 ≠ h; omega) _).set 256 _).alloc _).alloc _
theorem chain_two {w : World} {h k : Nat} {T : TypeId} {x y x' y' : Value} (t v : Value) (o1 o2 : Obj) (hh : w.heap[h]? = some (.cells #[x, y] T (0, 0))) (hk : (k = 0 ∧ x' = t ∧ y' = y) ∨ (k = 1 ∧ x' = x ∧ y' = t)) :
    ((((w.setCell ⟨h, k, none⟩ t).setCell ⟨h + 1, 256, none⟩ v).alloc o1).alloc o2).heap[h]? = some (.cells #[x', y'] T (0, 0)) := by
  have hl : h < w.heap.size := (Array.getElem?_eq_some_iff.1 hh).1
  have s1 : ((w.setCell ⟨h, k, none⟩ t).setCell ⟨h + 1, 256, none⟩ v).heap.size = w.heap.size := (setCell_size _ _ _).trans (setCell_size _ _ _)
  have s2 : (((w.setCell ⟨h, k, none⟩ t).setCell ⟨h + 1, 256, none⟩ v).alloc o1).heap.size = w.heap.size + 1 := (Array.size_push _).trans (by rw [s1])
  rw [Below.heap_alloc _ _ _ (by rw [s2]; omega), Below.heap_alloc _ _ _ (by rw [s1]; omega), Below.heap_setCell _ _ _ _ (by show h ≠ h + 1; omega)]
  rcases hk with ⟨rfl, rfl, rfl⟩ | ⟨rfl, rfl, rfl⟩ <;> simp [World.setCell, Array.getElem?_modify, hh]
theorem chain_ext {w0 w : World} {h k : Nat} (t v : Value) (o1 o2 : Obj) (hE : Ext w0 w) (hh : w0.heap.size ≤ h) (hl : w0.heap.size ≤ w.heap.size) : Ext w0 ((((w.setCell ⟨h, k, none⟩ t).setCell ⟨h + 1, 256, none⟩ v).alloc o1).alloc o2) := by
  have s1 : ((w.setCell ⟨h, k, none⟩ t).setCell ⟨h + 1, 256, none⟩ v).heap.size = w.heap.size := (setCell_size _ _ _).trans (setCell_size _ _ _)
  have h1 : Below w0.heap.size w0 ((w.setCell ⟨h, k, none⟩ t).setCell ⟨h + 1, 256, none⟩ v) := (Below.setCell hE hh _).setCell (by show _ ≤ h + 1; omega) _
  exact (h1.alloc (by rw [s1]; exact hl) _).alloc (by show _ ≤ (World.alloc _ _).heap.size; rw [show (World.alloc _ o1).heap.size = _ from Array.size_push _, s1]; omega) _
theorem chain_size {w : World} {h k : Nat} (t v : Value) (o1 o2 : Obj) : ((((w.setCell ⟨h, k, none⟩ t).setCell ⟨h + 1, 256, none⟩ v).alloc o1).alloc o2).heap.size = w.heap.size + 2 := by
  rw [show (World.alloc _ o2).heap.size = _ from Array.size_push _, show (World.alloc _ o1).heap.size = _ from Array.size_push _, setCell_size, setCell_size]
/- the replacer when k of its bytes are in -/
structure Bld (w : World) (h g k : Nat) : Prop where
  hh : ∃ x y, w.heap[h]? = some (.cells #[.string x, .string y] 9 (0, 0)) ∧ (1 ≤ k → x = ⟨#[10]⟩) ∧ (2 ≤ k → y = ⟨#[92]⟩)
  row : ∃ f : Nat → Value, w.rowIs g 148 257 f ∧ f 256 = .slice (some ⟨h, 0, none⟩) k 2 ∧ (∀ i, i < 256 → i ≠ 10 → i ≠ 92 → f i = .slice none 0 0) ∧ (k = 0 → f 10 = .slice none 0 0) ∧ (k ≤ 1 → f 92 = .slice none 0 0) ∧
    (1 ≤ k → ∃ a c, a < w.heap.size ∧ a ≠ g ∧ a ≠ h ∧ f 10 = .slice (some ⟨a, 0, none⟩) 2 c ∧ w.cell? ⟨a, 0, none⟩ = some (.int .u8 92) ∧ w.cell? ⟨a, 1, none⟩ = some (.int .u8 110)) ∧
    (2 ≤ k → ∃ a c, a < w.heap.size ∧ a ≠ g ∧ a ≠ h ∧ f 92 = .slice (some ⟨a, 0, none⟩) 2 c ∧ w.cell? ⟨a, 0, none⟩ = some (.int .u8 92) ∧ w.cell? ⟨a, 1, none⟩ = some (.int .u8 92))
theorem two_cells {w : World} {h : Nat} {x y : ByteArray} {t : TypeId} (hh : w.heap[h]? = some (.cells #[.string x, .string y] t (0, 0))) :
    h < w.heap.size ∧ w.cell? ⟨h, 0, none⟩ = some (.string x) ∧ w.cell? ⟨h, 1, none⟩ = some (.string y) ∧ w.frozen? ⟨h, 0, none⟩ = false ∧ w.frozen? ⟨h, 1, none⟩ = false :=
  ⟨(Array.getElem?_eq_some_iff.1 hh).1, by simp [World.cell?, hh], by simp [World.cell?, hh], by simp [World.frozen?, hh], by simp [World.frozen?, hh]⟩

theorem round_ext {w wr W' : World} {k i : Nat} {t v u : Value} {o1 o2 : Obj} (hE : Ext w wr) (hW : Ext ((((wr.setCell ⟨w.heap.size, k, none⟩ t).setCell ⟨w.heap.size + 1, 256, none⟩ v).alloc o1).alloc o2) W') : Ext w (W'.setCell ⟨w.heap.size + 1, i, none⟩ u) :=
  Below.setCell ((chain_ext t v o1 o2 hE (Nat.le_refl _) hE.sz).trans hW) (by show w.heap.size ≤ w.heap.size + 1; omega) u
theorem round0 {w wr W' : World} {x y : ByteArray} {f : Nat → Value} {c : Nat} (hE : Ext w wr) (hh : wr.heap[w.heap.size]? = some (.cells #[.string x, .string y] 9 (0, 0))) (hR : wr.rowIs (w.heap.size + 1) 148 257 f)
    (f256 : f 256 = .slice (some ⟨w.heap.size, 0, none⟩) 0 2) (fn : ∀ i, i < 256 → i ≠ 10 → i ≠ 92 → f i = .slice none 0 0) (f92 : f 92 = .slice none 0 0) {o1 o2 : Obj}
    (hW : Ext ((((wr.setCell ⟨w.heap.size, 0, none⟩ (.string ⟨#[10]⟩)).setCell ⟨w.heap.size + 1, 256, none⟩ (.slice (some ⟨w.heap.size, 0, none⟩) 1 2)).alloc o1).alloc o2) W')
    (hWs : W'.heap.size = ((((wr.setCell ⟨w.heap.size, 0, none⟩ (.string ⟨#[10]⟩)).setCell ⟨w.heap.size + 1, 256, none⟩ (.slice (some ⟨w.heap.size, 0, none⟩) 1 2)).alloc o1).alloc o2).heap.size + 1)
    (hWc : ∀ j, j < (⟨#[92, 110]⟩ : ByteArray).size → W'.cell? ⟨((((wr.setCell ⟨w.heap.size, 0, none⟩ (.string ⟨#[10]⟩)).setCell ⟨w.heap.size + 1, 256, none⟩ (.slice (some ⟨w.heap.size, 0, none⟩) 1 2)).alloc o1).alloc o2).heap.size, j, none⟩ = some (.int .u8 ((⟨#[92, 110]⟩ : ByteArray).data.toList.getD j 0).toNat)) :
    Bld (W'.setCell ⟨w.heap.size + 1, 10, none⟩ (.slice (some ⟨wr.heap.size + 1 + 1, 0, none⟩) 2 c)) w.heap.size (w.heap.size + 1) 1 := by
  have hsz := chain_size (w := wr) (h := w.heap.size) (k := 0) (.string ⟨#[10]⟩) (.slice (some ⟨w.heap.size, 0, none⟩) 1 2) o1 o2
  have hg := hR.lt
  have R1 := chain_row (k := 0) (.string ⟨#[10]⟩) (.slice (some ⟨w.heap.size, 0, none⟩) 1 2) o1 o2 hR
  have C1 := chain_two (k := 0) (.string ⟨#[10]⟩) (.slice (some ⟨w.heap.size, 0, none⟩) 1 2) o1 o2 hh (.inl ⟨rfl, rfl, rfl⟩)
  rw [hsz] at hWs hWc
  refine ⟨⟨⟨#[10]⟩, y, ?_, fun _ => rfl, fun h => by omega⟩, ⟨_, (R1.of_block (Below.block hW _ R1.lt)).set 10 _, by simp, fun i h1 h2 h3 => ?_, fun h => by omega, fun _ => ?_, fun _ => ?_, fun h => by omega⟩⟩
  · rw [Below.heap_setCell _ _ _ _ (by show w.heap.size ≠ w.heap.size + 1; omega), Below.block hW _ (by rw [hsz]; omega)]
    exact C1
  · simp only [if_neg h2, if_neg (show i ≠ 256 by omega)]; exact fn i h1 h2 h3
  · simp only [if_neg (show (92 : Nat) ≠ 10 by omega), if_neg (show (92 : Nat) ≠ 256 by omega)]; exact f92
  · refine ⟨wr.heap.size + 1 + 1, c, by rw [setCell_size, hWs]; omega, by omega, by omega, by simp, ?_, ?_⟩
    · rw [World.cell?_setCell_other _ _ _ _ (by intro e; have := congrArg Addr.block e; simp at this; omega)]; exact hWc 0 (by decide)
    · rw [World.cell?_setCell_other _ _ _ _ (by intro e; have := congrArg Addr.block e; simp at this; omega)]; exact hWc 1 (by decide)
theorem round1 {w wr W' : World} {x y : ByteArray} {f : Nat → Value} {c : Nat} (hE : Ext w wr) (hh : wr.heap[w.heap.size]? = some (.cells #[.string x, .string y] 9 (0, 0))) (hx : x = ⟨#[10]⟩) (hR : wr.rowIs (w.heap.size + 1) 148 257 f)
    (f256 : f 256 = .slice (some ⟨w.heap.size, 0, none⟩) 1 2) (fn : ∀ i, i < 256 → i ≠ 10 → i ≠ 92 → f i = .slice none 0 0) {o1 o2 : Obj}
    (ha : ∃ a c, a < wr.heap.size ∧ a ≠ w.heap.size + 1 ∧ a ≠ w.heap.size ∧ f 10 = .slice (some ⟨a, 0, none⟩) 2 c ∧ wr.cell? ⟨a, 0, none⟩ = some (.int .u8 92) ∧ wr.cell? ⟨a, 1, none⟩ = some (.int .u8 110))
    (hW : Ext ((((wr.setCell ⟨w.heap.size, 1, none⟩ (.string ⟨#[92]⟩)).setCell ⟨w.heap.size + 1, 256, none⟩ (.slice (some ⟨w.heap.size, 0, none⟩) 2 2)).alloc o1).alloc o2) W')
    (hWs : W'.heap.size = ((((wr.setCell ⟨w.heap.size, 1, none⟩ (.string ⟨#[92]⟩)).setCell ⟨w.heap.size + 1, 256, none⟩ (.slice (some ⟨w.heap.size, 0, none⟩) 2 2)).alloc o1).alloc o2).heap.size + 1)
    (hWc : ∀ j, j < (⟨#[92, 92]⟩ : ByteArray).size → W'.cell? ⟨((((wr.setCell ⟨w.heap.size, 1, none⟩ (.string ⟨#[92]⟩)).setCell ⟨w.heap.size + 1, 256, none⟩ (.slice (some ⟨w.heap.size, 0, none⟩) 2 2)).alloc o1).alloc o2).heap.size, j, none⟩ = some (.int .u8 ((⟨#[92, 92]⟩ : ByteArray).data.toList.getD j 0).toNat)) :
    Bld (W'.setCell ⟨w.heap.size + 1, 92, none⟩ (.slice (some ⟨wr.heap.size + 1 + 1, 0, none⟩) 2 c)) w.heap.size (w.heap.size + 1) 2 := by
  subst hx
  have hsz := chain_size (w := wr) (h := w.heap.size) (k := 1) (.string ⟨#[92]⟩) (.slice (some ⟨w.heap.size, 0, none⟩) 2 2) o1 o2
  have hg := hR.lt
  have R1 := chain_row (k := 1) (.string ⟨#[92]⟩) (.slice (some ⟨w.heap.size, 0, none⟩) 2 2) o1 o2 hR
  have C1 := chain_two (k := 1) (.string ⟨#[92]⟩) (.slice (some ⟨w.heap.size, 0, none⟩) 2 2) o1 o2 hh (.inr ⟨rfl, rfl, rfl⟩)
  rw [hsz] at hWs hWc
  obtain ⟨a, d, ha, a1, a2, a3, a4, a5⟩ := ha
  have old : ∀ j, (W'.setCell ⟨w.heap.size + 1, 92, none⟩ (.slice (some ⟨wr.heap.size + 1 + 1, 0, none⟩) 2 c)).cell? ⟨a, j, none⟩ = wr.cell? ⟨a, j, none⟩ := fun j => by
    refine World.cell?_of_block (w := wr) ?_
    show (World.setCell _ _ _).heap[a]? = wr.heap[a]?
    have s1 : ((wr.setCell ⟨w.heap.size, 1, none⟩ (.string ⟨#[92]⟩)).setCell ⟨w.heap.size + 1, 256, none⟩ (.slice (some ⟨w.heap.size, 0, none⟩) 2 2)).heap.size = wr.heap.size := (setCell_size _ _ _).trans (setCell_size _ _ _)
    rw [Below.heap_setCell _ _ _ _ (by exact a1), Below.block hW a (by rw [hsz]; omega), Below.heap_alloc _ _ _ (by rw [show (World.alloc _ o1).heap.size = _ from Array.size_push _, s1]; omega), Below.heap_alloc _ _ _ (by rw [s1]; exact ha),
      Below.heap_setCell _ _ _ _ (by exact a1), Below.heap_setCell _ _ _ _ (by exact a2)]
  refine ⟨⟨⟨#[10]⟩, ⟨#[92]⟩, ?_, fun _ => rfl, fun _ => rfl⟩, ⟨_, (R1.of_block (Below.block hW _ R1.lt)).set 92 _, by simp, fun i h1 h2 h3 => ?_, fun h => by omega, fun h => by omega, fun _ => ?_, fun _ => ?_⟩⟩
  · rw [Below.heap_setCell _ _ _ _ (by show w.heap.size ≠ w.heap.size + 1; omega), Below.block hW _ (by rw [hsz]; omega)]
    exact C1
  · simp only [if_neg h3, if_neg (show i ≠ 256 by omega)]; exact fn i h1 h2 h3
  · refine ⟨a, d, by rw [setCell_size, hWs]; omega, a1, a2, ?_, (old 0).trans a4, (old 1).trans a5⟩
    simp only [if_neg (show (10 : Nat) ≠ 92 by omega), if_neg (show (10 : Nat) ≠ 256 by omega)]; exact a3
  · refine ⟨wr.heap.size + 1 + 1, c, by rw [setCell_size, hWs]; omega, by omega, by omega, by simp, ?_, ?_⟩
    · rw [World.cell?_setCell_other _ _ _ _ (by intro e; have := congrArg Addr.block e; simp at this; omega)]; exact hWc 0 (by decide)
    · rw [World.cell?_setCell_other _ _ _ _ (by intro e; have := congrArg Addr.block e; simp at this; omega)]; exact hWc 1 (by decide)
theorem bld_bsr {w : World} {h g : Nat} (hB : Bld w h g 2) : Bsr w g := by
  obtain ⟨⟨x, y, hh, hx, hy⟩, ⟨f, hR, f256, fn, f10, f92, fa, fb⟩⟩ := hB
  obtain ⟨hl, c0, c1, -, -⟩ := two_cells hh
  obtain ⟨a, ac, a1, -, -, a2, a3, a4⟩ := fa (by omega)
  obtain ⟨b, bc, b1, -, -, b2, b3, b4⟩ := fb (by omega)
  rw [hx (by omega)] at c0
  rw [hy (by omega)] at c1
  exact ⟨hR.lt, fun c h1 h2 h3 => by rw [hR.cell (show c < 257 by omega), fn c h1 h2 h3], ⟨a, ac, a1, by rw [hR.cell (show 10 < 257 by omega), a2], a3, a4⟩, ⟨b, bc, b1, by rw [hR.cell (show 92 < 257 by omega), b2], b3, b4⟩, ⟨h, 2, hl, by rw [hR.cell (show 256 < 257 by omega), f256], c0, c1⟩⟩

set_option maxRecDepth 100000 in
set_option maxHeartbeats 2000000 in
theorem build_hide (b o cap : Nat) (w : World) (hb : w.cell? ⟨b, 4, none⟩ = some (.slice (some ⟨o, 0, none⟩) 4 cap)) (hF : Four w o ⟨#[92]⟩ ⟨#[92, 92]⟩ ⟨#[10]⟩ ⟨#[92, 110]⟩) :
    Calls Tryz.prog 85 #[.pointer (some ⟨b, 0, none⟩)] w fun e w' => ∃ g, e = .returned (.iface 149 (.pointer (some ⟨g, 0, none⟩))) ∧ Ext w w' ∧ w.heap.size ≤ g ∧ Bsr w' g := by
  obtain ⟨ho, h0, h1, h2, h3⟩ := hF
  go_enter Tryz.func85, Tryz.ntmps85
  go_wp2_with fail
  go_loop [4, 5] (fun av i => ∃ k : Nat, k ≤ 2 ∧ i = .int .i64 (2 * k : Nat) ∧ av = .bool (decide (k = 0))) (fun _ i => 4 - (intOf i).toNat)
  case atStart => exact ⟨0, by omega, rfl, rfl⟩
  case round =>
    obtain ⟨k, hk, rfl, rfl⟩ := hrel
    by_cases k0 : k = 0
    · subst k0
      go_wp2_with fail
      go_round
      case rel => exact ⟨1, by omega, rfl, rfl⟩
      case measure => simp [intOf]
    · by_cases k1 : k = 1
      · subst k1
        go_wp2_with fail
        go_round
        case rel => exact ⟨2, by omega, rfl, rfl⟩
        case measure => simp [intOf]
      · obtain rfl : k = 2 := by omega
        clear k0 k1
        have hmk := make02 w
        go_wp2_with (refine store_bsr (o := ⟨none, _, _, _, _, _⟩) rfl 148 (.tmp 11) (.tmp 95) rfl rfl (w0 := w) _ rfl rfl _ _ _ _ rfl rfl ?_; intro W hWE hWh hWr)
        have hg : W.heap.size ≥ w.heap.size + 2 := by have := hWr.lt; omega
        go_loopw [12] (fun i wr => ∃ k : Nat, k ≤ 2 ∧ i = .int .i64 (2 - 2 * (k : Int)) ∧ Ext w wr ∧ Bld wr w.heap.size (w.heap.size + 1) k) (fun i _ => (intOf i + 2).toNat)
        case atStart => exact ⟨0, by omega, rfl, hWE, ⟨_, _, hWh, fun h => by omega, fun h => by omega⟩, ⟨_, hWr, by simp, fun i hi _ _ => by simp; omega, fun _ => by simp, fun _ => by simp, fun h => by omega, fun h => by omega⟩⟩
        case round =>
          obtain ⟨k, hk, rfl, hE, hB⟩ := hrel
          have i0 := (hE.old (p := ⟨o, 0, none⟩) ho).trans h0
          have i1 := (hE.old (p := ⟨o, 1, none⟩) ho).trans h1
          have i2 := (hE.old (p := ⟨o, 2, none⟩) ho).trans h2
          have i3 := (hE.old (p := ⟨o, 3, none⟩) ho).trans h3
          have hb10 : ∀ h : 0 < (⟨#[10]⟩ : ByteArray).size, (⟨#[10]⟩ : ByteArray)[0]'h = 10 := fun _ => rfl
          have hb92 : ∀ h : 0 < (⟨#[92]⟩ : ByteArray).size, (⟨#[92]⟩ : ByteArray)[0]'h = 92 := fun _ => rfl
          obtain ⟨⟨x, y, hh, hx, hy⟩, ⟨f, hR, f256, fn, f10, f92, fa, fb⟩⟩ := hB
          obtain ⟨hl, c0, c1, z0, z1⟩ := two_cells hh
          have e256 := hR.cell (i := 256) (by omega)
          rw [f256] at e256
          have zg : ∀ i, wr.frozen? ⟨w.heap.size + 1, i, none⟩ = false := fun i => hR.frozen i
          have hgl := hR.lt
          clear h0 h1 h2 h3
          by_cases k0 : k = 0
          · subst k0
            have e10 := hR.cell (i := 10) (by omega)
            rw [f10 rfl] at e10
            have hnn := nil_nil
            have hcv := byte1 wr 10 10 rfl
            clear hx hy fa fb f10
            rw [show ((2 : Int) - 2 * ((0 : Nat) : Int)) = 2 from rfl]
            go_wp2_with (first
              | (at_builtin; refine app_room (o := ⟨some 124, _, _, _, _, _⟩) rfl 119 123 rfl w.heap.size 0 (by omega) rfl (wr.heap.size + 1) ⟨#[10]⟩ rfl (two_new wr _ _ _ _) (.string x) (((Ext.alloc _ _).trans (Ext.alloc _ _)).old (p := ⟨w.heap.size, 0, none⟩) hl |>.trans c0) (((Ext.alloc _ _).trans (Ext.alloc _ _)).frozen (p := ⟨w.heap.size, 0, none⟩) hl |>.trans z0) ?_)
              | (refine conv_bytes (o := ⟨some 128, _, _, _, _, _⟩) rfl 127 rfl ⟨#[92, 110]⟩ rfl ?_
                 intro c W' hW' hWs hWc
                 have R1 := (chain_row (k := 0) (.string ⟨#[10]⟩) (.slice (some ⟨w.heap.size, 0, none⟩) 1 2) (.cells #[.int .u8 10] 5) (.cells #[.string ⟨#[10]⟩] 9) hR).of_block (Below.block hW' _ (chain_row (k := 0) (.string ⟨#[10]⟩) (.slice (some ⟨w.heap.size, 0, none⟩) 1 2) (.cells #[.int .u8 10] 5) (.cells #[.string ⟨#[10]⟩] 9) hR).lt)
                 have y10 := R1.cell (i := 10) (by omega)
                 have yz := R1.frozen 10))
            go_roundw
            case rel =>
              exact ⟨1, by omega, rfl, round_ext hE hW', round0 hE hh hR f256 fn (f92 (by omega)) hW' hWs hWc⟩
            case measure => simp [intOf]
          · by_cases k1 : k = 1
            · subst k1
              have e92 := hR.cell (i := 92) (by omega)
              rw [f92 (by omega)] at e92
              have hnn := nil_nil
              have hcv := byte1 wr 92 92 rfl
              have hx1 := hx (by omega)
              have ha1 := fa (by omega)
              clear hx hy fa fb f92 f10
              rw [show ((2 : Int) - 2 * ((1 : Nat) : Int)) = 0 from rfl]
              go_wp2_with (first
                | (at_builtin; refine app_room (o := ⟨some 124, _, _, _, _, _⟩) rfl 119 123 rfl w.heap.size 1 (by omega) rfl (wr.heap.size + 1) ⟨#[92]⟩ rfl (two_new wr _ _ _ _) (.string y) (((Ext.alloc _ _).trans (Ext.alloc _ _)).old (p := ⟨w.heap.size, 1, none⟩) hl |>.trans c1) (((Ext.alloc _ _).trans (Ext.alloc _ _)).frozen (p := ⟨w.heap.size, 1, none⟩) hl |>.trans z1) ?_)
                | (refine conv_bytes (o := ⟨some 128, _, _, _, _, _⟩) rfl 127 rfl ⟨#[92, 92]⟩ rfl ?_
                   intro c W' hW' hWs hWc
                   have R1 := (chain_row (k := 1) (.string ⟨#[92]⟩) (.slice (some ⟨w.heap.size, 0, none⟩) 2 2) (.cells #[.int .u8 92] 5) (.cells #[.string ⟨#[92]⟩] 9) hR).of_block (Below.block hW' _ (chain_row (k := 1) (.string ⟨#[92]⟩) (.slice (some ⟨w.heap.size, 0, none⟩) 2 2) (.cells #[.int .u8 92] 5) (.cells #[.string ⟨#[92]⟩] 9) hR).lt)
                   have y10 := R1.cell (i := 92) (by omega)
                   have yz := R1.frozen 92))
              go_roundw
              case rel =>
                exact ⟨2, by omega, rfl, round_ext hE hW', round1 hE hh hx1 hR f256 fn ha1 hW' hWs hWc⟩
              case measure => simp [intOf]
            · obtain rfl : k = 2 := by omega
              rw [show ((2 : Int) - 2 * ((2 : Nat) : Int)) = -2 from rfl]
              have hfin := bld_bsr ⟨⟨x, y, hh, hx, hy⟩, ⟨f, hR, f256, fn, f10, f92, fa, fb⟩⟩
              clear hx hy fa fb f92 f10 k0 k1
              go_wp2_with fail
              go_ret
              exact ⟨_, rfl, hE, by omega, hfin⟩
end Go.Proofs.YthppcmejffdicaaGreatDoor
