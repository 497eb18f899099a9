/- What the law WireInverse keeps of the values that it is given. -/
import Derived.Test.YthdbdpfgccipdaaDoorTa
import Derived.Test.YthdbdpfgccipdaaDoorTb
import Derived.Test.YthdbdpfgccipdaaDoorTc
import Derived.Test.YthdbdpfgccipdaaDoorVf
namespace Go.Proofs.YthdbdpfgccipdaaDoor
open Go.RowKit Hach Num
open Go.Joins Go.ChangeShapes Go.WideShapes Go.Deep

theorem infoV : (Tryd.prog.info? 45).map (fun i => (i.zero, i.size, i.bytes)) = some (some (.agg #[.int .u8 0, .int .i64 0, .string ⟨#[]⟩, .slice none 0 0, .slice none 0 0]), 5, 80) := by kernel_rfl

structure Rec where
  q : Nat
  n : Int
  s : List UInt8
  A : Option Addr
  k : Nat
  c : Nat
  xs : List Int
  B : Option Addr
  m : Nat
  d : Nat
  ts : List (List UInt8)
def Rec.cells (r : Rec) : List Value := [.int .u8 r.q, .int .i64 r.n, .string ⟨r.s.toArray⟩, .slice r.A r.k r.c, .slice r.B r.m r.d]
def Rec.ser (r : Rec) : List UInt8 := Go.Proofs.YthdbdpfgccipdaaDoor.ser (r.q % 4) r.n r.s r.xs r.ts
structure Rec.Ok (r : Rec) : Prop where
  q : r.q < 256
  n : InI r.n
  s : r.s.length ≤ 100
  k : r.k ≤ 20
  xs : ∀ x ∈ r.xs, InI x
  m : r.m ≤ 20
  ts : ∀ t ∈ r.ts, t.length ≤ 100
/- its lists lie in memory, in blocks apart from one -/
structure Rec.At (W : World) (row : Option Nat) (r : Rec) : Prop where
  xs : RowI W W.heap.size r.A r.k r.xs
  ts : RowT W W.heap.size r.B r.m r.ts
  ax : 0 < r.k → ∀ a : Addr, r.A = some a → row ≠ some a.block
  bx : 0 < r.m → ∀ a : Addr, r.B = some a → row ≠ some a.block
theorem RowI.keep {W W' : World} {A : Option Addr} {k : Nat} {xs : List Int} {row : Option Nat} (h : RowI W W.heap.size A k xs) (hg : W.grownBy W' row) (ha : 0 < k → ∀ a : Addr, A = some a → row ≠ some a.block) : RowI W' W'.heap.size A k xs :=
  ⟨h.1, fun h0 => by
    obtain ⟨b, o, e, hb, hc⟩ := h.2 h0
    have hne := ha h0 _ e
    exact ⟨b, o, e, Nat.lt_of_lt_of_le hb hg.size, fun j hj => (World.cell?_of_block (a := ⟨b, o + j, none⟩) (hg.block b hb (fun e => hne e.symm))).trans (hc j hj)⟩⟩
theorem RowT.keep {W W' : World} {A : Option Addr} {k : Nat} {xs : List (List UInt8)} {row : Option Nat} (h : RowT W W.heap.size A k xs) (hg : W.grownBy W' row) (ha : 0 < k → ∀ a : Addr, A = some a → row ≠ some a.block) : RowT W' W'.heap.size A k xs :=
  ⟨h.1, fun h0 => by
    obtain ⟨b, o, e, hb, hc⟩ := h.2 h0
    have hne := ha h0 _ e
    exact ⟨b, o, e, Nat.lt_of_lt_of_le hb hg.size, fun j hj => (World.cell?_of_block (a := ⟨b, o + j, none⟩) (hg.block b hb (fun e => hne e.symm))).trans (hc j hj)⟩⟩
theorem Rec.At.ext {W W' : World} {row : Option Nat} {r : Rec} (h : r.At W row) (hE : Ext W W') : r.At W' row := ⟨h.xs.ext hE, h.ts.ext hE, h.ax, h.bx⟩
theorem RowI.lt {W : World} {A : Option Addr} {k : Nat} {xs : List Int} (h : RowI W W.heap.size A k xs) (h0 : 0 < k) {a : Addr} (e : A = some a) : a.block < W.heap.size := by
  obtain ⟨b, o, e', hb, _⟩ := h.2 h0
  rw [e] at e'
  injection e' with e'
  rw [e']; exact hb
theorem RowT.lt {W : World} {A : Option Addr} {k : Nat} {xs : List (List UInt8)} (h : RowT W W.heap.size A k xs) (h0 : 0 < k) {a : Addr} (e : A = some a) : a.block < W.heap.size := by
  obtain ⟨b, o, e', hb, _⟩ := h.2 h0
  rw [e] at e'
  injection e' with e'
  rw [e']; exact hb
/- behind an append: the row grew, and lies where it lay or in a new block -/
theorem Rec.At.grown {W W' : World} {row row' : Option Nat} {r : Rec} (h : r.At W row) (hg : W.grownBy W' row) (h2 : row' = row ∨ row' = some W.heap.size) : r.At W' row' := by
  refine ⟨h.xs.keep hg h.ax, h.ts.keep hg h.bx, fun h0 a e => ?_, fun h0 a e => ?_⟩
  · rcases h2 with rfl | rfl
    · exact h.ax h0 a e
    · have := h.xs.lt h0 e
      intro e'; simp only [Option.some.injEq] at e'; omega
  · rcases h2 with rfl | rfl
    · exact h.bx h0 a e
    · have := h.ts.lt h0 e
      intro e'; simp only [Option.some.injEq] at e'; omega

/- a block that is newer than its lists was written -/
theorem Rec.At.over {W0 W W' : World} {row : Option Nat} {r : Rec} {b : Nat} (h0 : r.At W0 row) (hE : Ext W0 W) (hg : W.grownBy W' (some b)) (hb : W0.heap.size ≤ b) : r.At W' row :=
  ⟨(h0.xs.ext hE).keep hg (fun h a e => by have := h0.xs.lt h e; intro e'; simp only [Option.some.injEq] at e'; omega), (h0.ts.ext hE).keep hg (fun h a e => by have := h0.ts.lt h e; intro e'; simp only [Option.some.injEq] at e'; omega), h0.ax, h0.bx⟩
theorem recs_small (us : List Rec) (h : ∀ u ∈ us, u.ser.length ≤ 3000) : ((us.map Rec.ser).flatten).length ≤ 3000 * us.length := flat_small Rec.ser 3000 us h
theorem Rec.Ok.ser {r : Rec} (h : r.Ok) (hx : r.xs.length ≤ 20) (ht : r.ts.length ≤ 20) : r.ser.length ≤ 3000 := ser_len h.n h.s hx h.xs ht h.ts

/- the values of the argument, in a row of memory -/
def RowV (W : World) (A : Option Addr) (n : Nat) : Prop :=
  0 < n → ∃ b o : Nat, A = some ⟨b, o, none⟩ ∧ b < W.heap.size ∧ ∀ j, j < n → ∃ (c0 c1 c2 c3 c4 : Value) (z : Nat) (n : Int) (s : List UInt8) (xs : List Int) (ts : List (List UInt8)),
    Parts W c0 c1 c2 c3 c4 z n s xs ts ∧ W.cell? ⟨b, o + j * 5, none⟩ = some c0 ∧ W.cell? ⟨b, o + j * 5 + 1, none⟩ = some c1 ∧ W.cell? ⟨b, o + j * 5 + 2, none⟩ = some c2 ∧ W.cell? ⟨b, o + j * 5 + 3, none⟩ = some c3 ∧ W.cell? ⟨b, o + j * 5 + 4, none⟩ = some c4

def OwnV (w : World) (base : Nat) (v : Value) (us : List Rec) : Prop := w.ownsRow base 45 5 v us.length (us.map Rec.cells).flatten
theorem OwnV.nil (w : World) (base : Nat) : OwnV w base (.slice none 0 0) [] := World.ownsRow_nil w base _ 5
theorem OwnV.ext {w w' : World} {base : Nat} {v : Value} {us : List Rec} (h : OwnV w base v us) (hE : Ext w w') : OwnV w' base v us := World.ownsRow.kept h (grown_ext hE none) (by cases v.ownBlock <;> simp)
theorem OwnV.lt {w : World} {base : Nat} {v : Value} {us : List Rec} (h : OwnV w base v us) : ∀ g, v.ownBlock = some g → base ≤ g ∧ g < w.heap.size := World.ownsRow.lt h
theorem recs_len (us : List Rec) : (us.map Rec.cells).flatten.length = us.length * 5 := by
  induction us with
  | nil => rfl
  | cons u us ih => simp only [List.map_cons, List.flatten_cons, List.length_append, ih, List.length_cons]; simp [Rec.cells]; omega
theorem recs_at (us : List Rec) (j : Nat) (hj : j < us.length) (i : Nat) (hi : i < 5) : (us.map Rec.cells).flatten[j * 5 + i]? = (us[j].cells)[i]? := by
  induction us generalizing j with
  | nil => simp at hj
  | cons u us ih =>
    have hc : u.cells.length = 5 := rfl
    simp only [List.map_cons, List.flatten_cons]
    cases j with
    | zero => rw [List.getElem?_append_left (by omega)]; simp
    | succ j =>
      rw [List.getElem?_append_right (by omega), show (j + 1) * 5 + i - u.cells.length = j * 5 + i by omega]
      exact ih j (by simpa using hj)
theorem OwnV.form {w : World} {base : Nat} {v : Value} {us : List Rec} (h : OwnV w base v us) : ∃ A c, v = .slice A us.length c ∧ (0 < us.length → ∃ b, A = some ⟨b, 0, none⟩ ∧ b < w.heap.size ∧ v.ownBlock = some b ∧ ∀ j (hj : j < us.length), ∀ i u, (us[j].cells)[i]? = some u → w.cell? ⟨b, j * 5 + i, none⟩ = some u) := by
  rcases h.2 with ⟨rfl, hn⟩ | ⟨g, cap, cur, rfl, hb, hg, r⟩
  · exact ⟨none, 0, by rw [hn], fun h0 => absurd h0 (by omega)⟩
  · refine ⟨_, _, rfl, fun _ => ⟨g, rfl, (Array.getElem?_eq_some_iff.1 hg).1, rfl, fun j hj i u hu => ?_⟩⟩
    have hi : i < 5 := (List.getElem?_eq_some_iff.1 hu).1
    have := World.ownsRow.cells h (g := g) rfl (j * 5 + i) u ((recs_at us j hj i hi).trans hu)
    simpa [Addr.add_lit] using this
theorem app_V {ops : Array Oper} {rest : List Oper} {o : Oper} {a : Act} {w : World} {Q : Exit → Act → World → Prop} (hgd : o.guard = none) (s x : Tmp)
    (ho : o.op = .call { callee := .builtin .append, args := #[.tmp s, .tmp x], argTypes := #[43, 43] }) (base : Nat) (v : Value) (us : List Rec) (hs : a.eval (.tmp s) = v) (hown : OwnV w base v us)
    (g : Nat) (t : Rec) (hx : a.eval (.tmp x) = .slice (some ⟨g, 0, none⟩) 1 1) (hc : ∀ i u, t.cells[i]? = some u → w.cell? ⟨g, i, none⟩ = some u) (hl : us.length < 4294967296) (hbase : base ≤ w.heap.size)
    (h : ∀ v' w', OwnV w' base v' (us ++ [t]) → w.grownBy w' v.ownBlock → (v'.ownBlock = v.ownBlock ∨ v'.ownBlock = some w.heap.size) → wpList Tryd.prog ops Q rest (a.put o.dst v') w') : wpList Tryd.prog ops Q (o :: rest) a w := by
  obtain ⟨i0, hi, hz0, hz1, hz2⟩ := info_parts infoV
  refine wpList_append_own_at w hgd _ _ _ ho base 45 i0 _ 5 80 Tryd.underlying43 hi hz0 hz1 hz2 rfl (by decide) v us.length (us.map Rec.cells).flatten hs hown ⟨g, 0, none⟩ 1 1 t.cells hx rfl ?_ ?_ ?_ ?_ hbase ?_
  · intro j u hu
    have e : (⟨g, 0, none⟩ : Addr).add j = ⟨g, j, none⟩ := by cases j <;> simp [Addr.add]
    rw [e]
    exact hc j u hu
  · intro u hu; simp [Rec.cells] at hu; rcases hu with rfl | rfl | rfl | rfl | rfl <;> rfl
  · simp only [maxLen]; omega
  · omega
  · intro v' w' h2 h3 _ h5
    refine h v' w' ?_ h3 h5
    unfold OwnV
    simpa using h2
/- a new block of one value -/
def slRec (t : Rec) (g : Nat) (W : World) : Prop := ∀ i u, t.cells[i]? = some u → W.cell? ⟨g, i, none⟩ = some u
end Go.Proofs.YthdbdpfgccipdaaDoor
