/- The contract of the law's cut. -/
import Derived.Test.YtggkkjnfonbpkaaDoorQEf

set_option linter.unusedSimpArgs false
set_option linter.unusedVariables false
namespace Go.Proofs.YtggkkjnfonbpkaaDoor
open Go.RowKit Hach

def InI (n : Int) : Prop := -9223372036854775808 ≤ n ∧ n ≤ 9223372036854775807
/- whatever came in -/
mutual
def Ex.raw : Ex → Prop
  | .mk op var ty n _ s l => InI op ∧ InI var ∧ InI ty ∧ InI n ∧ s.length < 9223372036854775808 ∧ l.length < 9223372036854775808 ∧ Ex.raws l
def Ex.raws : List Ex → Prop
  | [] => True
  | e :: l => e.raw ∧ Ex.raws l
end
/- what is small enough -/
mutual
def Ex.fit : Ex → Prop
  | .mk op var ty n _ s l => InI op ∧ InI var ∧ InI ty ∧ InI n ∧ s.length ≤ 30 ∧ Ex.fits l
def Ex.fits : List Ex → Prop
  | [] => True
  | e :: l => e.fit ∧ Ex.fits l
end
theorem Ex.raws_mem {x : Ex} : ∀ {l : List Ex}, Ex.raws l → x ∈ l → x.raw
  | e :: l, h, hx => by
    rcases List.mem_cons.1 hx with rfl | hx
    · exact h.1
    · exact Ex.raws_mem h.2 hx
theorem Ex.fits_of {l : List Ex} : (∀ x ∈ l, x.fit) → Ex.fits l := by
  induction l with
  | nil => intro _; trivial
  | cons e l ih => intro h; exact ⟨h e List.mem_cons_self, ih fun x hx => h x (List.mem_cons_of_mem _ hx)⟩
theorem Ex.fits_mem {x : Ex} : ∀ {l : List Ex}, Ex.fits l → x ∈ l → x.fit
  | e :: l, h, hx => by
    rcases List.mem_cons.1 hx with rfl | hx
    · exact h.1
    · exact Ex.fits_mem h.2 hx
def cutSize : Nat → Nat
  | 0 => 1
  | k + 1 => 1 + 4 * cutSize k
theorem sizes_bound {l : List Ex} {n m : Nat} (h : ∀ x ∈ l, x.size ≤ m) (hl : l.length ≤ n) : Ex.sizes l ≤ n * m := by
  induction l generalizing n with
  | nil => simp [Ex.sizes]
  | cons e l ih =>
    obtain ⟨k, rfl⟩ : ∃ k, n = k + 1 := ⟨n - 1, by simp at hl; omega⟩
    have h1 := h e List.mem_cons_self
    have h2 := ih (n := k) (fun x hx => h x (List.mem_cons_of_mem _ hx)) (by simpa using hl)
    simp only [Ex.sizes, Nat.add_mul, Nat.one_mul]; omega
theorem take_cut (s : List UInt8) (k : Nat) : (⟨s.toArray⟩ : ByteArray).extract 0 (min (⟨s.toArray⟩ : ByteArray).size k) = ⟨(s.take k).toArray⟩ := by
  have hs : (⟨s.toArray⟩ : ByteArray).size = s.length := by show s.toArray.size = _; simp
  rw [hs]
  have e : ∀ m, (⟨s.toArray⟩ : ByteArray).extract 0 m = ⟨(s.take m).toArray⟩ := fun m => by
    have : ((⟨s.toArray⟩ : ByteArray).extract 0 m).data = (s.take m).toArray := by rw [ByteArray.data_extract]; simp
    rw [← this]
  rw [e]
  congr 2
  rcases Nat.le_total s.length k with h | h
  · rw [Nat.min_eq_left h, List.take_of_length_le (Nat.le_refl _), List.take_of_length_le h]
  · rw [Nat.min_eq_right h]
theorem Kids.app {W wb : World} {B : Nat} {v v1 : Value} {d : Nat} {us : List Nd} {nd : Nd} {lo : Nat} (hK : Kids W (SO B W v) d us) (hk : ExL W (fun b => lo ≤ b ∧ b < W.heap.size) d nd.A nd.x.l) (hlo : B ≤ lo) (hv : ∀ b, v.ownBlock = some b → b < lo) (hg : W.grownBy wb v.ownBlock) (hn : v1.ownBlock = v.ownBlock ∨ v1.ownBlock = some W.heap.size) :
    Kids wb (SO B wb v1) d (us ++ [nd]) := by
  have hsz := hg.size
  have key : ∀ b, B ≤ b → b < W.heap.size → v.ownBlock ≠ some b → (∀ o', wb.cell? ⟨b, o', none⟩ = W.cell? ⟨b, o', none⟩) ∧ SO B wb v1 b := fun b h1 h2 h3 => ⟨fun o' => grown_cell hg h2 h3 o', h1, by omega, fun e => by
    rcases hn with h | h
    · exact h3 (h ▸ e)
    · rw [h] at e; simp only [Option.some.injEq] at e; omega⟩
  refine Kids.snoc (Kids.more (Kids.keep hK fun b hb o' => (key b hb.1 hb.2.1 hb.2.2).1 o') fun b hb => (key b hb.1 hb.2.1 hb.2.2).2) ?_
  have h4 : ∀ b, lo ≤ b → v.ownBlock ≠ some b := fun b h e => by have := hv b e; omega
  exact (hk.keep fun b hb o' => (key b (by omega) hb.2 (h4 b hb.1)).1 o').more fun b hb => (key b (by omega) hb.2 (h4 b hb.1)).2
theorem Kids.ext {w w' : World} {B d : Nat} {v : Value} {us : List Nd} (h : Kids w (SO B w v) d us) (hE : Ext w w') : Kids w' (SO B w' v) d us :=
  (h.keep fun b hb o => hE.old (p := ⟨b, o, none⟩) hb.2.1).more fun b hb => ⟨hb.1, Nat.lt_of_lt_of_le hb.2.1 hE.sz, hb.2.2⟩
theorem fresh_ext {w w' : World} {lo d : Nat} {A : Option Addr} {l : List Ex} (h : ExL w (fun b => lo ≤ b ∧ b < w.heap.size) d A l) (hE : Ext w w') : ExL w' (fun b => lo ≤ b ∧ b < w'.heap.size) d A l :=
  (h.keep fun b hb o => hE.old (p := ⟨b, o, none⟩) hb.2).more fun b hb => ⟨hb.1, Nat.lt_of_lt_of_le hb.2 hE.sz⟩
theorem InBlk.new2 (w : World) (x : Ex) (A : Option Addr) (c : Nat) : InBlk (w.alloc (.cells (x.cells A c).toArray 29)) w.heap.size x (.slice A x.l.length c) := InBlk.new w x _

/- what comes back: an expression of at most so many levels -/
def MadeE (dp N : Nat) (w : World) (r : Ending) (w' : World) : Prop := ∃ (e' : Ex) (A' : Option Addr) (c' : Nat), r = .returned (.agg #[.int .i64 e'.op, .int .i64 e'.var, .int .i64 e'.ty, .int .i64 e'.n, .bool e'.b, .string ⟨e'.s.toArray⟩, .slice A' e'.l.length c']) ∧ ExL w' (fun b => w.heap.size ≤ b ∧ b < w'.heap.size) dp A' e'.l ∧ e'.size ≤ N ∧ e'.fit ∧ Ext w w'
theorem full_txt (sv : ByteArray) (h : sv.size ≤ 30) : ∃ s' : List UInt8, sv = ⟨s'.toArray⟩ ∧ s'.length ≤ 30 := ⟨sv.data.toList, by rw [Array.toArray_toList], by rw [Array.length_toList]; exact h⟩
end Go.Proofs.YtggkkjnfonbpkaaDoor
