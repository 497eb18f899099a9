/- Plain facts about the digests of layer 3: what the functions compute, on lists of bytes; nothing of the program. -/
import Derived.Below
import Derived.Laws.OwnMore
import Derived.Laws.IdiomStrings
import Derived.Deep.Draws
import Derived.Laws.StructEq
import Derived.Test.YtggkkjnfonbpkaaGreatDoorRows
import Derived.ProofKit
import Derived.ShutString
import Derived.OpenShut
import Derived.Carry
import Derived.Lib.SmallJoins
import Derived.SliceStrings

set_option linter.unusedSimpArgs false
set_option linter.unusedVariables false
namespace Hach
open Go Go.RowKit

/- one step of a digest -/
def stp (m p x : Nat) (c : UInt8) : Nat := (m * x + c.toNat + 1) % p
def rX (l : List UInt8) : Nat := l.foldl (stp 48271 2147483647) 31
def rY (l : List UInt8) : Nat := l.foldl (stp 40692 2147483629) 37
theorem rX_snoc (l : List UInt8) (c : UInt8) : rX (l ++ [c]) = stp 48271 2147483647 (rX l) c := by simp [rX]
theorem rY_snoc (l : List UInt8) (c : UInt8) : rY (l ++ [c]) = stp 40692 2147483629 (rY l) c := by simp [rY]
theorem foldl_stp_lt (m p x : Nat) (hp : 0 < p) (hx : x < p) (l : List UInt8) : l.foldl (stp m p) x < p := by
  induction l generalizing x with
  | nil => exact hx
  | cons c l ih => exact ih _ (Nat.mod_lt _ hp)
theorem rX_lt (l : List UInt8) : rX l < 2147483647 := foldl_stp_lt _ _ _ (by omega) (by omega) l
theorem rY_lt (l : List UInt8) : rY l < 2147483629 := foldl_stp_lt _ _ _ (by omega) (by omega) l

/- four bytes of a number -/
def b4l (n : Nat) : List UInt8 := [UInt8.ofNat (n / 16777216), UInt8.ofNat (n / 65536), UInt8.ofNat (n / 256), UInt8.ofNat n]
def b4 (n : Nat) : ByteArray := ⟨(b4l n).toArray⟩
/- the digest of a list of bytes -/
def dgl (l : List UInt8) : List UInt8 := b4l (rX l) ++ b4l (rY l)
def dg (s : ByteArray) : ByteArray := ⟨(dgl s.data.toList).toArray⟩
theorem dgl_length (l : List UInt8) : (dgl l).length = 8 := rfl
theorem dg_size (s : ByteArray) : (dg s).size = 8 := rfl
theorem b4_size (n : Nat) : (b4 n).size = 4 := rfl
/- a byte of a digest, as a number -/
def dgb (l : List UInt8) (i : Nat) : Nat := ((dgl l).getD i 0).toNat
theorem dgb_lt (l : List UInt8) (i : Nat) : dgb l i < 256 := UInt8.toNat_lt _
theorem dgb_vals (l : List UInt8) :
    ((rX l : Int) / 16777216 = dgb l 0 ∧ (rX l : Int) / 65536 % 256 = dgb l 1 ∧ (rX l : Int) / 256 % 256 = dgb l 2 ∧ (rX l : Int) % 256 = dgb l 3) ∧
    ((rY l : Int) / 16777216 = dgb l 4 ∧ (rY l : Int) / 65536 % 256 = dgb l 5 ∧ (rY l : Int) / 256 % 256 = dgb l 6 ∧ (rY l : Int) % 256 = dgb l 7) := by
  have hx := rX_lt l
  have hy := rY_lt l
  have e : ∀ n : Nat, (UInt8.ofNat n).toNat = n % 256 := fun n => by simp
  refine ⟨⟨?_, ?_, ?_, ?_⟩, ?_, ?_, ?_, ?_⟩ <;> simp only [dgb, dgl, b4l, List.cons_append, List.nil_append, List.getD_cons_zero, List.getD_cons_succ, e] <;> omega
/- the digest as a value: eight bytes -/
def dgv (l : List UInt8) : Value := .agg #[.int .u8 (dgb l 0), .int .u8 (dgb l 1), .int .u8 (dgb l 2), .int .u8 (dgb l 3), .int .u8 (dgb l 4), .int .u8 (dgb l 5), .int .u8 (dgb l 6), .int .u8 (dgb l 7)]
theorem dgv_eq (l : List UInt8) : (.agg #[.int .u8 ((rX l : Int) / 16777216), .int .u8 ((rX l : Int) / 65536 % 256), .int .u8 ((rX l : Int) / 256 % 256), .int .u8 ((rX l : Int) % 256),
    .int .u8 ((rY l : Int) / 16777216), .int .u8 ((rY l : Int) / 65536 % 256), .int .u8 ((rY l : Int) / 256 % 256), .int .u8 ((rY l : Int) % 256)] : Value) = dgv l := by
  obtain ⟨⟨a, b, c, d⟩, a', b', c', d'⟩ := dgb_vals l
  rw [a, b, c, d, a', b', c', d']; rfl
/- strings, one after the other -/
def cat (ss : List ByteArray) : List UInt8 := ss.flatMap fun s => s.data.toList
theorem cat_snoc (ss : List ByteArray) (s : ByteArray) : cat (ss ++ [s]) = cat ss ++ s.data.toList := by simp [cat]

theorem data_append (a b : ByteArray) : (a ++ b).data.toList = a.data.toList ++ b.data.toList := by
  show (ByteArray.append a b).data.toList = _
  simp
theorem ba_ext {a b : ByteArray} (h : a.data.toList = b.data.toList) : a = b := by
  cases a; cases b; simp at h; simp [h]
theorem eq_of_toList {a b : ByteArray} (h : a.toList = b.toList) : a = b := by
  rw [ByteArray.toList_eq, ByteArray.toList_eq] at h
  exact ba_ext h
theorem dg_eq (s : ByteArray) : b4 (rX s.data.toList) ++ b4 (rY s.data.toList) = dg s := by
  apply ba_ext; rw [data_append]; rfl

/- a slice of strings: below block B the cells of A read as ss -/
def Strs (w : World) (B : Nat) (A : Option Addr) (n : Nat) (ss : List ByteArray) : Prop :=
  ss.length = n ∧ (0 < n → ∃ b o : Nat, A = some ⟨b, o, none⟩ ∧ b < B ∧ ∀ j, j < n → w.cell? ⟨b, o + j, none⟩ = some (.string (ss.getD j ByteArray.empty)))
theorem Strs.len {w : World} {B : Nat} {A : Option Addr} {n : Nat} {ss : List ByteArray} (h : Strs w B A n ss) : ss.length = n := h.1
theorem Strs.at_ {w : World} {B : Nat} {A : Option Addr} {n : Nat} {ss : List ByteArray} (h : Strs w B A n ss) {k : Nat} (hk : k < n) :
    ∃ b o : Nat, A = some ⟨b, o, none⟩ ∧ b < B ∧ ∀ j, j < n → w.cell? ⟨b, o + j, none⟩ = some (.string (ss.getD j ByteArray.empty)) := h.2 (by omega)
theorem Strs.keep {w w' : World} {B : Nat} {A : Option Addr} {n : Nat} {ss : List ByteArray} (h : Strs w B A n ss) (hk : ∀ p : Addr, p.block < B → w'.cell? p = w.cell? p) : Strs w' B A n ss :=
  ⟨h.1, fun hn => by
    obtain ⟨b, o, e, hb, hc⟩ := h.2 hn
    exact ⟨b, o, e, hb, fun j hj => (hk ⟨b, o + j, none⟩ hb).trans (hc j hj)⟩⟩
theorem Strs.below {w w' : World} {B C : Nat} {A : Option Addr} {n : Nat} {ss : List ByteArray} (h : Strs w B A n ss) (hb : Below C w w') (hB : B ≤ C) : Strs w' B A n ss :=
  h.keep fun _ hp => hb.cell (by omega)
theorem Strs.more {w : World} {B C : Nat} {A : Option Addr} {n : Nat} {ss : List ByteArray} (h : Strs w B A n ss) (hB : B ≤ C) : Strs w C A n ss :=
  ⟨h.1, fun hn => by
    obtain ⟨b, o, e, hb, hc⟩ := h.2 hn
    exact ⟨b, o, e, by omega, hc⟩⟩
theorem Strs.nil (w : World) (B : Nat) (A : Option Addr) : Strs w B A 0 [] := ⟨rfl, fun h => absurd h (by omega)⟩

/- a new block of strings -/
theorem Strs.new (w : World) (ss : List ByteArray) (t : TypeId) (fr : Nat × Nat) (cs : Array Value) (h : cs = (ss.map Value.string).toArray) : Strs (w.alloc (.cells cs t fr)) (w.heap.size + 1) (some ⟨w.heap.size, 0, none⟩) ss.length ss := by
  subst h
  refine ⟨rfl, fun _ => ⟨w.heap.size, 0, rfl, by omega, fun j hj => ?_⟩⟩
  rw [World.cell?_alloc_mark]
  simp [List.getD, List.getElem?_eq_getElem hj]
/- the first 30 bytes of a string; the first 20 strings -/
def cut30 (s : ByteArray) : ByteArray := s.extract 0 (min s.size 30)
def lst0 (ss : List ByteArray) : List ByteArray := ss.take 20
def lst (ss : List ByteArray) : List ByteArray := (lst0 ss).map cut30
/- the digest as a string -/
def dgs (l : List UInt8) : ByteArray := ⟨(dgl l).toArray⟩
theorem dg_dgs (s : ByteArray) : dg s = dgs s.data.toList := rfl
theorem dgs_size (l : List UInt8) : (dgs l).size = 8 := rfl
theorem dgs_of (l : List UInt8) : (⟨([dgb l 0, dgb l 1, dgb l 2, dgb l 3, dgb l 4, dgb l 5, dgb l 6, dgb l 7].map fun n => UInt8.ofNat n).toArray⟩ : ByteArray) = dgs l := by
  unfold dgs
  congr 1
  simp only [List.map_cons, List.map_nil, dgb, UInt8.ofNat_toNat]
  rfl
def lf (s : ByteArray) : ByteArray := dg (⟨#[3]⟩ ++ s)
/- two lists of strings compared -/
def sameL (a b : List ByteArray) : Bool := a.map (·.data.toList) == b.map (·.data.toList)
theorem map_data_inj : ∀ {a b : List ByteArray}, a.map (·.data.toList) = b.map (·.data.toList) → a = b
  | [], [], _ => rfl
  | [], _ :: _, h => by simp at h
  | _ :: _, [], h => by simp at h
  | x :: a, y :: b, h => by
    simp only [List.map_cons, List.cons.injEq] at h
    rw [ba_ext h.1, map_data_inj h.2]
theorem sameL_iff {a b : List ByteArray} : sameL a b = true ↔ a = b := by
  unfold sameL
  rw [beq_iff_eq]
  exact ⟨map_data_inj, fun h => by rw [h]⟩
theorem sameL_false {a b : List ByteArray} (h : a ≠ b) : sameL a b = false := by
  cases e : sameL a b with
  | false => rfl
  | true => exact absurd (sameL_iff.1 e) h
/- the neighbour of a place -/
def nbr (k : Nat) : Nat := if k % 2 = 0 then k + 1 else k - 1
/- what stands above two digests -/
def node (a b : ByteArray) : ByteArray := dg (⟨#[4]⟩ ++ a ++ b)
theorem node_size (a b : ByteArray) : (node a b).size = 8 := rfl
theorem node_cat (a b : ByteArray) : dgs (cat [⟨#[4]⟩, a, b]) = node a b := by
  rw [node, dg_dgs]; simp [cat]
theorem lf_cat (a : ByteArray) : dgs (cat [⟨#[3]⟩, a]) = lf a := by
  rw [lf, dg_dgs]; simp [cat]
/- the root that a digest, a place and a proof come to -/
def up : List ByteArray → ByteArray → Nat → Option ByteArray
  | [], d, _ => some d
  | p :: ps, d, i => if p.size = 8 then up ps (if i % 2 = 0 then node d p else node p d) (i / 2) else none
def upOk (i : Int) (n : Nat) : Bool := decide (0 ≤ i) && decide (n ≤ 40) && decide (i < 2 ^ n)
def upF (d : ByteArray) (i : Int) (ps : List ByteArray) : Option ByteArray := if upOk i ps.length then up ps d i.toNat else none
def ver (r x : ByteArray) (i : Int) (ps : List ByteArray) : Bool := match upF (lf x) i ps with
  | some d => d.toList == r.toList
  | none => false
def upV : Option ByteArray → Value
  | some r => .tuple #[.string r, .bool true]
  | none => .tuple #[.string ⟨#[]⟩, .bool false]
theorem upF_neg {d : ByteArray} {i : Int} {ps : List ByteArray} (h : upOk i ps.length = false) : upF d i ps = none := by simp [upF, h]
theorem upF_pos {d : ByteArray} {i : Int} {ps : List ByteArray} (h : upOk i ps.length = true) : upF d i ps = up ps d i.toNat := by simp [upF, h]
/- strings of modest sizes -/
def Sm (ss : List ByteArray) : Prop := ∀ k, (ss.getD k ByteArray.empty).size < 4294967296
theorem Sm.nil : Sm [] := fun _ => Nat.zero_lt_succ _
theorem Sm.cons {s : ByteArray} {ss : List ByteArray} (h : s.size < 4294967296) (hs : Sm ss) : Sm (s :: ss) := fun k => by
  match k with
  | 0 => exact h
  | k + 1 => exact hs k
/- what a chain, a mark are digests of -/
def chn (b s : ByteArray) : ByteArray := dg (⟨#[1]⟩ ++ b4 b.size ++ b ++ s)
def mrk (k m : ByteArray) : ByteArray := dg (⟨#[2]⟩ ++ b4 k.size ++ k ++ m ++ k)
def chk (k m x : ByteArray) : Bool := !k.toList.isEmpty && x.toList == (mrk k m).toList
theorem lf_size (s : ByteArray) : (lf s).size = 8 := rfl
theorem chn_size (b s : ByteArray) : (chn b s).size = 8 := rfl
theorem mrk_size (b s : ByteArray) : (mrk b s).size = 8 := rfl
theorem chn_cat (b s : ByteArray) : dgs (cat [⟨#[1]⟩, b4 b.size, b, s]) = chn b s := by
  rw [chn, dg_dgs]; simp [cat]
theorem mrk_cat (k m : ByteArray) : dgs (cat [⟨#[2]⟩, b4 k.size, k, m, k]) = mrk k m := by
  rw [mrk, dg_dgs]; simp [cat]
theorem cat_one (s : ByteArray) : dgs (cat [s]) = dg s := by simp [cat, dg_dgs]

theorem below_alloc (w : World) (o : Obj) : Below w.heap.size w (w.alloc o) := (Below.refl _ _).alloc (Nat.le_refl _) o

end Hach

/- The frame of a law that changes nothing: its arguments read behind the call as before. -/
namespace Go.Proofs.YtggkkjnfonbpkaaGreatDoor
open Go.RowKit Hach
open Go.ChangeShapes Go.WideShapes Go.ChangeAt

theorem laid : laidOutB Tryz.prog = true := by kernel_rfl
theorem trodAll_back {P : Program} (hl : laidOutB P = true) {H : Type} {enc : TypeId × Value → H} {W W' : World} (hb : Below W.heap.size W W') : ∀ (ts : List TypeId) (vs : List Value) (ds : List (DataW H)) (ps : List MemPlace), (∀ t ∈ ts, P.readableRec t = true ∧ t < P.types.size) →
    DataW.TrodAll enc P W 0 (fun _ => true) true ts vs ds ps → (∀ x ∈ ps, x.block < W.heap.size) → DataW.TrodAll enc P W' 0 (fun b => decide (b < W.heap.size)) true ts vs ds ps
  | [], vs, ds, ps, _, h, _ => by
    obtain ⟨rfl, rfl, rfl⟩ := trodAll_nil h
    exact trodAll_mk0
  | t :: ts, vs, ds, ps, ht, h, hlt => by
    obtain ⟨v, vs', d, ds', p, q, rfl, rfl, rfl, h0, r0⟩ := trodAll_cons h
    have h1 := ht t (List.mem_cons_self ..)
    exact trodAll_cons_mk (Below.trod hl h1.1 h1.2 h0 hb (fun x hx => hlt x (List.mem_append_left _ hx)))
      (trodAll_back hl hb ts vs' ds' q (fun u hu => ht u (List.mem_cons_of_mem _ hu)) r0 (fun x hx => hlt x (List.mem_append_right _ hx)))
theorem args_back {P : Program} (hl : laidOutB P = true) {H : Type} {enc : TypeId × Value → H} {W W' : World} (hb : Below W.heap.size W W') (ts : List TypeId) (vs : List Value) (ds : List (DataW H)) (ps : List MemPlace) (ht : (ts.all fun t => P.readableRec t && decide (t < P.types.size)) = true)
    (hA : DataW.TrodAll enc P W 0 (fun _ => true) true ts vs ds ps) (hlt : ∀ x ∈ ps, x.block < W.heap.size) : DataW.TrodAll enc P W' 0 (fun b => decide (b < W.heap.size)) true ts vs ds ps :=
  trodAll_back hl hb ts vs ds ps (fun t h => by
    have := List.all_eq_true.1 ht t h
    rw [Bool.and_eq_true] at this
    exact ⟨this.1, of_decide_eq_true this.2⟩) hA hlt
end Go.Proofs.YtggkkjnfonbpkaaGreatDoor
