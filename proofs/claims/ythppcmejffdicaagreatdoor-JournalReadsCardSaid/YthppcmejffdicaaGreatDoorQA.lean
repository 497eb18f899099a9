/- Numerals: what is read of a numeral, by either side; plain, of no program. -/
import Derived.Lib.AtoiAllCases
import Derived.Lib.ItoaLen
import Derived.Lib.ItoaMem
import Derived.Below
import Derived.Laws.OwnMore
import Derived.Laws.IdiomStrings
import Derived.Deep.Draws
import Derived.Laws.StructEq

set_option linter.unusedSimpArgs false
set_option linter.unusedVariables false
namespace Go.Proofs.YthppcmejffdicaaGreatDoor.Num
open Go.Lib

def InI (v : Int) : Prop := -9223372036854775808 ≤ v ∧ v ≤ 9223372036854775807

theorem dig_toNat {i : Nat} (h : i < 10) : (UInt8.ofNat (48 + i)).toNat = 48 + i := by
  rw [UInt8.toNat_ofNat']; omega
theorem dec_ne_nil (u : Nat) : decDigits u ≠ [] := by
  rw [decDigits]; split <;> simp
theorem dec_digits : ∀ (u : Nat), ∀ c ∈ decDigits u, 48 ≤ c.toNat ∧ c.toNat ≤ 57 := by
  intro u
  induction u using Nat.strongRecOn with
  | _ u ih =>
    intro c hc
    rw [decDigits] at hc
    split at hc
    · rename_i h
      simp only [List.mem_singleton] at hc
      subst hc
      rw [dig_toNat h]; omega
    · rename_i h
      rcases List.mem_append.1 hc with hc | hc
      · exact ih (u / 10) (by omega) c hc
      · simp only [List.mem_singleton] at hc
        subst hc
        rw [dig_toNat (by omega)]; omega

/- parsing, from the left -/
theorem parse_append : ∀ (l r : List UInt8) (acc : Nat), parseUint10 acc (l ++ r) = match parseUint10 acc l with | .ok u => parseUint10 u r | e => e
  | [], r, acc => rfl
  | c :: l, r, acc => by
    simp only [List.cons_append, parseUint10]
    split
    · split
      · rfl
      · split
        · rfl
        · exact parse_append l r _
    · rfl
theorem parse_dec (u : Nat) (h : u < 18446744073709551616) : parseUint10 0 (decDigits u) = .ok u := by
  induction u using Nat.strongRecOn with
  | _ u ih =>
    rw [decDigits]
    split
    · rename_i h1
      simp only [parseUint10, dig_toNat h1]
      rw [if_pos (by omega), if_neg (by omega), if_neg (by omega)]
      congr 1; omega
    · rename_i h1
      rw [parse_append, ih (u / 10) (by omega) (by omega)]
      simp only [parseUint10, dig_toNat (show u % 10 < 10 by omega)]
      rw [if_pos (by omega), if_neg (by omega), if_neg (by omega)]
      congr 1; omega
theorem parseMag_dec (u : Nat) (h : u < 18446744073709551616) : parseMag (decDigits u) = .ok u := by
  unfold parseMag
  rw [if_neg (dec_ne_nil u), parse_dec u h]
theorem head_dec (u : Nat) : ∃ c r, decDigits u = c :: r ∧ 48 ≤ c.toNat ∧ c.toNat ≤ 57 := by
  match h : decDigits u with
  | [] => exact absurd h (dec_ne_nil u)
  | c :: r => exact ⟨c, r, rfl, dec_digits u c (by rw [h]; exact List.mem_cons_self)⟩
theorem atoi_itoa {v : Int} (h : InI v) : atoiAll (itoa v) = .ok v := by
  obtain ⟨h0, h1⟩ := h
  unfold itoa
  split
  · rename_i hn
    simp only [atoiAll]
    rw [show (45 : UInt8).toNat = 45 from rfl]
    simp only [or_true, if_true, parseMag_dec v.natAbs (by omega)]
    rw [if_neg (by simp), if_neg (by omega)]
    congr 1; omega
  · rename_i hn
    obtain ⟨c, r, e, k0, k1⟩ := head_dec v.toNat
    have hp := parseMag_dec v.toNat (by omega)
    rw [e] at hp ⊢
    simp only [atoiAll]
    rw [if_neg (by omega), hp]
    simp only
    rw [if_neg (by omega), if_neg (by omega), if_neg (by omega)]
    congr 1; omega

/- what a numeral says: of the given program -/
def num (d : List UInt8) : Option Int := match atoiAll d with | .ok v => if itoa v = d then some v else none | _ => none
theorem num_itoa {v : Int} (h : InI v) : num (itoa v) = some v := by
  unfold num; rw [atoi_itoa h]; simp
theorem num_some {d : List UInt8} {v : Int} (h : num d = some v) : itoa v = d ∧ InI v := by
  unfold num at h
  split at h
  · rename_i u hu
    split at h
    · rename_i hd
      simp only [Option.some.injEq] at h
      subst h
      exact ⟨hd, atoiAll_bounds hu⟩
    · cases h
  · cases h

/- of the reference: it computes with negative numbers -/
def negs (acc : Int) : List UInt8 → Option Int
  | [] => some acc
  | c :: r => if (c.toNat : Int) - 48 < 0 ∨ 9 < (c.toNat : Int) - 48 ∨ acc < -922337203685477580 ∨ (acc = -922337203685477580 ∧ 8 < (c.toNat : Int) - 48) then none else negs (10 * acc - ((c.toNat : Int) - 48)) r
theorem negs_append : ∀ (l r : List UInt8) (acc : Int), negs acc (l ++ r) = match negs acc l with | some u => negs u r | none => none
  | [], r, acc => rfl
  | c :: l, r, acc => by
    simp only [List.cons_append, negs]
    split
    · rfl
    · exact negs_append l r _
theorem negs_bounds : ∀ (l : List UInt8) (acc v : Int), -9223372036854775808 ≤ acc → acc ≤ 0 → negs acc l = some v → -9223372036854775808 ≤ v ∧ v ≤ 0
  | [], acc, v, h0, h1, h => by
    simp only [negs, Option.some.injEq] at h
    omega
  | c :: r, acc, v, h0, h1, h => by
    simp only [negs] at h
    split at h
    · cases h
    · exact negs_bounds r _ v (by omega) (by omega) h
theorem negs_dec (u : Nat) (h : u ≤ 9223372036854775808) : negs 0 (decDigits u) = some (-(u : Int)) := by
  induction u using Nat.strongRecOn with
  | _ u ih =>
    rw [decDigits]
    split
    · rename_i h1
      simp only [negs, dig_toNat h1]
      rw [if_neg (by omega)]
      congr 1; omega
    · rename_i h1
      rw [negs_append, ih (u / 10) (by omega) (by omega)]
      simp only [negs, dig_toNat (show u % 10 < 10 by omega)]
      rw [if_neg (by omega)]
      congr 1; omega
def rnum (d : List UInt8) : Option Int :=
  match negs 0 (if d.head? = some 45 then d.tail else d) with
  | none => none
  | some n => if d.head? = some 45 then (if itoa n = d then some n else none) else (if n = -9223372036854775808 then none else if itoa (-n) = d then some (-n) else none)
theorem rnum_some {d : List UInt8} {v : Int} (h : rnum d = some v) : itoa v = d ∧ InI v := by
  unfold rnum at h
  split at h
  · cases h
  · rename_i n hn
    have hb := negs_bounds _ 0 n (by omega) (by omega) hn
    split at h
    · split at h
      · rename_i he
        simp only [Option.some.injEq] at h
        subst h
        exact ⟨he, by unfold InI; omega⟩
      · cases h
    · split at h
      · cases h
      · split at h
        · rename_i he
          simp only [Option.some.injEq] at h
          subst h
          exact ⟨he, by unfold InI; omega⟩
        · cases h
theorem rnum_itoa {v : Int} (h : InI v) : rnum (itoa v) = some v := by
  obtain ⟨h0, h1⟩ := h
  by_cases hn : v < 0
  · have e : itoa v = 45 :: decDigits v.natAbs := by unfold itoa; rw [if_pos hn]
    unfold rnum
    rw [e]
    simp only [List.head?_cons, if_true, List.tail_cons]
    rw [negs_dec _ (by omega)]
    simp only
    have e2 : -((v.natAbs : Nat) : Int) = v := by omega
    rw [e2, e, if_pos rfl]
  · obtain ⟨c, r, e, k0, k1⟩ := head_dec v.toNat
    have e1 : itoa v = decDigits v.toNat := by unfold itoa; rw [if_neg hn]
    have hc : ¬ ((c :: r).head? = some (45 : UInt8)) := by
      intro hc
      simp only [List.head?_cons, Option.some.injEq] at hc
      subst hc
      exact absurd k0 (by decide)
    have hneg := negs_dec v.toNat (by omega)
    have e2 : - -((v.toNat : Nat) : Int) = v := by omega
    unfold rnum
    rw [e1, e]
    rw [e] at hneg
    rw [if_neg hc, hneg]
    simp only
    rw [if_neg hc, if_neg (by omega), e2, if_pos (e1.trans e)]
/- both sides read the same -/
theorem rnum_eq (d : List UInt8) : rnum d = num d := by
  match h : rnum d with
  | some v => obtain ⟨e, hv⟩ := rnum_some h; rw [← e, num_itoa hv]
  | none =>
    match h' : num d with
    | none => rfl
    | some v => obtain ⟨e, hv⟩ := num_some h'; rw [← e, rnum_itoa hv] at h; cases h
theorem num_length {d : List UInt8} {v : Int} (h : num d = some v) : d.length ≤ 21 := by
  obtain ⟨e, hv⟩ := num_some h
  rw [← e]; exact itoa_length_le v hv.1 hv.2
theorem itoa_inj {a b : Int} (ha : InI a) (hb : InI b) (h : itoa a = itoa b) : a = b := by
  have := num_itoa ha
  rw [h, num_itoa hb] at this
  simpa using this.symm
/- no sign of an end is in a numeral -/
theorem itoa_mem {v : Int} {c : UInt8} (h : c ∈ itoa v) : c.toNat = 45 ∨ (48 ≤ c.toNat ∧ c.toNat ≤ 57) := by
  unfold itoa at h
  split at h
  · rcases List.mem_cons.1 h with rfl | h
    · exact .inl rfl
    · exact .inr (dec_digits _ _ h)
  · exact .inr (dec_digits _ _ h)
theorem itoa_ne_nil (v : Int) : itoa v ≠ [] := by
  unfold itoa; split
  · simp
  · exact dec_ne_nil _
end Go.Proofs.YthppcmejffdicaaGreatDoor.Num

/- Plain facts about the digests of layer 3: what the functions compute, on lists of bytes; nothing of the program. -/
namespace Hach
open Go Go.RowKit

/- one step of a digest -/
def stp (m p x : Nat) (c : UInt8) : Nat := (m * x + c.toNat + 1) % p
def rX (l : List UInt8) : Nat := l.foldl (stp 48271 2147483647) 31
def rY (l : List UInt8) : Nat := l.foldl (stp 40692 2147483629) 37
theorem rX_snoc (l : List UInt8) (c : UInt8) : rX (l ++ [c]) = stp 48271 2147483647 (rX l) c := by simp [rX]
theorem rY_snoc (l : List UInt8) (c : UInt8) : rY (l ++ [c]) = stp 40692 2147483629 (rY l) c := by simp [rY]
theorem foldl_stp_lt (m p x : Nat) (hp : 0 < p) (hx : x < p) (l : List UInt8) : l.foldl (stp m p) x < p := by
  induction l generalizing x with
  | nil => exact hx
  | cons c l ih => exact ih _ (Nat.mod_lt _ hp)
theorem rX_lt (l : List UInt8) : rX l < 2147483647 := foldl_stp_lt _ _ _ (by omega) (by omega) l
theorem rY_lt (l : List UInt8) : rY l < 2147483629 := foldl_stp_lt _ _ _ (by omega) (by omega) l

/- four bytes of a number -/
def b4l (n : Nat) : List UInt8 := [UInt8.ofNat (n / 16777216), UInt8.ofNat (n / 65536), UInt8.ofNat (n / 256), UInt8.ofNat n]
def b4 (n : Nat) : ByteArray := ⟨(b4l n).toArray⟩
/- the digest of a list of bytes -/
def dgl (l : List UInt8) : List UInt8 := b4l (rX l) ++ b4l (rY l)
def dg (s : ByteArray) : ByteArray := ⟨(dgl s.data.toList).toArray⟩
theorem dgl_length (l : List UInt8) : (dgl l).length = 8 := rfl
theorem dg_size (s : ByteArray) : (dg s).size = 8 := rfl
theorem b4_size (n : Nat) : (b4 n).size = 4 := rfl
/- a byte of a digest, as a number -/
def dgb (l : List UInt8) (i : Nat) : Nat := ((dgl l).getD i 0).toNat
theorem dgb_lt (l : List UInt8) (i : Nat) : dgb l i < 256 := UInt8.toNat_lt _
theorem dgb_vals (l : List UInt8) :
    ((rX l : Int) / 16777216 = dgb l 0 ∧ (rX l : Int) / 65536 % 256 = dgb l 1 ∧ (rX l : Int) / 256 % 256 = dgb l 2 ∧ (rX l : Int) % 256 = dgb l 3) ∧
    ((rY l : Int) / 16777216 = dgb l 4 ∧ (rY l : Int) / 65536 % 256 = dgb l 5 ∧ (rY l : Int) / 256 % 256 = dgb l 6 ∧ (rY l : Int) % 256 = dgb l 7) := by
  have hx := rX_lt l
  have hy := rY_lt l
  have e : ∀ n : Nat, (UInt8.ofNat n).toNat = n % 256 := fun n => by simp
  refine ⟨⟨?_, ?_, ?_, ?_⟩, ?_, ?_, ?_, ?_⟩ <;> simp only [dgb, dgl, b4l, List.cons_append, List.nil_append, List.getD_cons_zero, List.getD_cons_succ, e] <;> omega
/- the digest as a value: eight bytes -/
def dgv (l : List UInt8) : Value := .agg #[.int .u8 (dgb l 0), .int .u8 (dgb l 1), .int .u8 (dgb l 2), .int .u8 (dgb l 3), .int .u8 (dgb l 4), .int .u8 (dgb l 5), .int .u8 (dgb l 6), .int .u8 (dgb l 7)]
theorem dgv_eq (l : List UInt8) : (.agg #[.int .u8 ((rX l : Int) / 16777216), .int .u8 ((rX l : Int) / 65536 % 256), .int .u8 ((rX l : Int) / 256 % 256), .int .u8 ((rX l : Int) % 256),
    .int .u8 ((rY l : Int) / 16777216), .int .u8 ((rY l : Int) / 65536 % 256), .int .u8 ((rY l : Int) / 256 % 256), .int .u8 ((rY l : Int) % 256)] : Value) = dgv l := by
  obtain ⟨⟨a, b, c, d⟩, a', b', c', d'⟩ := dgb_vals l
  rw [a, b, c, d, a', b', c', d']; rfl
/- strings, one after the other -/
def cat (ss : List ByteArray) : List UInt8 := ss.flatMap fun s => s.data.toList
theorem cat_snoc (ss : List ByteArray) (s : ByteArray) : cat (ss ++ [s]) = cat ss ++ s.data.toList := by simp [cat]

theorem data_append (a b : ByteArray) : (a ++ b).data.toList = a.data.toList ++ b.data.toList := by
  show (ByteArray.append a b).data.toList = _
  simp
theorem ba_ext {a b : ByteArray} (h : a.data.toList = b.data.toList) : a = b := by
  cases a; cases b; simp at h; simp [h]
theorem eq_of_toList {a b : ByteArray} (h : a.toList = b.toList) : a = b := by
  rw [ByteArray.toList_eq, ByteArray.toList_eq] at h
  exact ba_ext h
theorem dg_eq (s : ByteArray) : b4 (rX s.data.toList) ++ b4 (rY s.data.toList) = dg s := by
  apply ba_ext; rw [data_append]; rfl

/- a slice of strings: below block B the cells of A read as ss -/
def Strs (w : World) (B : Nat) (A : Option Addr) (n : Nat) (ss : List ByteArray) : Prop :=
  ss.length = n ∧ (0 < n → ∃ b o : Nat, A = some ⟨b, o, none⟩ ∧ b < B ∧ ∀ j, j < n → w.cell? ⟨b, o + j, none⟩ = some (.string (ss.getD j ByteArray.empty)))
theorem Strs.len {w : World} {B : Nat} {A : Option Addr} {n : Nat} {ss : List ByteArray} (h : Strs w B A n ss) : ss.length = n := h.1
theorem Strs.at_ {w : World} {B : Nat} {A : Option Addr} {n : Nat} {ss : List ByteArray} (h : Strs w B A n ss) {k : Nat} (hk : k < n) :
    ∃ b o : Nat, A = some ⟨b, o, none⟩ ∧ b < B ∧ ∀ j, j < n → w.cell? ⟨b, o + j, none⟩ = some (.string (ss.getD j ByteArray.empty)) := h.2 (by omega)
theorem Strs.keep {w w' : World} {B : Nat} {A : Option Addr} {n : Nat} {ss : List ByteArray} (h : Strs w B A n ss) (hk : ∀ p : Addr, p.block < B → w'.cell? p = w.cell? p) : Strs w' B A n ss :=
  ⟨h.1, fun hn => by
    obtain ⟨b, o, e, hb, hc⟩ := h.2 hn
    exact ⟨b, o, e, hb, fun j hj => (hk ⟨b, o + j, none⟩ hb).trans (hc j hj)⟩⟩
theorem Strs.below {w w' : World} {B C : Nat} {A : Option Addr} {n : Nat} {ss : List ByteArray} (h : Strs w B A n ss) (hb : Below C w w') (hB : B ≤ C) : Strs w' B A n ss :=
  h.keep fun _ hp => hb.cell (by omega)
theorem Strs.more {w : World} {B C : Nat} {A : Option Addr} {n : Nat} {ss : List ByteArray} (h : Strs w B A n ss) (hB : B ≤ C) : Strs w C A n ss :=
  ⟨h.1, fun hn => by
    obtain ⟨b, o, e, hb, hc⟩ := h.2 hn
    exact ⟨b, o, e, by omega, hc⟩⟩
theorem Strs.nil (w : World) (B : Nat) (A : Option Addr) : Strs w B A 0 [] := ⟨rfl, fun h => absurd h (by omega)⟩

/- a new block of strings -/
theorem Strs.new (w : World) (ss : List ByteArray) (t : TypeId) (fr : Nat × Nat) (cs : Array Value) (h : cs = (ss.map Value.string).toArray) : Strs (w.alloc (.cells cs t fr)) (w.heap.size + 1) (some ⟨w.heap.size, 0, none⟩) ss.length ss := by
  subst h
  refine ⟨rfl, fun _ => ⟨w.heap.size, 0, rfl, by omega, fun j hj => ?_⟩⟩
  rw [World.cell?_alloc_mark]
  simp [List.getD, List.getElem?_eq_getElem hj]
/- the first 30 bytes of a string; the first 20 strings -/
def cut30 (s : ByteArray) : ByteArray := s.extract 0 (min s.size 30)
def lst0 (ss : List ByteArray) : List ByteArray := ss.take 20
def lst (ss : List ByteArray) : List ByteArray := (lst0 ss).map cut30
/- the digest as a string -/
def dgs (l : List UInt8) : ByteArray := ⟨(dgl l).toArray⟩
theorem dg_dgs (s : ByteArray) : dg s = dgs s.data.toList := rfl
theorem dgs_size (l : List UInt8) : (dgs l).size = 8 := rfl
theorem dgs_of (l : List UInt8) : (⟨([dgb l 0, dgb l 1, dgb l 2, dgb l 3, dgb l 4, dgb l 5, dgb l 6, dgb l 7].map fun n => UInt8.ofNat n).toArray⟩ : ByteArray) = dgs l := by
  unfold dgs
  congr 1
  simp only [List.map_cons, List.map_nil, dgb, UInt8.ofNat_toNat]
  rfl
def lf (s : ByteArray) : ByteArray := dg (⟨#[3]⟩ ++ s)
/- two lists of strings compared -/
def sameL (a b : List ByteArray) : Bool := a.map (·.data.toList) == b.map (·.data.toList)
theorem map_data_inj : ∀ {a b : List ByteArray}, a.map (·.data.toList) = b.map (·.data.toList) → a = b
  | [], [], _ => rfl
  | [], _ :: _, h => by simp at h
  | _ :: _, [], h => by simp at h
  | x :: a, y :: b, h => by
    simp only [List.map_cons, List.cons.injEq] at h
    rw [ba_ext h.1, map_data_inj h.2]
theorem sameL_iff {a b : List ByteArray} : sameL a b = true ↔ a = b := by
  unfold sameL
  rw [beq_iff_eq]
  exact ⟨map_data_inj, fun h => by rw [h]⟩
theorem sameL_false {a b : List ByteArray} (h : a ≠ b) : sameL a b = false := by
  cases e : sameL a b with
  | false => rfl
  | true => exact absurd (sameL_iff.1 e) h
/- the neighbour of a place -/
def nbr (k : Nat) : Nat := if k % 2 = 0 then k + 1 else k - 1
/- what stands above two digests -/
def node (a b : ByteArray) : ByteArray := dg (⟨#[4]⟩ ++ a ++ b)
theorem node_size (a b : ByteArray) : (node a b).size = 8 := rfl
theorem node_cat (a b : ByteArray) : dgs (cat [⟨#[4]⟩, a, b]) = node a b := by
  rw [node, dg_dgs]; simp [cat]
theorem lf_cat (a : ByteArray) : dgs (cat [⟨#[3]⟩, a]) = lf a := by
  rw [lf, dg_dgs]; simp [cat]
/- the root that a digest, a place and a proof come to -/
def up : List ByteArray → ByteArray → Nat → Option ByteArray
  | [], d, _ => some d
  | p :: ps, d, i => if p.size = 8 then up ps (if i % 2 = 0 then node d p else node p d) (i / 2) else none
def upOk (i : Int) (n : Nat) : Bool := decide (0 ≤ i) && decide (n ≤ 40) && decide (i < 2 ^ n)
def upF (d : ByteArray) (i : Int) (ps : List ByteArray) : Option ByteArray := if upOk i ps.length then up ps d i.toNat else none
def ver (r x : ByteArray) (i : Int) (ps : List ByteArray) : Bool := match upF (lf x) i ps with
  | some d => d.toList == r.toList
  | none => false
def upV : Option ByteArray → Value
  | some r => .tuple #[.string r, .bool true]
  | none => .tuple #[.string ⟨#[]⟩, .bool false]
theorem upF_neg {d : ByteArray} {i : Int} {ps : List ByteArray} (h : upOk i ps.length = false) : upF d i ps = none := by simp [upF, h]
theorem upF_pos {d : ByteArray} {i : Int} {ps : List ByteArray} (h : upOk i ps.length = true) : upF d i ps = up ps d i.toNat := by simp [upF, h]
/- strings of modest sizes -/
def Sm (ss : List ByteArray) : Prop := ∀ k, (ss.getD k ByteArray.empty).size < 4294967296
theorem Sm.nil : Sm [] := fun _ => Nat.zero_lt_succ _
theorem Sm.cons {s : ByteArray} {ss : List ByteArray} (h : s.size < 4294967296) (hs : Sm ss) : Sm (s :: ss) := fun k => by
  match k with
  | 0 => exact h
  | k + 1 => exact hs k
/- what a chain, a mark are digests of -/
def chn (b s : ByteArray) : ByteArray := dg (⟨#[1]⟩ ++ b4 b.size ++ b ++ s)
def mrk (k m : ByteArray) : ByteArray := dg (⟨#[2]⟩ ++ b4 k.size ++ k ++ m ++ k)
def chk (k m x : ByteArray) : Bool := !k.toList.isEmpty && x.toList == (mrk k m).toList
theorem lf_size (s : ByteArray) : (lf s).size = 8 := rfl
theorem chn_size (b s : ByteArray) : (chn b s).size = 8 := rfl
theorem mrk_size (b s : ByteArray) : (mrk b s).size = 8 := rfl
theorem chn_cat (b s : ByteArray) : dgs (cat [⟨#[1]⟩, b4 b.size, b, s]) = chn b s := by
  rw [chn, dg_dgs]; simp [cat]
theorem mrk_cat (k m : ByteArray) : dgs (cat [⟨#[2]⟩, b4 k.size, k, m, k]) = mrk k m := by
  rw [mrk, dg_dgs]; simp [cat]
theorem cat_one (s : ByteArray) : dgs (cat [s]) = dg s := by simp [cat, dg_dgs]

theorem below_alloc (w : World) (o : Obj) : Below w.heap.size w (w.alloc o) := (Below.refl _ _).alloc (Nat.le_refl _) o

end Hach

/- Lines and records of a journal, on lists of bytes; nothing of the program. -/
namespace Go.Proofs.YthppcmejffdicaaGreatDoor.Jn
open Go.Lib Hach Num

/- the bytes that end lines, hidden and shown -/
def esc : List UInt8 → List UInt8
  | [] => []
  | c :: r => if c = 92 then 92 :: 92 :: esc r else if c = 10 then 92 :: 110 :: esc r else c :: esc r
def une : List UInt8 → List UInt8
  | [] => []
  | [c] => [c]
  | c :: d :: r => if c = 92 ∧ d = 92 then 92 :: une r else if c = 92 ∧ d = 110 then 10 :: une r else c :: une (d :: r)
theorem une_plain {c : UInt8} (hc : c ≠ 92) (r : List UInt8) : une (c :: r) = c :: une r := by
  cases r with
  | nil => simp [une]
  | cons d r => simp [une, hc]
theorem une_esc : ∀ s : List UInt8, une (esc s) = s
  | [] => rfl
  | c :: r => by
    unfold esc
    split
    · rename_i h; subst h; simp [une, une_esc r]
    · split
      · rename_i h; subst h; simp [une, une_esc r]
      · rename_i h _; rw [une_plain h, une_esc r]
theorem esc_no_nl : ∀ s : List UInt8, (10 : UInt8) ∉ esc s
  | [] => by simp [esc]
  | c :: r => by
    unfold esc
    have := esc_no_nl r
    split
    · simp [this]
    · split
      · simp [this]
      · rename_i h; simp [this]; exact fun e => h e.symm

/- two digits for each byte -/
def hexd (n : Nat) : UInt8 := if n < 10 then UInt8.ofNat (48 + n) else UInt8.ofNat (87 + n)
def hexl (l : List UInt8) : List UInt8 := l.flatMap fun b => [hexd (b.toNat / 16), hexd (b.toNat % 16)]
theorem hexd_toNat {n : Nat} (h : n < 16) : (48 ≤ (hexd n).toNat ∧ (hexd n).toNat ≤ 57) ∨ (97 ≤ (hexd n).toNat ∧ (hexd n).toNat ≤ 102) := by
  unfold hexd
  split
  · left; rw [UInt8.toNat_ofNat']; omega
  · right; rw [UInt8.toNat_ofNat']; omega
theorem hexl_mem {l : List UInt8} {c : UInt8} (h : c ∈ hexl l) : (48 ≤ c.toNat ∧ c.toNat ≤ 57) ∨ (97 ≤ c.toNat ∧ c.toNat ≤ 102) := by
  obtain ⟨b, _, hc⟩ := List.mem_flatMap.1 h
  have hb := UInt8.toNat_lt b
  simp only [List.mem_cons, List.not_mem_nil, or_false] at hc
  rcases hc with rfl | rfl
  · exact hexd_toNat (by omega)
  · exact hexd_toNat (by omega)

/- the line of a record -/
def head (s : List UInt8) : List UInt8 := itoa (s.length : Int)
def line (s : List UInt8) : List UInt8 := head s ++ 32 :: (hexl (dgl s) ++ 32 :: (esc s ++ [10]))
theorem head_no {s : List UInt8} {c : UInt8} (h : c ∈ head s) : c ≠ 32 ∧ c ≠ 10 := by
  have := itoa_mem h
  constructor
  · rintro rfl; simp at this
  · rintro rfl; simp at this
theorem hex_no {s : List UInt8} {c : UInt8} (h : c ∈ hexl s) : c ≠ 32 ∧ c ≠ 10 := by
  have := hexl_mem h
  constructor
  · rintro rfl; simp at this
  · rintro rfl; simp at this
/- the parts of a text between blanks: the first two, and the rest -/
def cut32 : List UInt8 → Option (List UInt8 × List UInt8)
  | [] => none
  | c :: r => if c = 32 then some ([], r) else (cut32 r).map fun p => (c :: p.1, p.2)
theorem cut32_at : ∀ (a b : List UInt8), (∀ c ∈ a, c ≠ 32) → cut32 (a ++ 32 :: b) = some (a, b)
  | [], b, _ => by simp [cut32]
  | c :: a, b, h => by
    have hc := h c List.mem_cons_self
    simp only [List.cons_append, cut32]
    rw [if_neg hc, cut32_at a b fun x hx => h x (List.mem_cons_of_mem _ hx)]
    rfl
/- what a line says behind its second blank, its end taken off -/
def body (x : List UInt8) : Option (List UInt8) := (cut32 x.dropLast).bind fun p => (cut32 p.2).map (·.2)
theorem body_line (s : List UInt8) : body (line s) = some (esc s) := by
  have e : (line s).dropLast = head s ++ 32 :: (hexl (dgl s) ++ 32 :: esc s) := by
    unfold line
    rw [show head s ++ 32 :: (hexl (dgl s) ++ 32 :: (esc s ++ [10])) = (head s ++ 32 :: (hexl (dgl s) ++ 32 :: esc s)) ++ [10] by simp]
    exact List.dropLast_concat
  unfold body
  rw [e, cut32_at _ _ (fun c hc => (head_no hc).1)]
  simp only [Option.bind_some]
  rw [cut32_at _ _ (fun c hc => (hex_no hc).1)]
  rfl
theorem line_inj {s t : List UInt8} (h : line s = line t) : s = t := by
  have h1 := body_line s
  rw [h, body_line] at h1
  injection h1 with h1
  rw [← une_esc s, ← h1, une_esc]
theorem line_ne (s : List UInt8) : line s ≠ [] := by unfold line; simp
/- the record that a text says, if it is the line of one -/
def recOf (x : List UInt8) : Option (List UInt8) := match body x with
  | none => none
  | some b => if line (une b) = x then some (une b) else none
theorem recOf_line (s : List UInt8) : recOf (line s) = some s := by
  unfold recOf
  rw [body_line]
  simp only [une_esc, if_true]
theorem recOf_some {x r : List UInt8} (h : recOf x = some r) : x = line r := by
  unfold recOf at h
  split at h
  · cases h
  · split at h
    · rename_i e; injection h with h; rw [← h, e]
    · cases h
theorem recOf_iff {x r : List UInt8} : recOf x = some r ↔ x = line r := ⟨recOf_some, fun h => by rw [h]; exact recOf_line r⟩
/- whoever finds the record of each line finds it so -/
theorem recOf_by {x r : List UInt8} (h : ∀ s, x = line s → r = s) : recOf x = if line r = x then some r else none := by
  split
  · rename_i e; rw [← e]; exact recOf_line r
  · rename_i e
    match h' : recOf x with
    | none => rfl
    | some s => have := recOf_some h'; rw [h s this] at e; exact absurd this.symm e

/- the pieces of a text, each with the byte that ends it; behind the last one what is left -/
def pcs : List UInt8 → List (List UInt8) × List UInt8
  | [] => ([], [])
  | c :: r => if c = 10 then ([10] :: (pcs r).1, (pcs r).2) else match (pcs r).1 with
    | [] => ([], c :: (pcs r).2)
    | p :: ps => ((c :: p) :: ps, (pcs r).2)
theorem pcs_flat : ∀ s : List UInt8, (pcs s).1.flatten ++ (pcs s).2 = s
  | [] => rfl
  | c :: r => by
    have ih := pcs_flat r
    unfold pcs
    split
    · rename_i h; subst h; simp [ih]
    · split
      · rename_i h; rw [h] at ih; simpa using ih
      · rename_i p ps h; rw [h] at ih; simpa using ih
theorem pcs_rest : ∀ s : List UInt8, (10 : UInt8) ∉ (pcs s).2
  | [] => by simp [pcs]
  | c :: r => by
    have ih := pcs_rest r
    unfold pcs
    split
    · exact ih
    · rename_i h
      split
      · simp [ih]; exact fun e => h e.symm
      · exact ih
/- a piece is one without the end, and the end -/
theorem pcs_append : ∀ (a s : List UInt8), (10 : UInt8) ∉ a → pcs (a ++ 10 :: s) = ((a ++ [10]) :: (pcs s).1, (pcs s).2)
  | [], s, _ => by simp [pcs]
  | c :: a, s, h => by
    have hc : c ≠ 10 := fun e => h (by rw [e]; exact List.mem_cons_self)
    simp only [List.cons_append, pcs]
    rw [if_neg hc, pcs_append a s fun hm => h (List.mem_cons_of_mem _ hm)]
theorem pcs_none : ∀ (a : List UInt8), (10 : UInt8) ∉ a → pcs a = ([], a)
  | [], _ => rfl
  | c :: a, h => by
    have hc : c ≠ 10 := fun e => h (by rw [e]; exact List.mem_cons_self)
    simp only [pcs]
    rw [if_neg hc, pcs_none a fun hm => h (List.mem_cons_of_mem _ hm)]
/- the records of contents -/
def recs (s : List UInt8) : List (List UInt8) := (pcs s).1.filterMap recOf
/- a line is a piece -/
def front (s : List UInt8) : List UInt8 := head s ++ 32 :: (hexl (dgl s) ++ 32 :: esc s)
theorem line_front (s : List UInt8) : line s = front s ++ [10] := by unfold line front; simp
theorem front_no_nl (s : List UInt8) : (10 : UInt8) ∉ front s := by
  unfold front
  simp only [List.mem_append, List.mem_cons, not_or]
  exact ⟨fun h => (head_no h).2 rfl, by decide, fun h => (hex_no h).2 rfl, by decide, esc_no_nl s⟩
theorem pcs_line (s t : List UInt8) : pcs (line s ++ t) = (line s :: (pcs t).1, (pcs t).2) := by
  rw [line_front, List.append_assoc]
  exact pcs_append (front s) t (front_no_nl s)
theorem recs_line (s t : List UInt8) : recs (line s ++ t) = s :: recs t := by
  unfold recs
  rw [pcs_line]
  simp only [List.filterMap_cons, recOf_line]
theorem recs_lines (l : List (List UInt8)) (t : List UInt8) : recs ((l.map line).flatten ++ t) = l ++ recs t := by
  induction l with
  | nil => simp
  | cons s l ih => simp only [List.map_cons, List.flatten_cons, List.append_assoc, List.cons_append]; rw [recs_line, ih]
theorem recs_nil : recs [] = [] := rfl
theorem recs_part {a : List UInt8} (h : (10 : UInt8) ∉ a) : recs a = [] := by unfold recs; rw [pcs_none a h]; rfl
/- a piece behind which others come -/
theorem recs_piece {a : List UInt8} (h : (10 : UInt8) ∉ a) (t : List UInt8) : recs (a ++ 10 :: t) = (match recOf (a ++ [10]) with | some r => [r] | none => []) ++ recs t := by
  unfold recs
  rw [pcs_append a t h]
  simp only [List.filterMap_cons]
  cases recOf (a ++ [10]) <;> rfl
/- a line has two blanks; what lacks them is none -/
theorem recOf_no {x : List UInt8} (h : body x = none) : recOf x = none := by unfold recOf; rw [h]
end Go.Proofs.YthppcmejffdicaaGreatDoor.Jn

/- Lines of a journal: torn ones, prefixes; a byte that is changed. Plain, nothing of the program. -/
namespace Go.Proofs.YthppcmejffdicaaGreatDoor.Jn
open Go.Lib Hach Num

/- hidden bytes begin as hidden bytes only if what they hide does -/
theorem esc_prefix : ∀ (r s t : List UInt8), esc s = esc r ++ t → ∃ s2, s = r ++ s2
  | [], s, t, _ => ⟨s, rfl⟩
  | c :: r, [], t, h => by
    unfold esc at h
    split at h
    · simp at h
    · split at h <;> simp at h
  | c :: r, d :: s, t, h => by
    have key : c = d ∧ esc s = esc r ++ t := by
      rw [show esc (d :: s) = if d = 92 then 92 :: 92 :: esc s else if d = 10 then 92 :: 110 :: esc s else d :: esc s from rfl, show esc (c :: r) = if c = 92 then 92 :: 92 :: esc r else if c = 10 then 92 :: 110 :: esc r else c :: esc r from rfl] at h
      by_cases hc : c = 92
      · subst hc
        by_cases hd : d = 92
        · subst hd; simp at h; exact ⟨rfl, h⟩
        · by_cases hd2 : d = 10
          · subst hd2; simp at h
          · simp [hd, hd2] at h
      · by_cases hc2 : c = 10
        · subst hc2
          by_cases hd : d = 92
          · subst hd; simp at h
          · by_cases hd2 : d = 10
            · subst hd2; simp at h; exact ⟨rfl, h⟩
            · simp [hd, hd2] at h
        · by_cases hd : d = 92
          · subst hd; simp [hc, hc2] at h; exact absurd h.1.symm hc
          · by_cases hd2 : d = 10
            · subst hd2; simp [hc, hc2] at h; exact absurd h.1.symm hc
            · simp [hc, hc2, hd, hd2] at h; exact ⟨h.1.symm, h.2⟩
    obtain ⟨rfl, h2⟩ := key
    obtain ⟨s2, e⟩ := esc_prefix r s t h2
    exact ⟨s2, by rw [e]; rfl⟩
theorem esc_len (s : List UInt8) : s.length ≤ (esc s).length ∧ (esc s).length ≤ 2 * s.length := by
  induction s with
  | nil => simp [esc]
  | cons c s ih => unfold esc; split <;> (try split) <;> simp only [List.length_cons] <;> omega
theorem cut32_append {x a b : List UInt8} (t : List UInt8) (h : cut32 x = some (a, b)) : cut32 (x ++ t) = some (a, b ++ t) := by
  induction x generalizing a b with
  | nil => cases h
  | cons c x ih =>
    simp only [List.cons_append, cut32] at h ⊢
    split at h
    · rename_i hc
      injection h with h; injection h with h1 h2
      subst h1; subst h2
      rw [if_pos hc]
    · rename_i hc
      rw [if_neg hc]
      match h' : cut32 x with
      | none => rw [h'] at h; cases h
      | some (p, q) =>
        rw [h'] at h
        simp only [Option.map_some, Option.some.injEq, Prod.mk.injEq] at h
        obtain ⟨rfl, rfl⟩ := h
        rw [ih h']; rfl
theorem cut_front (s : List UInt8) : cut32 (front s) = some (head s, hexl (dgl s) ++ 32 :: esc s) := cut32_at _ _ fun c hc => (head_no hc).1
theorem cut_front2 (s : List UInt8) : cut32 (hexl (dgl s) ++ 32 :: esc s) = some (hexl (dgl s), esc s) := cut32_at _ _ fun c hc => (hex_no hc).1
/- no line but for its end begins another one -/
theorem front_prefix {r s t : List UInt8} (hs : s.length < 4611686018427387904) (h : front s = front r ++ t) : r = s ∧ t = [] := by
  have h1 := cut_front s
  rw [h, cut32_append t (cut_front r)] at h1
  simp only [Option.some.injEq, Prod.mk.injEq] at h1
  obtain ⟨e1, e2⟩ := h1
  have h2 := cut_front2 s
  rw [← e2, cut32_append t (cut_front2 r)] at h2
  simp only [Option.some.injEq, Prod.mk.injEq] at h2
  obtain ⟨_, e3⟩ := h2
  have l1 := esc_len s
  have l2 := esc_len r
  have hl : (esc r).length + t.length = (esc s).length := by rw [← e3, List.length_append]
  have hr : InI (r.length : Int) := ⟨by omega, by omega⟩
  have hs' : InI (s.length : Int) := ⟨by omega, by omega⟩
  have e4 : (r.length : Int) = s.length := by
    have a := num_itoa hr
    have b := num_itoa hs'
    rw [show itoa (r.length : Int) = itoa (s.length : Int) from e1, b] at a
    injection a with a; exact a.symm
  obtain ⟨s2, e5⟩ := esc_prefix r s t e3.symm
  have : s2 = [] := by
    have := congrArg List.length e5
    rw [List.length_append] at this
    exact List.eq_nil_of_length_eq_zero (by omega)
  subst this
  rw [List.append_nil] at e5
  subst e5
  exact ⟨rfl, List.eq_nil_of_length_eq_zero (by omega)⟩
/- a torn line is none -/
theorem torn {s : List UInt8} (hs : s.length < 4611686018427387904) {j : Nat} (hj : j < (front s).length) : recOf ((front s).take j ++ [10]) = none := by
  match h : recOf ((front s).take j ++ [10]) with
  | none => rfl
  | some r =>
    have e := recOf_some h
    rw [line_front] at e
    have e2 : (front s).take j = front r := List.append_cancel_right e
    have e3 := (front_prefix (r := r) (t := (front s).drop j) hs (by rw [← e2, List.take_append_drop])).2
    have := congrArg List.length e3
    simp at this
    omega
theorem longer {s : List UInt8} (hs : s.length < 1152921504606846976) (a : List UInt8) (ha : a ≠ []) (hn : a.length < 1152921504606846976) : recOf (front s ++ a ++ [10]) = none := by
  match h : recOf (front s ++ a ++ [10]) with
  | none => rfl
  | some r =>
    have e := recOf_some h
    rw [line_front] at e
    have e2 : front s ++ a = front r := List.append_cancel_right e
    have hl := congrArg List.length e2
    have l1 := esc_len r
    have hr : r.length < 4611686018427387904 := by
      have h1 := cut_front r
      rw [← e2, cut32_append a (cut_front s)] at h1
      simp only [Option.some.injEq, Prod.mk.injEq] at h1
      have h2 := cut_front2 r
      rw [← h1.2, cut32_append a (cut_front2 s)] at h2
      simp only [Option.some.injEq, Prod.mk.injEq] at h2
      have l2 := esc_len s
      have := congrArg List.length h2.2
      rw [List.length_append] at this
      omega
    exact absurd (front_prefix (r := s) (t := a) hr e2.symm).2 ha

/- contents with their last line ended -/
def norm (t : List UInt8) : List UInt8 := if t = [] ∨ t.getLast? = some 10 then t else t ++ [10]
theorem norm_nil : norm [] = [] := by simp [norm]
theorem norm_ends (t : List UInt8) : norm (t ++ [10]) = t ++ [10] := by simp [norm]
theorem norm_norm (t : List UInt8) : norm (norm t) = norm t := by
  by_cases h : t = [] ∨ t.getLast? = some 10
  · have e : norm t = t := by unfold norm; rw [if_pos h]
    rw [e, e]
  · have e : norm t = t ++ [10] := by unfold norm; rw [if_neg h]
    rw [e, norm_ends]
/- contents that end -/
def Ends (t : List UInt8) : Prop := t = [] ∨ ∃ a, t = a ++ [10]
theorem Ends.norm {t : List UInt8} (h : Ends t) : norm t = t := by
  rcases h with rfl | ⟨a, rfl⟩
  · exact norm_nil
  · exact norm_ends a
theorem ends_norm (t : List UInt8) : Ends (norm t) := by
  unfold Jn.norm
  split
  · rename_i h
    rcases h with rfl | h
    · exact .inl rfl
    · obtain ⟨a, rfl⟩ := List.getLast?_eq_some_iff.1 h
      exact .inr ⟨a, rfl⟩
  · exact .inr ⟨t, rfl⟩
theorem ends_line {t : List UInt8} (s : List UInt8) : Ends (t ++ line s) := .inr ⟨t ++ front s, by rw [line_front, List.append_assoc]⟩
/- records of contents that end, and of more -/
theorem recs_ends {a : List UInt8} (h : Ends a) (t : List UInt8) : recs (a ++ t) = recs a ++ recs t := by
  have key : ∀ (n : Nat) (a : List UInt8), a.length ≤ n → Ends a → recs (a ++ t) = recs a ++ recs t := by
    intro n
    induction n with
    | zero => intro a hl _; obtain rfl := List.eq_nil_of_length_eq_zero (Nat.le_zero.1 hl); rfl
    | succ n ih =>
      intro a hl hE
      by_cases hm : (10 : UInt8) ∈ a
      · obtain ⟨p, q, rfl, hp⟩ := List.append_of_mem hm |>.elim fun p h => by
          obtain ⟨q, e⟩ := h
          -- the first place
          have : ∃ p q, a = p ++ 10 :: q ∧ (10 : UInt8) ∉ p := by
            clear e hl hE ih
            induction a with
            | nil => cases hm
            | cons c a iha =>
              by_cases hc : c = 10
              · subst hc; exact ⟨[], a, rfl, by simp⟩
              · have hm' : (10 : UInt8) ∈ a := by
                  rcases List.mem_cons.1 hm with h | h
                  · exact absurd h.symm hc
                  · exact h
                obtain ⟨p', q', e', hp'⟩ := iha hm' 
                exact ⟨c :: p', q', by rw [e']; rfl, by simp [hp']; exact fun e => hc e.symm⟩
          exact this
        have hq : Ends q := by
          rcases hE with h | ⟨b, h⟩
          · simp at h
          · by_cases hq0 : q = []
            · exact .inl hq0
            · right
              have := congrArg List.getLast? h
              refine ⟨q.dropLast, ?_⟩
              rw [List.getLast?_append, List.getLast?_cons] at this
              have hl2 : q.getLast? = some 10 := by
                cases q with
                | nil => exact absurd rfl hq0
                | cons x q => simp [List.getLast?_cons] at this ⊢; exact this
              obtain ⟨z, rfl⟩ := List.getLast?_eq_some_iff.1 hl2
              rw [List.dropLast_concat]
        rw [List.append_assoc, List.cons_append, recs_piece hp, recs_piece hp, ih q (by simp at hl; omega) hq, List.append_assoc]
      · rcases hE with rfl | ⟨b, rfl⟩
        · rfl
        · exact absurd (by simp) hm
  exact key _ a (Nat.le_refl _) h
end Go.Proofs.YthppcmejffdicaaGreatDoor.Jn

/- A disk and a log, what they hold; what survives a fall. Plain, nothing of the program. -/
namespace Go.Proofs.YthppcmejffdicaaGreatDoor.Jn
open Go.Lib Hach Num

structure Dk where
  text : List UInt8
  pend : Nat
  off : Bool
  counts : Bool
  after : Int
def Dk.works (d : Dk) : Bool × Dk :=
  if d.off then (false, d) else if d.counts then (if d.after = 0 then (false, { d with off := true }) else (true, { d with after := d.after - 1 })) else (true, d)
def Dk.write (d : Dk) (s : List UInt8) : Bool × Dk := if d.works.1 then (true, { d.works.2 with text := d.works.2.text ++ s, pend := d.works.2.pend + s.length }) else (false, d.works.2)
def Dk.sync (d : Dk) : Bool × Dk := if d.works.1 then (true, { d.works.2 with pend := 0 }) else (false, d.works.2)
def Dk.fail (d : Dk) (n : Int) : Dk := { d with counts := decide (0 ≤ n), after := n }
def Dk.crash (d : Dk) (keep : Nat) : Dk := { text := d.text.take (d.text.length - d.pend + min keep d.pend), pend := 0, off := false, counts := false, after := 0 }
def Dk.new : Dk := ⟨[], 0, false, false, 0⟩
/- write and sync -/
def Dk.put (d : Dk) (s : List UInt8) : Bool × Dk := if (d.write s).1 then (d.write s).2.sync else (false, (d.write s).2)
/- opened: whether, and what is on the disk then -/
def Dk.open_ (d : Dk) : Bool × Dk := if d.off then (false, d) else if d.text = [] ∨ d.text.getLast? = some 10 then (true, d) else d.put [10]

/- the state in which a disk works without bounds -/
def Dk.calm (d : Dk) : Prop := d.off = false ∧ d.counts = false
theorem works_calm {d : Dk} (h : d.calm) : d.works = (true, d) := by unfold Dk.works; rw [h.1, h.2]; rfl
theorem put_calm {d : Dk} (h : d.calm) (s : List UInt8) : d.put s = (true, { d with text := d.text ++ s, pend := 0 }) := by
  have hw : d.write s = (true, { d with text := d.text ++ s, pend := d.pend + s.length }) := by unfold Dk.write; rw [works_calm h]; rfl
  unfold Dk.put
  rw [hw]
  simp only [if_true]
  have h2 : Dk.calm { d with text := d.text ++ s, pend := d.pend + s.length } := h
  unfold Dk.sync
  rw [works_calm h2]
  rfl
theorem open_calm {d : Dk} (h : d.calm) : d.open_.1 = true ∧ d.open_.2.calm ∧ d.open_.2.text = norm d.text ∧ (d.text = norm d.text → d.open_.2.pend = d.pend) ∧ (d.pend = 0 → d.open_.2.pend = 0) := by
  unfold Dk.open_ Jn.norm
  rw [h.1]
  simp only [Bool.false_eq_true, if_false]
  split
  · exact ⟨rfl, h, rfl, fun _ => rfl, fun h => h⟩
  · rw [put_calm h]
    refine ⟨rfl, h, rfl, fun e => ?_, fun _ => rfl⟩
    have := congrArg List.length e
    simp at this

theorem works_cases (d : Dk) : d.works.2.text = d.text ∧ d.works.2.pend = d.pend ∧ (d.works.1 = true ∧ d.off = false ∧ d.works.2.off = false ∨ d.works.1 = false ∧ d.works.2.off = true) := by
  unfold Dk.works
  cases ho : d.off
  · cases hc : d.counts
    · exact ⟨rfl, rfl, .inl ⟨rfl, rfl, ho⟩⟩
    · by_cases ha : d.after = 0
      · simp [ha]
      · simp [ha, ho]
  · exact ⟨rfl, rfl, .inr ⟨rfl, ho⟩⟩
theorem put_cases (d : Dk) (s : List UInt8) (h0 : d.pend = 0) : (d.put s).1 = true ∧ (d.put s).2.text = d.text ++ s ∧ (d.put s).2.pend = 0 ∧ (d.put s).2.off = false ∨
    (d.put s).1 = false ∧ (d.put s).2.off = true ∧ ((d.put s).2.text = d.text ∧ (d.put s).2.pend = 0 ∨ (d.put s).2.text = d.text ++ s ∧ (d.put s).2.pend = s.length) := by
  unfold Dk.put Dk.write
  obtain ⟨h1, h2, ⟨h3, _, h5⟩ | ⟨h3, h4⟩⟩ := works_cases d
  · rw [h3]
    simp only [if_true]
    obtain ⟨k1, k2, ⟨k3, _, k5⟩ | ⟨k3, k4⟩⟩ := works_cases { d.works.2 with text := d.works.2.text ++ s, pend := d.works.2.pend + s.length }
    · left
      unfold Dk.sync
      rw [k3]
      simp only [if_true]
      exact ⟨by first | trivial | rfl, by rw [k1, h1], by first | trivial | rfl, k5⟩
    · right
      unfold Dk.sync
      rw [k3]
      simp only [Bool.false_eq_true, if_false]
      exact ⟨by first | trivial | rfl, k4, .inr ⟨by rw [k1, h1], by rw [k2]; simp [h2, h0]⟩⟩
  · rw [h3]
    simp only [Bool.false_eq_true, if_false]
    exact .inr ⟨by first | trivial | rfl, h4, .inl ⟨h1, by rw [h2, h0]⟩⟩

/- what is on the disk when the power comes back: contents that end, and a part of a line behind them -/
def Torn (base m : List UInt8) (some_ : Bool) (t : List UInt8) : Prop := t = base ∨ some_ = true ∧ ∃ j, j ≤ (line m).length ∧ t = base ++ (line m).take j
theorem recs_torn {base m t : List UInt8} {sm : Bool} (hb : Ends base) (hm : m.length < 1152921504606846976) (h : Torn base m sm t) :
    recs (Jn.norm t) = recs base ∨ sm = true ∧ recs (Jn.norm t) = recs base ++ [m] := by
  rcases h with rfl | ⟨hs, j, hj, rfl⟩
  · left; rw [hb.norm]
  · have hl : (line m).length = (front m).length + 1 := by rw [line_front]; simp
    by_cases hj1 : j = (line m).length
    · right
      subst hj1
      rw [List.take_length, (ends_line m).norm, recs_ends hb]
      exact ⟨hs, by rw [← List.append_nil (line m), recs_line]; rfl⟩
    · have ht : (line m).take j = (front m).take j := by rw [line_front, List.take_append_of_le_length (by omega)]
      rw [ht]
      by_cases hj0 : j = 0
      · subst hj0; left; rw [List.take_zero, List.append_nil, hb.norm]
      · have hno : (10 : UInt8) ∉ (front m).take j := fun h => front_no_nl m (List.mem_of_mem_take h)
        have hne : (front m).take j ≠ [] := by
          intro e
          have := congrArg List.length e
          rw [List.length_take] at this
          have h2 : 0 < (front m).length := by unfold front; simp; omega
          simp only [List.length_nil] at this
          omega
        have hn : Jn.norm (base ++ (front m).take j) = base ++ ((front m).take j ++ [10]) := by
          unfold Jn.norm
          rw [if_neg, List.append_assoc]
          rintro (h | h)
          · simp at h; exact hne (List.take_eq_nil_iff.2 h.2)
          · rw [List.getLast?_append] at h
            match h2 : ((front m).take j).getLast? with
            | none => exact hne (List.getLast?_eq_none_iff.1 h2)
            | some c =>
              rw [h2] at h
              simp at h
              subst h
              obtain ⟨a, e⟩ := List.getLast?_eq_some_iff.1 h2
              exact hno (by rw [e]; simp)
        rw [hn, recs_ends hb, show (front m).take j ++ [10] = (front m).take j ++ 10 :: [] from rfl, recs_piece hno]
        by_cases hj2 : j = (front m).length
        · right
          subst hj2
          rw [List.take_length, ← line_front, recOf_line]
          exact ⟨hs, by simp [recs_nil]⟩
        · left
          rw [torn (by omega) (show j < (front m).length by omega)]
          simp [recs_nil]

/- the fall: the disk behind an append -/
theorem crash_text {d : Dk} {base m : List UInt8} (k : Nat) (h : d.text = base ∧ d.pend = 0 ∨ d.text = base ++ line m ∧ d.pend = (line m).length) : ∃ sm : Bool, Torn base m true (d.crash k).text ∧ (d.crash k).calm ∧ (d.crash k).pend = 0 ∧ (d.pend = 0 → d.text = base → (d.crash k).text = base ∧ sm = false) := by
  refine ⟨false, ?_, ⟨rfl, rfl⟩, rfl, fun h0 ht => ⟨?_, rfl⟩⟩
  · rcases h with ⟨h1, h2⟩ | ⟨h1, h2⟩
    · left
      show d.text.take (d.text.length - d.pend + min k d.pend) = base
      rw [h2, h1]; simp
    · right
      refine ⟨rfl, min k (line m).length, Nat.min_le_right _ _, ?_⟩
      show d.text.take (d.text.length - d.pend + min k d.pend) = _
      rw [h2, h1, List.length_append, List.take_append]
      rw [List.take_of_length_le (by omega)]
      congr 2
      omega
  · show d.text.take (d.text.length - d.pend + min k d.pend) = base
    rw [h0, ht]; simp
/- opened with few calls, and crashed again -/
theorem reopened {d : Dk} (hc : d.calm) (hp : d.pend = 0) (n : Int) (k : Nat) : let d2 := (((d.fail n).open_).2).crash k; d2.calm ∧ d2.pend = 0 ∧ Jn.norm d2.text = Jn.norm d.text ∧ d2.text.length ≤ d.text.length + 1 := by
  intro d2
  have h1 : (d.fail n).text = d.text := rfl
  have h2 : (d.fail n).pend = 0 := hp
  have key : ((d.fail n).open_).2.text = d.text ∧ ((d.fail n).open_).2.pend = 0 ∨ ((d.fail n).open_).2.text = d.text ++ [10] ∧ ¬ (d.text = [] ∨ d.text.getLast? = some 10) ∧ ((d.fail n).open_).2.pend ≤ 1 := by
    unfold Dk.open_
    rw [show (d.fail n).off = false from hc.1]
    simp only [Bool.false_eq_true, if_false, h1]
    split
    · exact .inl ⟨h1, h2⟩
    · rename_i hne
      rcases put_cases (d.fail n) [10] h2 with ⟨_, p2, p3, _⟩ | ⟨_, _, ⟨p3, p4⟩ | ⟨p3, p4⟩⟩
      · exact .inr ⟨by rw [p2, h1], hne, by rw [p3]; omega⟩
      · exact .inl ⟨by rw [p3, h1], p4⟩
      · exact .inr ⟨by rw [p3, h1], hne, by rw [p4]; simp⟩
  refine ⟨⟨rfl, rfl⟩, rfl, ?_, ?_⟩
  · show Jn.norm (List.take _ _) = _
    rcases key with ⟨k1, k2⟩ | ⟨k1, k2, k3⟩
    · rw [k1, k2]; simp
    · rw [k1]
      generalize ((d.fail n).open_).2.pend = p at k3
      have hn : Jn.norm d.text = d.text ++ [10] := by unfold Jn.norm; rw [if_neg k2]
      match p, k3 with
      | 0, _ => rw [List.take_of_length_le (by simp), norm_ends, hn]
      | 1, _ =>
        by_cases hk : k = 0
        · subst hk; simp
        · have : min k 1 = 1 := by omega
          rw [this, List.take_of_length_le (by simp), norm_ends, hn]
  · show (List.take _ _).length ≤ _
    rw [List.length_take]
    rcases key with ⟨k1, _⟩ | ⟨k1, _, _⟩
    · rw [k1]; omega
    · rw [k1, List.length_append, List.length_singleton]; omega
theorem norm_len (t : List UInt8) : (Jn.norm t).length ≤ t.length + 1 := by unfold Jn.norm; split <;> simp
theorem head_len {s : List UInt8} (h : s.length < 1152921504606846976) : (head s).length ≤ 21 := Lib.itoa_length_le _ (by omega) (by omega)
theorem line_len {s : List UInt8} (h : s.length ≤ 20) : (line s).length ≤ 80 := by
  have h1 := head_len (s := s) (by omega)
  have h2 := esc_len s
  have h3 : (hexl (dgl s)).length = 16 := by simp [hexl, dgl, b4l]
  unfold line
  simp only [List.length_append, List.length_cons, List.length_nil, h3]
  omega
end Go.Proofs.YthppcmejffdicaaGreatDoor.Jn

/- A byte of a journal's contents that is changed. Plain, nothing of the program. -/
namespace Go.Proofs.YthppcmejffdicaaGreatDoor.Jn
open Go.Lib Hach Num

theorem sub_cases {α : Type} {a b : List α} (h : a.Sublist b) : a = b ∨ a.length < b.length := by
  rcases Nat.lt_or_ge a.length b.length with h1 | h1
  · exact .inr h1
  · exact .inl (h.eq_of_length_le h1)
/- the records of what is put in front of contents, whatever it is -/
theorem recs_front {x : List UInt8} (h : Ends x) (t : List UInt8) : recs (x ++ t) = recs x ++ recs t := recs_ends h t
theorem ends_append {a b : List UInt8} (ha : Ends a) (hb : Ends b) : Ends (a ++ b) := by
  rcases hb with rfl | ⟨c, rfl⟩
  · simpa using ha
  · exact .inr ⟨a ++ c, by simp⟩
theorem ends_lines (l : List (List UInt8)) : Ends ((l.map line).flatten) := by
  induction l with
  | nil => exact .inl rfl
  | cons s l ih =>
    simp only [List.map_cons, List.flatten_cons]
    exact ends_append (by have := ends_line (t := []) s; simpa using this) ih
theorem norm_front {a : List UInt8} (ha : Ends a) (b : List UInt8) (hb : b ≠ []) : Jn.norm (a ++ b) = a ++ Jn.norm b := by
  have h : (a ++ b).getLast? = b.getLast? := by
    rw [List.getLast?_append]
    match h2 : b.getLast? with
    | none => exact absurd (List.getLast?_eq_none_iff.1 h2) hb
    | some c => rfl
  unfold Jn.norm
  rw [h]
  by_cases hc : b.getLast? = some 10
  · rw [if_pos (.inr hc), if_pos (.inr hc)]
  · have h1 : ¬ (a ++ b = [] ∨ b.getLast? = some 10) := by
      rintro (h | h)
      · simp [hb] at h
      · exact hc h
    have h2 : ¬ (b = [] ∨ b.getLast? = some 10) := by
      rintro (h | h)
      · exact hb h
      · exact hc h
    rw [if_neg h1, if_neg h2, List.append_assoc]

/- line i is changed within: all others stay; other records may come of it -/
theorem bytes_in (l1 l2 : List (List UInt8)) (x : List UInt8) (hx : Ends x) : (l1 ++ l2).Sublist (recs ((l1.map line).flatten ++ (x ++ (l2.map line).flatten))) := by
  rw [recs_lines, recs_front hx]
  have : recs ((l2.map line).flatten) = l2 := by have := recs_lines l2 []; simpa [recs_nil] using this
  rw [this]
  exact List.Sublist.append (List.Sublist.refl _) (List.sublist_append_right _ _)

/- the records that are wanted: those whose lines are not touched -/
def wants (n : Nat) (same : Bool) : Nat → List (List UInt8) → List (List UInt8)
  | _, [] => []
  | f, r :: rs => if same = true ∨ ¬ (f ≤ n ∧ n < f + (line r).length ∨ n + 1 = f) then r :: wants n same (f + (line r).length) rs else wants n same (f + (line r).length) rs
theorem wants_same (n : Nat) : ∀ (l : List (List UInt8)) (f : Nat), wants n true f l = l
  | [], _ => rfl
  | r :: l, f => by unfold wants; rw [if_pos (.inl rfl), wants_same n l]
theorem wants_after (n : Nat) (b : Bool) : ∀ (l : List (List UInt8)) (f : Nat), n + 1 < f → wants n b f l = l
  | [], _, _ => rfl
  | r :: l, f, h => by unfold wants; rw [if_pos (.inr (by omega)), wants_after n b l _ (by omega)]
theorem wants_before (n : Nat) (b : Bool) (rest : List (List UInt8)) : ∀ (l : List (List UInt8)) (f : Nat), f + ((l.map line).flatten).length ≤ n → wants n b f (l ++ rest) = l ++ wants n b (f + ((l.map line).flatten).length) rest
  | [], f, _ => by simp
  | r :: l, f, h => by
    simp only [List.map_cons, List.flatten_cons, List.length_append] at h
    simp only [List.cons_append, wants]
    rw [if_pos (.inr (by omega)), wants_before n b rest l _ (by omega)]
    simp only [List.map_cons, List.flatten_cons, List.length_append, Nat.add_assoc]
theorem locate : ∀ (l : List (List UInt8)) (n : Nat), n < ((l.map line).flatten).length → ∃ l1 r l2, l = l1 ++ r :: l2 ∧ ((l1.map line).flatten).length ≤ n ∧ n < ((l1.map line).flatten).length + (line r).length
  | [], n, h => by simp at h
  | r :: l, n, h => by
    by_cases hn : n < (line r).length
    · exact ⟨[], r, l, rfl, by simp, by simpa using hn⟩
    · simp only [List.map_cons, List.flatten_cons, List.length_append] at h
      obtain ⟨l1, r', l2, rfl, h1, h2⟩ := locate l (n - (line r).length) (by omega)
      exact ⟨r :: l1, r', l2, rfl, by simp only [List.map_cons, List.flatten_cons, List.length_append]; omega, by simp only [List.map_cons, List.flatten_cons, List.length_append]; omega⟩
theorem recs_all (l : List (List UInt8)) : recs ((l.map line).flatten) = l := by have := recs_lines l []; simpa [recs_nil] using this

theorem bytes_law (l : List (List UInt8)) (n : Nat) (to : UInt8) (hs : ∀ r ∈ l, r.length < 1152921504606846976) (hn : n < ((l.map line).flatten).length) :
    let s := (l.map line).flatten
    let odd := s.take n ++ to :: s.drop (n + 1)
    let want := wants n (decide (odd = s)) 0 l
    recs (Jn.norm odd) = want ∨ recs (Jn.norm odd) = recs odd ∧ want.length < (recs (Jn.norm odd)).length := by
  intro s odd want
  by_cases hsame : odd = s
  · left
    have : want = l := by show wants n (decide (odd = s)) 0 l = l; rw [decide_eq_true hsame]; exact wants_same n l 0
    rw [this, hsame, (ends_lines l).norm]
    exact recs_all l
  · obtain ⟨l1, r, l2, rfl, h1, h2⟩ := locate l n hn
    have hw0 : want = wants n false 0 (l1 ++ r :: l2) := by show wants n (decide (odd = s)) 0 _ = _; rw [decide_eq_false hsame]
    rw [wants_before n false _ l1 0 (by omega), Nat.zero_add] at hw0
    obtain ⟨p, rfl⟩ : ∃ p, n = ((l1.map line).flatten).length + p := ⟨n - ((l1.map line).flatten).length, by omega⟩
    have hA := ends_lines l1
    have hS : s = (l1.map line).flatten ++ (line r ++ (l2.map line).flatten) := by show (List.map line (l1 ++ r :: l2)).flatten = _; simp
    have hodd : odd = (l1.map line).flatten ++ ((line r).take p ++ to :: ((line r).drop (p + 1) ++ (l2.map line).flatten)) := by
      show s.take _ ++ to :: s.drop _ = _
      rw [hS, List.take_append, List.take_of_length_le (by omega), Nat.add_sub_cancel_left, List.take_append_of_le_length (by omega), List.append_assoc]
      congr 3
      rw [List.drop_append, List.drop_eq_nil_of_le (by omega), List.nil_append, show ((l1.map line).flatten).length + p + 1 - ((l1.map line).flatten).length = p + 1 by omega]
      rw [List.drop_append_of_le_length (by omega)]
    have hlr : (line r).length = (front r).length + 1 := by rw [line_front]; simp
    have hr : r.length < 1152921504606846976 := hs r (by simp)
    generalize ((l1.map line).flatten).length = a at h1 h2 hw0
    by_cases hp : p < (front r).length
    · -- within the line
      have hx : (line r).take p ++ to :: (line r).drop (p + 1) = ((front r).take p ++ to :: (front r).drop (p + 1)) ++ [10] := by
        rw [line_front, List.take_append_of_le_length (by omega), List.drop_append_of_le_length (by omega)]; simp
      have hE : Ends ((line r).take p ++ to :: (line r).drop (p + 1)) := .inr ⟨_, hx⟩
      have hodd2 : odd = (l1.map line).flatten ++ (((line r).take p ++ to :: (line r).drop (p + 1)) ++ (l2.map line).flatten) := by rw [hodd]; simp
      have hEo : Ends odd := by rw [hodd2]; exact ends_append hA (ends_append hE (ends_lines l2))
      have hwv : want = l1 ++ l2 := by
        rw [hw0]; unfold wants
        rw [if_neg (by simp; omega), wants_after _ _ l2 _ (by omega)]
      rw [hEo.norm, hwv]
      have hsub := bytes_in l1 l2 _ hE
      rw [← hodd2] at hsub
      rcases sub_cases hsub with h | h
      · exact .inl h.symm
      · exact .inr ⟨rfl, h⟩
    · -- the end of the line
      obtain rfl : p = (front r).length := by omega
      have ht : (line r).take (front r).length = front r := by rw [line_front, List.take_left]
      have hd : (line r).drop ((front r).length + 1) = [] := List.drop_eq_nil_of_le (by omega)
      rw [ht, hd, List.nil_append] at hodd
      have hto : to ≠ 10 := by
        rintro rfl
        exact hsame (by rw [hodd, hS, line_front]; simp)
      have hrw : wants (a + (front r).length) false a (r :: l2) = wants (a + (front r).length) false (a + (line r).length) l2 := by
        rw [wants, if_neg (by simp; omega)]
      rw [hrw] at hw0
      cases l2 with
      | nil =>
        left
        have hwv : want = l1 := by rw [hw0]; simp [wants]
        have hno : (10 : UInt8) ∉ front r ++ [to] := by
          simp only [List.mem_append, List.mem_singleton, not_or]
          exact ⟨front_no_nl r, fun e => hto e.symm⟩
        have hodd2 : odd = (l1.map line).flatten ++ (front r ++ [to]) := by rw [hodd]; simp
        have hnorm : Jn.norm (front r ++ [to]) = front r ++ [to] ++ 10 :: [] := by
          unfold Jn.norm
          rw [if_neg]
          rintro (h | h)
          · simp at h
          · simp at h; exact hto h
        rw [hwv, hodd2, norm_front hA _ (by simp), recs_front hA, recs_all, hnorm, recs_piece hno, longer hr [to] (by simp) (by simp)]
        simp [recs_nil]
      | cons r2 l3 =>
        have hwv : want = l1 ++ l3 := by
          rw [hw0, wants, if_neg (by simp; omega), wants_after _ _ l3 _ (by have : 0 < (line r2).length := List.length_pos_iff.2 (line_ne r2); omega)]
        have hE : Ends (front r ++ to :: line r2) := .inr ⟨front r ++ to :: front r2, by rw [line_front]; simp⟩
        have hodd2 : odd = (l1.map line).flatten ++ ((front r ++ to :: line r2) ++ (l3.map line).flatten) := by rw [hodd]; simp
        have hEo : Ends odd := by rw [hodd2]; exact ends_append hA (ends_append hE (ends_lines l3))
        rw [hEo.norm, hwv]
        have hsub := bytes_in l1 l3 _ hE
        rw [← hodd2] at hsub
        rcases sub_cases hsub with h | h
        · exact .inl h.symm
        · exact .inr ⟨rfl, h⟩
end Go.Proofs.YthppcmejffdicaaGreatDoor.Jn

/- How the reference reads a line. Plain, nothing of the program. -/
namespace Go.Proofs.YthppcmejffdicaaGreatDoor.Jn
open Go.Lib Hach Num

/- what the reference reads: so many blanks have come, so much is left; the last byte is not looked at -/
def rdec : Nat → List UInt8 → List UInt8
  | _, [] => []
  | _, [_] => []
  | b, c :: d :: r => if b < 2 then rdec (if c = 32 then b + 1 else b) (d :: r) else if c = 92 then (if d = 110 then 10 else d) :: rdec b r else c :: rdec b (d :: r)
theorem rdec_skip (b : Nat) (hb : b < 2) : ∀ (a t : List UInt8), (∀ c ∈ a, c ≠ 32) → t ≠ [] → rdec b (a ++ 32 :: t) = rdec (b + 1) t
  | [], t, _, ht => by
    cases t with
    | nil => exact absurd rfl ht
    | cons x t => simp [rdec, hb]
  | c :: a, t, h, ht => by
    have hc := h c List.mem_cons_self
    have ih := rdec_skip b hb a t (fun x hx => h x (List.mem_cons_of_mem _ hx)) ht
    match he : a ++ 32 :: t with
    | [] => simp at he
    | x :: y =>
      rw [List.cons_append, he]
      rw [he] at ih
      rw [rdec, if_pos hb, if_neg hc]
      exact ih
theorem rdec_esc (b : Nat) (hb : ¬ b < 2) : ∀ s : List UInt8, rdec b (esc s ++ [10]) = s
  | [] => by simp [esc, rdec]
  | c :: s => by
    have ih := rdec_esc b hb s
    unfold esc
    split
    · rename_i h; subst h
      simp only [List.cons_append]
      rw [rdec, if_neg hb, if_pos rfl, if_neg (by decide), ih]
    · split
      · rename_i h; subst h
        simp only [List.cons_append]
        rw [rdec, if_neg hb, if_pos rfl, if_pos rfl, ih]
      · rename_i h1 h2
        rw [List.cons_append]
        match he : esc s ++ [10] with
        | [] => simp at he
        | x :: y =>
          rw [he] at ih
          rw [rdec, if_neg hb, if_neg h1, ih]
theorem rdec_line (s : List UInt8) : rdec 0 (line s) = s := by
  unfold line
  rw [rdec_skip 0 (by decide) _ _ (fun c hc => (head_no hc).1) (by simp), rdec_skip 1 (by decide) _ _ (fun c hc => (hex_no hc).1) (by simp)]
  exact rdec_esc 2 (by decide) s
theorem recOf_rdec (x : List UInt8) : recOf x = if line (rdec 0 x) = x then some (rdec 0 x) else none := recOf_by fun s h => by rw [h]; exact rdec_line s
theorem rdec_len : ∀ (n b : Nat) (x : List UInt8), x.length ≤ n → (rdec b x).length ≤ x.length
  | 0, b, x, h => by obtain rfl := List.eq_nil_of_length_eq_zero (Nat.le_zero.1 h); simp [rdec]
  | n + 1, b, [], h => by simp [rdec]
  | n + 1, b, [c], h => by simp [rdec]
  | n + 1, b, c :: d :: r, h => by
    simp only [List.length_cons] at h
    rw [rdec]
    split
    · have := rdec_len n (if c = 32 then b + 1 else b) (d :: r) (by simp only [List.length_cons]; omega)
      simp only [List.length_cons] at this ⊢; omega
    · split
      · have := rdec_len n b r (by omega)
        simp only [List.length_cons]; omega
      · have := rdec_len n b (d :: r) (by simp only [List.length_cons]; omega)
        simp only [List.length_cons] at this ⊢; omega
/- the program's reading -/
theorem recOf_une (x b : List UInt8) (h : body x = some b) : recOf x = if line (une b) = x then some (une b) else none := by unfold recOf; rw [h]
end Go.Proofs.YthppcmejffdicaaGreatDoor.Jn

/- How bytes are hidden and shown, step by step. Plain, nothing of the program. -/
namespace Go.Proofs.YthppcmejffdicaaGreatDoor.Jn
open Go.Lib Hach Num

def tok (c : UInt8) : List UInt8 := if c = 92 then [92, 92] else if c = 10 then [92, 110] else [c]
theorem esc_cons (c : UInt8) (r : List UInt8) : esc (c :: r) = tok c ++ esc r := by
  unfold tok
  rw [esc]
  split
  · rfl
  · split <;> rfl
theorem esc_append : ∀ a b : List UInt8, esc (a ++ b) = esc a ++ esc b
  | [], b => rfl
  | c :: a, b => by rw [List.cons_append, esc_cons, esc_cons, esc_append a b, List.append_assoc]
theorem esc_snoc (a : List UInt8) (c : UInt8) : esc (a ++ [c]) = esc a ++ tok c := by rw [esc_append, esc_cons]; simp [esc]
theorem esc_take (s : List UInt8) (k : Nat) (h : k < s.length) : esc (s.take (k + 1)) = esc (s.take k) ++ tok (s.getD k 0) := by
  rw [List.take_succ_eq_append_getElem h, esc_snoc]
  simp [List.getD, List.getElem?_eq_getElem h]
theorem esc_size : ∀ s : List UInt8, (esc s).length = s.length + s.count 92 + s.count 10
  | [] => rfl
  | c :: s => by
    rw [esc_cons, List.length_append, esc_size s, List.count_cons, List.count_cons, List.length_cons]
    unfold tok
    by_cases h : c = 92
    · subst h; simp; omega
    · by_cases h2 : c = 10
      · subst h2; simp; omega
      · simp [h, h2]; omega
theorem esc_same {s : List UInt8} (h1 : s.count 92 = 0) (h2 : s.count 10 = 0) : esc s = s := by
  induction s with
  | nil => rfl
  | cons c s ih =>
    have hc1 : c ≠ 92 := fun e => by rw [e, List.count_cons_self] at h1; omega
    have hc2 : c ≠ 10 := fun e => by rw [e, List.count_cons_self] at h2; omega
    rw [List.count_cons_of_ne (by exact hc1)] at h1
    rw [List.count_cons_of_ne (by exact hc2)] at h2
    rw [esc_cons, ih h1 h2]
    simp [tok, hc1, hc2]
/- what a text begins with, when it is shown: a pair, or a byte as it is -/
theorem une_pair1 (r : List UInt8) : une (92 :: 92 :: r) = 92 :: une r := by simp [une]
theorem une_pair2 (r : List UInt8) : une (92 :: 110 :: r) = 10 :: une r := by simp [une]
theorem une_else {c : UInt8} {r : List UInt8} (h1 : ¬ (c = 92 ∧ r.head? = some 92)) (h2 : ¬ (c = 92 ∧ r.head? = some 110)) : une (c :: r) = c :: une r := by
  cases r with
  | nil => simp [une]
  | cons d r =>
    simp only [List.head?_cons, Option.some.injEq] at h1 h2
    rw [une, if_neg h1, if_neg h2]
theorem une_len : ∀ (n : Nat) (s : List UInt8), s.length ≤ n → (une s).length ≤ s.length
  | 0, s, h => by obtain rfl := List.eq_nil_of_length_eq_zero (Nat.le_zero.1 h); simp [une]
  | n + 1, [], h => by simp [une]
  | n + 1, [c], h => by simp [une]
  | n + 1, c :: d :: r, h => by
    simp only [List.length_cons] at h
    have h1 := une_len n r (by omega)
    have h2 := une_len n (d :: r) (by simp only [List.length_cons]; omega)
    rw [une]
    split
    · simp only [List.length_cons]; omega
    · split
      · simp only [List.length_cons]; omega
      · simp only [List.length_cons] at h2 ⊢; omega
/- the reference's digits are the same -/
theorem hexl_take (l : List UInt8) (k : Nat) (h : k < l.length) : hexl (l.take (k + 1)) = hexl (l.take k) ++ [hexd ((l.getD k 0).toNat / 16), hexd ((l.getD k 0).toNat % 16)] := by
  unfold hexl
  rw [List.take_succ_eq_append_getElem h, List.flatMap_append]
  simp [List.getD, List.getElem?_eq_getElem h]
theorem hexl_len (l : List UInt8) : (hexl l).length = 2 * l.length := by
  induction l with
  | nil => rfl
  | cons c l ih => unfold hexl at ih ⊢; rw [List.flatMap_cons, List.length_append, ih]; simp; omega
def hexs : List UInt8 := [48, 49, 50, 51, 52, 53, 54, 55, 56, 57, 97, 98, 99, 100, 101, 102]
theorem hexs_at : ∀ i : Nat, i < 16 → hexs.getD i 0 = hexd i := by decide
end Go.Proofs.YthppcmejffdicaaGreatDoor.Jn
