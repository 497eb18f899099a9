/- Plain facts about the digests of layer 3: what the functions compute, on lists of bytes; nothing of the program. -/
import Derived.Below
import Derived.Laws.OwnMore
import Derived.Laws.IdiomStrings
import Derived.Deep.Draws
import Derived.Laws.StructEq
import Derived.Test.YtmiencglfhpmeaaGreatDoorRows
import Derived.Test.YtmiencglfhpmeaaGreatDoorMQXa
import Derived.WalkKit
import Derived.WalkSpells
import Derived.WalkLawsBesides
import Derived.Lib.Hide
import Derived.Outline
import Derived.Maps.AppendAt
import Derived.Test.YtmiencglfhpmeaaGreatDoorMQXl
import Derived.Lib.IndexMore
import Derived.Test.YtmiencglfhpmeaaGreatDoorMQShelf
set_option linter.unusedSimpArgs false
set_option linter.unusedVariables false
namespace Hach
open Go Go.RowKit
def stp (m p x : Nat) (c : UInt8) : Nat := (m * x + c.toNat + 1) % p
def rX (l : List UInt8) : Nat := l.foldl (stp 48271 2147483647) 31
def rY (l : List UInt8) : Nat := l.foldl (stp 40692 2147483629) 37
def b4l (n : Nat) : List UInt8 := [UInt8.ofNat (n / 16777216), UInt8.ofNat (n / 65536), UInt8.ofNat (n / 256), UInt8.ofNat n]
def b4 (n : Nat) : ByteArray := ⟨(b4l n).toArray⟩
def dgl (l : List UInt8) : List UInt8 := b4l (rX l) ++ b4l (rY l)
def dg (s : ByteArray) : ByteArray := ⟨(dgl s.data.toList).toArray⟩
theorem data_append (a b : ByteArray) : (a ++ b).data.toList = a.data.toList ++ b.data.toList := by
 show (ByteArray.append a b).data.toList = _
 simp
theorem ba_ext {a b : ByteArray} (h : a.data.toList = b.data.toList) : a = b := by
 cases a; cases b; simp at h; simp [h]
theorem eq_of_toList {a b : ByteArray} (h : a.toList = b.toList) : a = b := by
 rw [ByteArray.toList_eq, ByteArray.toList_eq] at h
 exact ba_ext h
def sameL (a b : List ByteArray) : Bool := a.map (·.data.toList) == b.map (·.data.toList)
theorem map_data_inj : ∀ {a b : List ByteArray}, a.map (·.data.toList) = b.map (·.data.toList) → a = b
 | [], [], _ => rfl
 | [], _ :: _, h => by simp at h
 | _ :: _, [], h => by simp at h
 | x :: a, y :: b, h => by
  simp only [List.map_cons, List.cons.injEq] at h
  rw [ba_ext h.1, map_data_inj h.2]
theorem sameL_iff {a b : List ByteArray} : sameL a b = true ↔ a = b := by
 unfold sameL
 rw [beq_iff_eq]
 exact ⟨map_data_inj, fun h => by rw [h]⟩
def node (a b : ByteArray) : ByteArray := dg (⟨#[4]⟩ ++ a ++ b)
def up : List ByteArray → ByteArray → Nat → Option ByteArray
 | [], d, _ => some d
 | p :: ps, d, i => if p.size = 8 then up ps (if i % 2 = 0 then node d p else node p d) (i / 2) else none
def mrk (k m : ByteArray) : ByteArray := dg (⟨#[2]⟩ ++ b4 k.size ++ k ++ m ++ k)
def chk (k m x : ByteArray) : Bool := !k.toList.isEmpty && x.toList == (mrk k m).toList
end Hach
namespace Go.Proofs.YtmiencglfhpmeaaGreatDoor
open Go.RowKit Hach
end Go.Proofs.YtmiencglfhpmeaaGreatDoor
namespace Go.Proofs.YtmiencglfhpmeaaGreatDoor.Num
open Go.Lib
def cutB (c : UInt8) : List UInt8 → Option (List UInt8 × List UInt8)
 | [] => none
 | x :: l => if x = c then some ([], l) else (cutB c l).map fun p => (x :: p.1, p.2)
theorem cutB_some {c : UInt8} : ∀ {l a b : List UInt8}, cutB c l = some (a, b) → l = a ++ c :: b ∧ c ∉ a
 | [], a, b, h => by cases h
 | x :: l, a, b, h => by
  unfold cutB at h
  split at h
  ·rename_i e
   simp only [Option.some.injEq, Prod.mk.injEq] at h
   obtain ⟨rfl, rfl⟩ := h
   subst e
   exact ⟨rfl, by simp⟩
  ·rename_i e
   match h' : cutB c l with
   | none => rw [h'] at h; cases h
   | some (a', b') =>
    rw [h'] at h
    simp only [Option.map_some, Option.some.injEq, Prod.mk.injEq] at h
    obtain ⟨rfl, rfl⟩ := h
    obtain ⟨h1, h2⟩ := cutB_some h'
    subst h1
    refine ⟨rfl, fun hm => ?_⟩
    rcases List.mem_cons.1 hm with hm | hm
    ·exact e hm.symm
    ·exact h2 hm
theorem cutB_at {c : UInt8} : ∀ (a b : List UInt8), c ∉ a → cutB c (a ++ c :: b) = some (a, b)
 | [], b, _ => by simp [cutB]
 | x :: a, b, h => by
  have h1 : ¬ x = c := fun e => h (by rw [e]; exact List.mem_cons_self)
  simp only [List.cons_append, cutB]
  rw [if_neg h1, cutB_at a b (fun hm => h (List.mem_cons_of_mem _ hm))]
  rfl
theorem cutB_none {c : UInt8} : ∀ {l : List UInt8}, cutB c l = none ↔ c ∉ l
 | [] => by simp [cutB]
 | x :: l => by
  simp only [cutB]
  split
  ·rename_i e; subst e; simp
  ·rename_i e
   simp only [Option.map_eq_none_iff, List.mem_cons, not_or]
   rw [cutB_none]
   exact ⟨fun h => ⟨fun e' => e e'.symm, h⟩, fun h => h.2⟩
theorem cut_one (c : UInt8) (l : List UInt8) : cut l [c] = match cutB c l with | some (a, b) => (a, b, true) | none => (l, [], false) := by
 match h : cutB c l with
 | some (a, b) =>
  obtain ⟨rfl, hn⟩ := cutB_some h
  have hi : index (a ++ c :: b) [c] = a.length := index_first (by simp) (by simp [occAt]) (fun j hj => by
   unfold occAt
   rw [List.drop_append_of_le_length (by omega)]
   have : a.drop j = a[j] :: a.drop (j + 1) := List.drop_eq_getElem_cons hj
   rw [this]
   simp only [List.cons_append, List.isPrefixOf, Bool.and_true, beq_eq_false_iff_ne]
   intro e
   exact hn (by rw [e]; exact List.getElem_mem hj))
  unfold cut
  rw [hi, if_pos (by omega)]
  simp
 | none =>
  have hn := cutB_none.1 h
  have hi : index l [c] = -1 := index_none (fun j hj => by
   unfold occAt
   match h' : l.drop j with
   | [] => rfl
   | x :: r =>
    simp only [List.isPrefixOf, Bool.and_true, beq_eq_false_iff_ne]
    intro e
    subst e
    exact hn (List.mem_of_mem_drop (by rw [h']; exact List.mem_cons_self)))
  unfold cut
  rw [hi, if_neg (by decide)]
def rdNum (e : UInt8) (l : List UInt8) : Option (Int × List UInt8) := match cutB e l with | none => none | some (d, r) => (num d).map fun v => (v, r)
def rdInt (l : List UInt8) : Option (Int × List UInt8) := rdNum 59 l
def rdText (l : List UInt8) : Option (List UInt8 × List UInt8) := match rdNum 58 l with | none => none | some (n, r) => if n < 0 ∨ (r.length : Int) < n then none else some (r.take n.toNat, r.drop n.toNat)
def wrInt (v : Int) : List UInt8 := itoa v ++ [59]
def wrText (s : List UInt8) : List UInt8 := itoa (s.length : Int) ++ 58 :: s
structure Twin {α : Type} (f : List UInt8 → Option (α × List UInt8)) (g : α → List UInt8) (V : α → Prop) : Prop where
 back : ∀ v r, V v → f (g v ++ r) = some (v, r)
 sole : ∀ l v r, f l = some (v, r) → V v ∧ l = g v ++ r
 ne : ∀ v, g v ≠ []
 first : ∀ v, (g v).head? ≠ some 93
theorem not_mem_itoa {c : UInt8} (h : ¬ (c.toNat = 45 ∨ (48 ≤ c.toNat ∧ c.toNat ≤ 57))) (v : Int) : c ∉ itoa v := fun hm => h (itoa_mem hm)
theorem rdNum_back (e : UInt8) (he : ¬ (e.toNat = 45 ∨ (48 ≤ e.toNat ∧ e.toNat ≤ 57))) {v : Int} (hv : InI v) (r : List UInt8) : rdNum e (itoa v ++ e :: r) = some (v, r) := by
 unfold rdNum
 rw [cutB_at _ _ (not_mem_itoa he v)]
 simp only
 rw [num_itoa hv]
 rfl
theorem rdNum_only {e : UInt8} {l r : List UInt8} {v : Int} (h : rdNum e l = some (v, r)) : InI v ∧ l = itoa v ++ e :: r := by
 unfold rdNum at h
 match h' : cutB e l with
 | none => rw [h'] at h; cases h
 | some (d, b) =>
  rw [h'] at h
  simp only at h
  match h2 : num d with
  | none => rw [h2] at h; cases h
  | some u =>
   rw [h2] at h
   simp only [Option.map_some, Option.some.injEq, Prod.mk.injEq] at h
   obtain ⟨rfl, rfl⟩ := h
   obtain ⟨e1, hv⟩ := num_some h2
   obtain ⟨e2, _⟩ := cutB_some h'
   exact ⟨hv, by rw [e2, e1]⟩
theorem head_itoa (v : Int) (r : List UInt8) : (itoa v ++ r).head? ≠ some 93 := by
 match h : itoa v with
 | [] => exact absurd h (itoa_ne_nil v)
 | c :: t =>
  have := itoa_mem (v := v) (c := c) (by rw [h]; exact List.mem_cons_self)
  simp only [List.cons_append, List.head?_cons, ne_eq, Option.some.injEq]
  intro e
  subst e
  exact absurd this (by decide)
theorem twinInt : Twin rdInt wrInt InI where
 back v r hv := by
  unfold rdInt wrInt
  rw [List.append_assoc]
  exact rdNum_back 59 (by decide) hv r
 sole l v r h := by
  obtain ⟨hv, e⟩ := rdNum_only h
  exact ⟨hv, by rw [e]; unfold wrInt; rw [List.append_assoc]; rfl⟩
 ne v := by unfold wrInt; simp
 first v := head_itoa v _
theorem twinText : Twin rdText wrText (fun s => InI (s.length : Int)) where
 back s r hs := by
  unfold rdText wrText
  rw [List.append_assoc, List.cons_append, rdNum_back 58 (by decide) hs]
  simp only
  rw [if_neg (by rw [List.length_append]; omega), Int.toNat_natCast, List.take_left, List.drop_left]
 sole l s r h := by
  unfold rdText at h
  match h' : rdNum 58 l with
  | none => rw [h'] at h; cases h
  | some (n, b) =>
   rw [h'] at h
   simp only at h
   split at h
   ·cases h
   ·rename_i hn
    simp only [Option.some.injEq, Prod.mk.injEq] at h
    obtain ⟨rfl, rfl⟩ := h
    obtain ⟨hv, e⟩ := rdNum_only h'
    have hl : ((b.take n.toNat).length : Int) = n := by rw [List.length_take]; omega
    refine ⟨by rw [hl]; exact hv, ?_⟩
    unfold wrText
    rw [hl, e, List.append_assoc, List.cons_append, List.take_append_drop]
 ne v := by unfold wrText; simp
 first v := head_itoa _ _
variable {α : Type} {f : List UInt8 → Option (α × List UInt8)} {g : α → List UInt8} {V : α → Prop}
theorem Twin.less (T : Twin f g V) {l r : List UInt8} {v : α} (h : f l = some (v, r)) : r.length < l.length := by
 obtain ⟨_, e⟩ := T.sole l v r h
 have := List.length_pos_iff.2 (T.ne v)
 rw [e, List.length_append]; omega
end Go.Proofs.YtmiencglfhpmeaaGreatDoor.Num
namespace Go.Proofs.YtmiencglfhpmeaaGreatDoor.Num
open Go.Lib
end Go.Proofs.YtmiencglfhpmeaaGreatDoor.Num
namespace Go.Proofs.YtmiencglfhpmeaaGreatDoor.Wr
open Go.RowKit
def sh166_ren : Go.Shelf.Ren := ⟨fun | 166 => 46 | 240 => 83 | 276 => 104 | n => n, fun | 0 => 0 | 3 => 3 | 4 => 4 | 5 => 5 | 9 => 9 | 20 => 20 | 37 => 97 | 70 => 96 | 72 => 99 | 75 => 101 | 80 => 107 | 164 => 150 | n => n, fun | n => n⟩
theorem sh166 : Go.Proofs.Lays.n166 Tryz.prog sh166_ren := {
 mixed := by kernel_rfl
 f166 := Tryz.func46.trans (congrArg some (by kernel_rfl))
 f240 := Tryz.func83.trans (congrArg some (by kernel_rfl))
 f276 := Tryz.func104.trans (congrArg some (by kernel_rfl))
 t0 := Tryz.underlying0
 a0 := Tryz.isAgg0
 z0 := Tryz.sizeOf0
 v0 := Tryz.zeroValue0
 t3 := Tryz.underlying3
 a3 := Tryz.isAgg3
 z3 := Tryz.sizeOf3
 v3 := Tryz.zeroValue3
 t4 := Tryz.underlying4
 a4 := Tryz.isAgg4
 z4 := Tryz.sizeOf4
 v4 := Tryz.zeroValue4
 t9 := Tryz.underlying9
 a9 := Tryz.isAgg9
 z9 := Tryz.sizeOf9
 v9 := Tryz.zeroValue9
 t20 := Tryz.underlying20
 a20 := Tryz.isAgg20
 z20 := Tryz.sizeOf20
 v20 := Tryz.zeroValue20
 t37 := Tryz.underlying97
 a37 := Tryz.isAgg97
 z37 := Tryz.sizeOf97
 v37 := Tryz.zeroValue97
 t70 := Tryz.underlying96
 a70 := Tryz.isAgg96
 z70 := Tryz.sizeOf96
 v70 := Tryz.zeroValue96
 t72 := Tryz.underlying99
 a72 := Tryz.isAgg99
 z72 := Tryz.sizeOf99
 v72 := Tryz.zeroValue99
 t75 := Tryz.underlying101
 a75 := Tryz.isAgg101
 z75 := Tryz.sizeOf101
 v75 := Tryz.zeroValue101
 t164 := Tryz.underlying150
 a164 := Tryz.isAgg150
 z164 := Tryz.sizeOf150
 v164 := Tryz.zeroValue150 }
theorem sh166x : Builder.Extra Tryz.prog sh166_ren := {
 sizeBuilder := by kernel_rfl
 liesBuilder := by kernel_rfl
 t5 := Tryz.underlying5
 a5 := Tryz.isAgg5
 z5 := Tryz.sizeOf5
 v5 := Tryz.zeroValue5
 infoByte := by kernel_rfl
 cellsByte := by kernel_rfl
 sizeByte := by kernel_rfl
 neB5 := by decide }
end Go.Proofs.YtmiencglfhpmeaaGreatDoor.Wr
