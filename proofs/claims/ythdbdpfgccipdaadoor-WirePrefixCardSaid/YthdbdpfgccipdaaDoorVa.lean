/- Contracts of the library's functions that layer 2 calls, and of the readers' small methods. -/
import Derived.Test.YthdbdpfgccipdaaDoorVs
import Derived.Test.YthdbdpfgccipdaaDoorWb
import Derived.Test.YthdbdpfgccipdaaDoorOwn
import Derived.Lib.SmallJoins
import Derived.Lib.AppendIntMem
namespace Go.Proofs.YthdbdpfgccipdaaDoor
open Go.RowKit Hach Num

/- the package-level variables that the library reads -/
def Tabs (w : World) : Prop :=
  Lib.TabIs Tryd.prog w "internal/strconv.uint64pow10" .u64 Lib.pow10Tab ∧ 4 ≤ w.heap.size ∧ (∃ m, w.cell? ⟨1, 0, none⟩ = some (.int .i64 m)) ∧
    (∃ ev, w.cell? ⟨2, 0, none⟩ = some ev ∧ (ev = .nilIface ∨ ∃ te pe, ev = .iface te pe)) ∧ (∃ ev, w.cell? ⟨3, 0, none⟩ = some ev ∧ (ev = .nilIface ∨ ∃ te pe, ev = .iface te pe))
theorem Tabs.keep {w w' : World} (h : Tabs w) (hz : w.heap.size ≤ w'.heap.size) (hk : ∀ k, k < 4 → w'.heap[k]? = w.heap[k]?) : Tabs w' := by
  obtain ⟨h0, hs, h1, h2, h3⟩ := h
  refine ⟨?_, by omega, ?_, ?_, ?_⟩
  · have hg : Tryd.prog.globalNamed "internal/strconv.uint64pow10" = some 0 := by kernel_rfl
    unfold Lib.TabIs World.var? at h0 ⊢
    rw [hg] at h0 ⊢
    simp only [Option.bind_some] at h0 ⊢
    rw [hk 0 (by omega)]
    exact h0
  · obtain ⟨m, h⟩ := h1
    exact ⟨m, (World.cell?_of_block (a := ⟨1, 0, none⟩) (hk 1 (by omega))).trans h⟩
  · obtain ⟨m, h, r⟩ := h2
    exact ⟨m, (World.cell?_of_block (a := ⟨2, 0, none⟩) (hk 2 (by omega))).trans h, r⟩
  · obtain ⟨m, h, r⟩ := h3
    exact ⟨m, (World.cell?_of_block (a := ⟨3, 0, none⟩) (hk 3 (by omega))).trans h, r⟩
theorem Tabs.sz {w : World} (h : Tabs w) : 4 ≤ w.heap.size := h.2.1
theorem Tabs.ext {w w' : World} (h : Tabs w) (hE : Ext w w') : Tabs w' := h.keep hE.sz fun k hk => hE.below.block k (by have := h.sz; omega)
theorem Tabs.grown {w w' : World} {b : Nat} (h : Tabs w) (hg : w.grownBy w' (some b)) (hb : 4 ≤ b) : Tabs w' :=
  h.keep hg.size fun k hk => hg.block k (by have := h.sz; omega) (by simp; omega)

theorem ext_grow (w : World) (k : Nat) (os : Array Obj) : Ext w (Sort.grow (w.drewN k) os) := Lib.below_grow _ w (Nat.le_refl _) k os
theorem ext_drewN (w : World) (k : Nat) : Ext w (w.drewN k) := ⟨rfl, rfl, rfl, Nat.le_refl _, fun _ _ => rfl⟩

theorem itoa_any (n : Int) (hn : InI n) (w : World) (ht : Tabs w) :
    Calls Tryd.prog 38 #[.int .i64 n] w fun e w' => e = .returned (.string ⟨(Lib.itoa n).toArray⟩) ∧ Ext w w' := by
  refine (Tryd.strconv_Itoa n hn.1 hn.2 w ht.1).mono ?_
  rintro e w' ⟨rfl, k, os, rfl⟩
  exact ⟨rfl, ext_grow w k os⟩

theorem atoi_any (d : ByteArray) (hd : d.size < 4294967296) (w : World) (ht : Tabs w) :
    Calls Tryd.prog 54 #[.string d] w fun e w' =>
      ((∃ v, InI v ∧ num d.data.toList = (if Lib.itoa v = d.data.toList then some v else none) ∧ e = .returned (.tuple #[.int .i64 v, .nilIface])) ∨
       (∃ v te pe, num d.data.toList = none ∧ e = .returned (.tuple #[.int .i64 v, .iface te pe]))) ∧ Ext w w' := by
  obtain ⟨_, _, _, ⟨e2, c2, k2⟩, ⟨e3, c3, k3⟩⟩ := ht
  cases h : Lib.atoiAll d.data.toList
  · rename_i v
    refine (Tryd.strconv_Atoi_ok d (by omega) v h w).mono ?_
    rintro e w' ⟨rfl, hw⟩
    refine ⟨.inl ⟨v, Lib.atoiAll_bounds h, ?_, rfl⟩, ?_⟩
    · unfold num; rw [h]
    · rcases hw with rfl | ⟨t, rfl⟩
      · exact Ext.refl _
      · exact Joins.below_bytesWorld _ w _ t (Nat.le_refl _)
  · refine (show Calls Tryd.prog 54 #[.string d] w _ from Any.strconv_Atoi_syntax Tryd.laysC172 d (by omega) h e2 w c2 k2).mono ?_
    rintro e w' ⟨N, rfl, _, _, hb⟩
    exact ⟨.inr ⟨_, _, _, by unfold num; rw [h], rfl⟩, hb⟩
  · refine (show Calls Tryd.prog 54 #[.string d] w _ from Any.strconv_Atoi_range Tryd.laysC172 d (by omega) h e3 w c3 k3).mono ?_
    rintro e w' ⟨N, rfl, _, _, hb⟩
    exact ⟨.inr ⟨_, _, _, by unfold num; rw [h], rfl⟩, hb⟩

theorem cut_any (s : ByteArray) (c : UInt8) (hs : s.size < 4294967281) (w : World) (ht : Tabs w) :
    Calls Tryd.prog 53 #[.string s, .string ⟨#[c]⟩] w fun e w' =>
      ((∃ a b, cutB c s.data.toList = some (a, b) ∧ e = .returned (.tuple #[.string ⟨a.toArray⟩, .string ⟨b.toArray⟩, .bool true])) ∨
       (cutB c s.data.toList = none ∧ e = .returned (.tuple #[.string s, .string ⟨#[]⟩, .bool false]))) ∧ Ext w w' := by
  obtain ⟨_, _, ⟨m, hm⟩, _⟩ := ht
  refine (Tryd.strings_Cut s ⟨#[c]⟩ m w hs hm).mono ?_
  rintro e w' ⟨rfl, k, rfl⟩
  refine ⟨?_, ext_drewN w k⟩
  have hc := cut_one c s.data.toList
  show _ ∨ _
  rw [show (⟨#[c]⟩ : ByteArray).data.toList = [c] from rfl, hc]
  cases h : cutB c s.data.toList with
  | none => exact .inr ⟨rfl, rfl⟩
  | some p => exact .inl ⟨p.1, p.2, rfl, rfl⟩

theorem grown_set (w : World) (b o : Nat) (v : Value) : w.grownBy (w.setCell ⟨b, o, none⟩ v) (some b) :=
  ⟨rfl, rfl, rfl, by simp [World.setCell], fun k _ hk => heap_setCell_other w _ k v (fun e => hk (by rw [e]))⟩
theorem grown_ext {w w' : World} (h : Ext w w') (r : Option Nat) : w.grownBy w' r := ⟨h.os, h.tape, h.output, h.size, fun k hk _ => h.block k hk⟩

/- a reader of the given program: what is left to decode, or nothing, if it is bad -/
def Rd (w : World) (b : Nat) (l : Option (List UInt8)) : Prop := w.heap[b]? = some (.cells #[.string ⟨(l.getD []).toArray⟩, .bool l.isNone] 53 (0, 0))
theorem Rd.cell0 {w : World} {b : Nat} {l : Option (List UInt8)} (h : Rd w b l) : w.cell? ⟨b, 0, none⟩ = some (.string ⟨(l.getD []).toArray⟩) := by simp [World.cell?, show w.heap[b]? = _ from h]
theorem Rd.cell1 {w : World} {b : Nat} {l : Option (List UInt8)} (h : Rd w b l) : w.cell? ⟨b, 1, none⟩ = some (.bool l.isNone) := by simp [World.cell?, show w.heap[b]? = _ from h]
theorem Rd.free {w : World} {b : Nat} {l : Option (List UInt8)} (h : Rd w b l) (o : Nat) : w.frozen? ⟨b, o, none⟩ = false := by simp [World.frozen?, show w.heap[b]? = _ from h]
theorem Rd.lt {w : World} {b : Nat} {l : Option (List UInt8)} (h : Rd w b l) : b < w.heap.size := (Array.getElem?_eq_some_iff.1 h).1
theorem Rd.ext {w w' : World} {b : Nat} {l : Option (List UInt8)} (h : Rd w b l) (hE : Ext w w') : Rd w' b l := (hE.below.block b h.lt).trans h

theorem bad_any (b : Nat) (l : Option (List UInt8)) (w : World) (h : Rd w b l) :
    Calls Tryd.prog 34 #[.pointer (some ⟨b, 0, none⟩)] w fun e w' => e = .returned (.bool l.isNone) ∧ w' = w := by
  have c1 := h.cell1
  go_enter Tryd.func34, Tryd.ntmps34
  go_wp2_with fail
  go_ret
  exact ⟨rfl, rfl⟩
theorem left_any (b : Nat) (l : Option (List UInt8)) (w : World) (h : Rd w b l) :
    Calls Tryd.prog 32 #[.pointer (some ⟨b, 0, none⟩)] w fun e w' => e = .returned (.int .i64 ((l.getD []).length : Nat)) ∧ w' = w := by
  have c0 := h.cell0
  cases l with
  | none =>
    go_enter Tryd.func32, Tryd.ntmps32
    go_wp2_with fail
    refine (bad_any b _ w h).mono ?_
    rintro e w' ⟨rfl, rfl⟩
    go_wp2_with fail
    go_ret
    exact ⟨rfl, rfl⟩
  | some l =>
    go_enter Tryd.func32, Tryd.ntmps32
    go_wp2_with fail
    refine (bad_any b _ w h).mono ?_
    rintro e w' ⟨rfl, rfl⟩
    go_wp2_with fail
    go_ret
    exact ⟨by simp, rfl⟩
theorem fail_any (b : Nat) (l : Option (List UInt8)) (w : World) (h : Rd w b l) :
    Calls Tryd.prog 45 #[.pointer (some ⟨b, 0, none⟩)] w fun e w' => e = .returned (.tuple #[]) ∧ Rd w' b none ∧ w.grownBy w' (some b) := by
  have c0 := h.cell0
  have c1 := h.cell1
  have f0 := h.free 0
  have f1 := h.free 1
  go_enter Tryd.func45, Tryd.ntmps45
  go_wp2_with fail
  go_end0
  refine ⟨rfl, ?_, (grown_set w b 1 _).trans (grown_set _ b 0 _)⟩
  exact heap_setCell_same _ b 0 _ _ _ (heap_setCell_same w b 1 _ _ _ h)
end Go.Proofs.YthdbdpfgccipdaaDoor
