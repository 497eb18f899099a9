/- Contracts of the disks' methods: of the given program, and of the reference. -/
import Derived.Test.YthppcmejffdicaaGreatDoorQA
import Derived.Test.YthppcmejffdicaaGreatDoorRows
import Derived.Test.YthppcmejffdicaaGreatDoorQMono
import Derived.WalkKit
import Derived.WalkSpells
import Derived.WalkLawsBesides
import Derived.Lib.Hide
import Derived.Outline

set_option linter.unusedSimpArgs false
set_option linter.unusedVariables false
namespace Go.Proofs.YthppcmejffdicaaGreatDoor
open Go.RowKit Hach Num Jn

/- a disk in memory -/
def DkAt (T : TypeId) (w : World) (b : Nat) (d : Dk) : Prop := w.heap[b]? = some (.cells #[.string ⟨d.text.toArray⟩, .int .i64 (d.pend : Nat), .bool d.off, .bool d.counts, .int .i64 d.after] T (0, 0))
structure DkOk (d : Dk) : Prop where
  pend : d.pend ≤ d.text.length
  text : d.text.length < 281474976710656
  lo : -9223372036854775808 ≤ d.after
  hi : d.after ≤ 9223372036854775807
  go : d.counts = true → 0 ≤ d.after
theorem DkAt.cell {T : TypeId} {w : World} {b : Nat} {d : Dk} (h : DkAt T w b d) : w.cell? ⟨b, 0, none⟩ = some (.string ⟨d.text.toArray⟩) ∧ w.cell? ⟨b, 1, none⟩ = some (.int .i64 (d.pend : Nat)) ∧ w.cell? ⟨b, 2, none⟩ = some (.bool d.off) ∧ w.cell? ⟨b, 3, none⟩ = some (.bool d.counts) ∧ w.cell? ⟨b, 4, none⟩ = some (.int .i64 d.after) := by
  have h' : w.heap[b]? = _ := h
  exact ⟨by simp [World.cell?, h'], by simp [World.cell?, h'], by simp [World.cell?, h'], by simp [World.cell?, h'], by simp [World.cell?, h']⟩
theorem DkAt.free {T : TypeId} {w : World} {b : Nat} {d : Dk} (h : DkAt T w b d) (o : Nat) : w.frozen? ⟨b, o, none⟩ = false := by simp [World.frozen?, show w.heap[b]? = _ from h]
theorem DkAt.lt {T : TypeId} {w : World} {b : Nat} {d : Dk} (h : DkAt T w b d) : b < w.heap.size := (Array.getElem?_eq_some_iff.1 h).1
theorem DkAt.ext {T : TypeId} {w w' : World} {b : Nat} {d : Dk} (h : DkAt T w b d) (hE : Ext w w') : DkAt T w' b d := (hE.below.block b h.lt).trans h
theorem DkAt.own {T : TypeId} {w w' : World} {b : Nat} {d : Dk} {r : Option Nat} (h : DkAt T w b d) (hg : w.grownBy w' r) (hb : some b ≠ r) : DkAt T w' b d := (hg.block b h.lt hb).trans h
theorem grown_set (w : World) (b o : Nat) (v : Value) : w.grownBy (w.setCell ⟨b, o, none⟩ v) (some b) :=
  ⟨rfl, rfl, rfl, by simp [World.setCell], fun k _ hk => heap_setCell_other w _ k v (fun e => hk (by rw [e]))⟩
theorem grown_refl (w : World) (r : Option Nat) : w.grownBy w r := ⟨rfl, rfl, rfl, Nat.le_refl _, fun _ _ _ => rfl⟩
theorem toArr_size (l : List UInt8) : (⟨l.toArray⟩ : ByteArray).size = l.length := by show l.toArray.size = _; simp
theorem ba_append (a b : List UInt8) : (⟨a.toArray⟩ : ByteArray) ++ ⟨b.toArray⟩ = ⟨(a ++ b).toArray⟩ := by
  apply ba_ext; rw [data_append]
theorem works_ok {d : Dk} (h : DkOk d) : DkOk d.works.2 := by
  obtain ⟨h1, h2, h3, h4, h5⟩ := h
  unfold Dk.works
  cases ho : d.off
  · cases hc : d.counts
    · exact ⟨h1, h2, h3, h4, h5⟩
    · have := h5 hc
      by_cases ha : d.after = 0
      · simp [ha]; exact ⟨h1, h2, by simp [ha], by simp [ha], by simp [ha]⟩
      · simp [ha]; exact ⟨h1, h2, by simp; omega, by simp; omega, by simp; omega⟩
  · exact ⟨h1, h2, h3, h4, h5⟩

theorem works_p (b : Nat) (d : Dk) (w : World) (h : DkAt 65 w b d) (hk : DkOk d) :
    Calls Tryz.prog 39 #[.pointer (some ⟨b, 0, none⟩)] w fun e w' => e = .returned (.bool d.works.1) ∧ DkAt 65 w' b d.works.2 ∧ w.grownBy w' (some b) := by
  obtain ⟨c0, c1, c2, c3, c4⟩ := h.cell
  have f2 := h.free 2
  have f4 := h.free 4
  obtain ⟨text, pend, off, counts, after⟩ := d
  have hlo := hk.lo
  have hhi := hk.hi
  have hgo := hk.go
  simp only at hlo hhi hgo c0 c1 c2 c3 c4
  cases off with
  | true =>
    clear hgo
    go_enter Tryz.func39, Tryz.ntmps39
    go_wp2_with fail
    go_ret
    exact ⟨rfl, h, grown_refl _ _⟩
  | false =>
    cases counts with
    | false =>
      clear hgo
      go_enter Tryz.func39, Tryz.ntmps39
      go_wp2_with fail
      go_ret
      exact ⟨rfl, h, grown_refl _ _⟩
    | true =>
      have hg0 := hgo rfl
      clear hgo
      by_cases ha : after = 0
      · subst ha
        have he : (Dk.works ⟨text, pend, false, true, 0⟩) = (false, ⟨text, pend, true, true, 0⟩) := rfl
        rw [he]
        go_enter Tryz.func39, Tryz.ntmps39
        go_wp2_with fail
        go_ret
        exact ⟨rfl, heap_setCell_same w b 2 _ _ (.bool true) h, grown_set w b 2 _⟩
      · have he : (Dk.works ⟨text, pend, false, true, after⟩) = (true, ⟨text, pend, false, true, after - 1⟩) := by simp [Dk.works, ha]
        rw [he]
        have ta : (after == 0) = false := by rw [beq_eq_false_iff_ne]; exact ha
        have hp : 1 ≤ after := by omega
        clear he
        go_enter Tryz.func39, Tryz.ntmps39
        go_wp2_with fail
        go_ret
        exact ⟨rfl, heap_setCell_same w b 4 _ _ (.int .i64 (after - 1)) h, grown_set w b 4 _⟩

theorem write_p (b : Nat) (d : Dk) (s : List UInt8) (w : World) (h : DkAt 65 w b d) (hk : DkOk d) (hs : d.text.length + s.length < 281474976710656) :
    Calls Tryz.prog 14 #[.pointer (some ⟨b, 0, none⟩), .string ⟨s.toArray⟩] w fun e w' => e = .returned (.bool (d.write s).1) ∧ DkAt 65 w' b (d.write s).2 ∧ w.grownBy w' (some b) := by
  obtain ⟨t1, t2, hc⟩ := works_cases d
  have hk2 := works_ok hk
  obtain ⟨ok, d2, hw⟩ : ∃ ok d2, d.works = (ok, d2) := ⟨_, _, rfl⟩
  have hwk := works_p b d w h hk
  rw [hw] at hwk hk2 t1 t2 hc
  simp only at hwk hk2 t1 t2 hc
  have hh := h.cell
  have hwr : (d.write s) = if ok then (true, { d2 with text := d2.text ++ s, pend := d2.pend + s.length }) else (false, d2) := by unfold Dk.write; rw [hw]
  rw [hwr]
  have HW := Lib.hid hwk
  clear hwk hw hwr hc t1 t2
  go_enter Tryz.func14, Tryz.ntmps14
  go_wp2_with fail
  refine HW.out.mono ?_
  rintro e w1 ⟨rfl, h1, hg1⟩
  obtain ⟨c0, c1, _, _, _⟩ := h1.cell
  have f0 := h1.free 0
  have f1 := h1.free 1
  cases ok with
  | false =>
    go_wp2_with fail
    go_ret
    exact ⟨rfl, h1, hg1⟩
  | true =>
    have hz1 : (⟨d2.text.toArray⟩ : ByteArray).size < 281474976710656 := by have := hk2.text; show d2.text.toArray.size < _; simpa using this
    have hz2 : (⟨s.toArray⟩ : ByteArray).size < 281474976710656 := by show s.toArray.size < _; simp; omega
    have hz3 : (⟨s.toArray⟩ : ByteArray).size = s.length := by show s.toArray.size = _; simp
    have hpn := hk2.pend
    have htx := hk2.text
    go_wp2_with fail
    go_ret
    refine ⟨rfl, ?_, (hg1.trans (grown_set w1 b 0 _)).trans (grown_set _ b 1 _)⟩
    have h2 := heap_setCell_same _ b 1 _ _ (.int .i64 ((d2.pend : Int) + (s.length : Nat))) (heap_setCell_same w1 b 0 _ _ (.string ((⟨d2.text.toArray⟩ : ByteArray) ++ ⟨s.toArray⟩)) h1)
    rw [ba_append] at h2 ⊢
    exact h2

theorem sync_p (b : Nat) (d : Dk) (w : World) (h : DkAt 65 w b d) (hk : DkOk d) :
    Calls Tryz.prog 16 #[.pointer (some ⟨b, 0, none⟩)] w fun e w' => e = .returned (.bool d.sync.1) ∧ DkAt 65 w' b d.sync.2 ∧ w.grownBy w' (some b) := by
  obtain ⟨t1, t2, hc⟩ := works_cases d
  have hk2 := works_ok hk
  obtain ⟨ok, d2, hw⟩ : ∃ ok d2, d.works = (ok, d2) := ⟨_, _, rfl⟩
  have hwk := works_p b d w h hk
  rw [hw] at hwk hk2 t1 t2 hc
  simp only at hwk hk2 t1 t2 hc
  have hh := h.cell
  have hwr : d.sync = if ok then (true, { d2 with pend := 0 }) else (false, d2) := by unfold Dk.sync; rw [hw]
  rw [hwr]
  have HW := Lib.hid hwk
  clear hwk hw hwr hc t1 t2
  go_enter Tryz.func16, Tryz.ntmps16
  go_wp2_with fail
  refine HW.out.mono ?_
  rintro e w1 ⟨rfl, h1, hg1⟩
  obtain ⟨c0, c1, _, _, _⟩ := h1.cell
  have f0 := h1.free 0
  have f1 := h1.free 1
  cases ok with
  | false =>
    go_wp2_with fail
    go_ret
    exact ⟨rfl, h1, hg1⟩
  | true =>
    go_wp2_with fail
    go_ret
    exact ⟨rfl, heap_setCell_same w1 b 1 _ _ (.int .i64 0) h1, hg1.trans (grown_set w1 b 1 _)⟩

theorem works_r (b : Nat) (d : Dk) (w : World) (h : DkAt 68 w b d) (hk : DkOk d) :
    Calls Tryz.prog 40 #[.pointer (some ⟨b, 0, none⟩)] w fun e w' => e = .returned (.bool d.works.1) ∧ DkAt 68 w' b d.works.2 ∧ w.grownBy w' (some b) := by
  obtain ⟨c0, c1, c2, c3, c4⟩ := h.cell
  have f2 := h.free 2
  have f4 := h.free 4
  obtain ⟨text, pend, off, counts, after⟩ := d
  have hlo := hk.lo
  have hhi := hk.hi
  have hgo := hk.go
  simp only at hlo hhi hgo c0 c1 c2 c3 c4
  cases off with
  | true =>
    clear hgo
    go_enter Tryz.func40, Tryz.ntmps40
    go_wp2_with fail
    go_ret
    exact ⟨rfl, h, grown_refl _ _⟩
  | false =>
    cases counts with
    | false =>
      clear hgo
      go_enter Tryz.func40, Tryz.ntmps40
      go_wp2_with fail
      go_ret
      exact ⟨rfl, h, grown_refl _ _⟩
    | true =>
      have hg0 := hgo rfl
      clear hgo
      by_cases ha : after = 0
      · subst ha
        have he : (Dk.works ⟨text, pend, false, true, 0⟩) = (false, ⟨text, pend, true, true, 0⟩) := rfl
        rw [he]
        go_enter Tryz.func40, Tryz.ntmps40
        go_wp2_with fail
        go_ret
        exact ⟨rfl, heap_setCell_same w b 2 _ _ (.bool true) h, grown_set w b 2 _⟩
      · have he : (Dk.works ⟨text, pend, false, true, after⟩) = (true, ⟨text, pend, false, true, after - 1⟩) := by simp [Dk.works, ha]
        rw [he]
        have ta : (after == 0) = false := by rw [beq_eq_false_iff_ne]; exact ha
        have hp : 1 ≤ after := by omega
        clear he
        go_enter Tryz.func40, Tryz.ntmps40
        go_wp2_with fail
        go_ret
        exact ⟨rfl, heap_setCell_same w b 4 _ _ (.int .i64 (after - 1)) h, grown_set w b 4 _⟩

theorem write_r (b : Nat) (d : Dk) (s : List UInt8) (w : World) (h : DkAt 68 w b d) (hk : DkOk d) (hs : d.text.length + s.length < 281474976710656) :
    Calls Tryz.prog 15 #[.pointer (some ⟨b, 0, none⟩), .string ⟨s.toArray⟩] w fun e w' => e = .returned (.bool (d.write s).1) ∧ DkAt 68 w' b (d.write s).2 ∧ w.grownBy w' (some b) := by
  obtain ⟨t1, t2, hc⟩ := works_cases d
  have hk2 := works_ok hk
  obtain ⟨ok, d2, hw⟩ : ∃ ok d2, d.works = (ok, d2) := ⟨_, _, rfl⟩
  have hwk := works_r b d w h hk
  rw [hw] at hwk hk2 t1 t2 hc
  simp only at hwk hk2 t1 t2 hc
  have hh := h.cell
  have hwr : (d.write s) = if ok then (true, { d2 with text := d2.text ++ s, pend := d2.pend + s.length }) else (false, d2) := by unfold Dk.write; rw [hw]
  rw [hwr]
  have HW := Lib.hid hwk
  clear hwk hw hwr hc t1 t2
  go_enter Tryz.func15, Tryz.ntmps15
  go_wp2_with fail
  refine HW.out.mono ?_
  rintro e w1 ⟨rfl, h1, hg1⟩
  obtain ⟨c0, c1, _, _, _⟩ := h1.cell
  have f0 := h1.free 0
  have f1 := h1.free 1
  cases ok with
  | false =>
    go_wp2_with fail
    go_ret
    exact ⟨rfl, h1, hg1⟩
  | true =>
    have hz1 : (⟨d2.text.toArray⟩ : ByteArray).size < 281474976710656 := by have := hk2.text; show d2.text.toArray.size < _; simpa using this
    have hz2 : (⟨s.toArray⟩ : ByteArray).size < 281474976710656 := by show s.toArray.size < _; simp; omega
    have hz3 : (⟨s.toArray⟩ : ByteArray).size = s.length := by show s.toArray.size = _; simp
    have hpn := hk2.pend
    have htx := hk2.text
    go_wp2_with fail
    go_ret
    refine ⟨rfl, ?_, (hg1.trans (grown_set w1 b 0 _)).trans (grown_set _ b 1 _)⟩
    have h2 := heap_setCell_same _ b 1 _ _ (.int .i64 ((d2.pend : Int) + (s.length : Nat))) (heap_setCell_same w1 b 0 _ _ (.string ((⟨d2.text.toArray⟩ : ByteArray) ++ ⟨s.toArray⟩)) h1)
    rw [ba_append] at h2 ⊢
    exact h2

theorem sync_r (b : Nat) (d : Dk) (w : World) (h : DkAt 68 w b d) (hk : DkOk d) :
    Calls Tryz.prog 17 #[.pointer (some ⟨b, 0, none⟩)] w fun e w' => e = .returned (.bool d.sync.1) ∧ DkAt 68 w' b d.sync.2 ∧ w.grownBy w' (some b) := by
  obtain ⟨t1, t2, hc⟩ := works_cases d
  have hk2 := works_ok hk
  obtain ⟨ok, d2, hw⟩ : ∃ ok d2, d.works = (ok, d2) := ⟨_, _, rfl⟩
  have hwk := works_r b d w h hk
  rw [hw] at hwk hk2 t1 t2 hc
  simp only at hwk hk2 t1 t2 hc
  have hh := h.cell
  have hwr : d.sync = if ok then (true, { d2 with pend := 0 }) else (false, d2) := by unfold Dk.sync; rw [hw]
  rw [hwr]
  have HW := Lib.hid hwk
  clear hwk hw hwr hc t1 t2
  go_enter Tryz.func17, Tryz.ntmps17
  go_wp2_with fail
  refine HW.out.mono ?_
  rintro e w1 ⟨rfl, h1, hg1⟩
  obtain ⟨c0, c1, _, _, _⟩ := h1.cell
  have f0 := h1.free 0
  have f1 := h1.free 1
  cases ok with
  | false =>
    go_wp2_with fail
    go_ret
    exact ⟨rfl, h1, hg1⟩
  | true =>
    go_wp2_with fail
    go_ret
    exact ⟨rfl, heap_setCell_same w1 b 1 _ _ (.int .i64 0) h1, hg1.trans (grown_set w1 b 1 _)⟩

end Go.Proofs.YthppcmejffdicaaGreatDoor
