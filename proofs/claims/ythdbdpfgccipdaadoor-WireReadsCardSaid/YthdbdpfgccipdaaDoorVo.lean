/- Contracts of a reader of the reference: numbers. -/
import Derived.Test.YthdbdpfgccipdaaDoorVh
import Derived.Deep.CutBlock
namespace Go.Proofs.YthdbdpfgccipdaaDoor
open Go.RowKit Hach Num

/- a reader of the reference: what is left to decode, or nothing, if it is wrong -/
def RR (w : World) (b : Nat) (l : Option (List UInt8)) : Prop :=
  ∃ (S : List UInt8) (at_ : Nat), at_ ≤ S.length ∧ S.length < 4294967281 ∧ w.heap[b]? = some (.cells #[.string ⟨S.toArray⟩, .int .i64 (at_ : Nat), .bool l.isNone] 59 (0, 0)) ∧ ∀ r, l = some r → S.drop at_ = r
theorem RR.ext {w w' : World} {b : Nat} {l : Option (List UInt8)} (h : RR w b l) (hE : Ext w w') : RR w' b l := by
  obtain ⟨S, a, h1, h2, h3, h4⟩ := h
  exact ⟨S, a, h1, h2, (hE.below.block b (Array.getElem?_eq_some_iff.1 h3).1).trans h3, h4⟩
theorem RR.own {w w' : World} {b : Nat} {l : Option (List UInt8)} {r : Option Nat} (h : RR w b l) (hg : w.grownBy w' r) (hb : some b ≠ r) : RR w' b l := by
  obtain ⟨S, a, h1, h2, h3, h4⟩ := h
  exact ⟨S, a, h1, h2, (hg.block b (Array.getElem?_eq_some_iff.1 h3).1 hb).trans h3, h4⟩
theorem RR.lt {w : World} {b : Nat} {l : Option (List UInt8)} (h : RR w b l) : b < w.heap.size := by
  obtain ⟨S, a, h1, h2, h3, h4⟩ := h
  exact (Array.getElem?_eq_some_iff.1 h3).1

theorem rbad_any (b : Nat) (l : Option (List UInt8)) (w : World) (h : RR w b l) :
    Calls Tryd.prog 35 #[.pointer (some ⟨b, 0, none⟩)] w fun e w' => e = .returned (.bool l.isNone) ∧ w' = w := by
  obtain ⟨S, a, h1, h2, h3, h4⟩ := h
  have c2 : w.cell? ⟨b, 2, none⟩ = some (.bool l.isNone) := by simp [World.cell?, h3]
  go_enter Tryd.func35, Tryd.ntmps35
  go_wp2_with fail
  go_ret
  exact ⟨rfl, rfl⟩
theorem rleft_any (b : Nat) (l : Option (List UInt8)) (w : World) (h : RR w b l) :
    Calls Tryd.prog 33 #[.pointer (some ⟨b, 0, none⟩)] w fun e w' => e = .returned (.int .i64 ((l.getD []).length : Nat)) ∧ Ext w w' := by
  obtain ⟨S, a, h1, h2, h3, h4⟩ := h
  have c0 : w.cell? ⟨b, 0, none⟩ = some (.string ⟨S.toArray⟩) := by simp [World.cell?, h3]
  have c1 : w.cell? ⟨b, 1, none⟩ = some (.int .i64 (a : Nat)) := by simp [World.cell?, h3]
  have c2 : w.cell? ⟨b, 2, none⟩ = some (.bool l.isNone) := by simp [World.cell?, h3]
  have hz := toArr_size S
  cases l with
  | none =>
    go_enter Tryd.func33, Tryd.ntmps33
    go_wp2_with fail
    go_ret
    exact ⟨rfl, Ext.refl _⟩
  | some r =>
    have hr := h4 r rfl
    have hl : (((some r).getD []).length : Int) = (S.length : Int) - a := by
      show (r.length : Int) = _
      rw [← hr, List.length_drop]; omega
    have HL := Lib.hid hl
    clear hl hr h4
    go_enter Tryd.func33, Tryd.ntmps33
    go_wp2_with fail
    go_quiet (fail)
    go_wp2_with fail
    go_ret
    refine ⟨?_, ext_drewN _ _⟩
    rw [HL.out]; rfl
theorem rfail_any (b : Nat) (l : Option (List UInt8)) (w : World) (h : RR w b l) :
    Calls Tryd.prog 44 #[.pointer (some ⟨b, 0, none⟩)] w fun e w' => e = .returned (.tuple #[]) ∧ RR w' b none ∧ w.grownBy w' (some b) := by
  obtain ⟨S, a, h1, h2, h3, h4⟩ := h
  have c2 : w.cell? ⟨b, 2, none⟩ = some (.bool l.isNone) := by simp [World.cell?, h3]
  have f2 : w.frozen? ⟨b, 2, none⟩ = false := by simp [World.frozen?, h3]
  go_enter Tryd.func44, Tryd.ntmps44
  go_wp2_with fail
  go_end0
  exact ⟨rfl, ⟨S, a, h1, h2, heap_setCell_same w b 2 _ _ _ h3, fun r h => by cases h⟩, grown_set w b 2 _⟩
theorem rnew_any (s : List UInt8) (hs : s.length < 4294967281) (w : World) :
    Calls Tryd.prog 21 #[.string ⟨s.toArray⟩] w fun e w' => e = .returned (.pointer (some ⟨w.heap.size, 0, none⟩)) ∧ RR w' w.heap.size (some s) ∧ Ext w w' := by
  go_enter Tryd.func21, Tryd.ntmps21
  go_wp2_with fail
  go_ret
  exact ⟨rfl, ⟨s, 0, Nat.zero_le _, hs, heap_alloc_new _ _, fun r h => by simpa using h⟩, Ext.alloc _ _⟩

/- a byte that is there, and is passed -/
def RB (c : UInt8) (l : Option (List UInt8)) : Option (List UInt8) := match l with
  | some (x :: r) => if x = c then some r else none
  | _ => none
def RByte (e : Ending) (w' : World) (b : Nat) (l o : Option (List UInt8)) : Prop := e = .returned (.bool o.isSome) ∧ match o with | some r => RR w' b (some r) | none => RR w' b l
theorem rbyte_any (c : UInt8) (b : Nat) (l : Option (List UInt8)) (w : World) (h : RR w b l) :
    Calls Tryd.prog 47 #[.pointer (some ⟨b, 0, none⟩), .int .u8 (c.toNat : Nat)] w fun e w' => RByte e w' b l (RB c l) ∧ w.grownBy w' (some b) := by
  have hR := h
  obtain ⟨S, a, h1, h2, h3, h4⟩ := h
  match l, hR, h3, h4 with
  | none, hR, h3, h4 =>
    go_enter Tryd.func47, Tryd.ntmps47
    go_wp2_with fail
    refine (rleft_any b none w hR).mono ?_
    rintro e w1 ⟨rfl, hE1⟩
    go_wp2_with fail
    go_quiet (fail)
    go_wp2_with fail
    go_ret
    exact ⟨⟨rfl, (hR.ext hE1).ext (ext_drewN _ _)⟩, grown_ext (hE1.trans (ext_drewN _ _)) _⟩
  | some [], hR, h3, h4 =>
    go_enter Tryd.func47, Tryd.ntmps47
    go_wp2_with fail
    refine (rleft_any b (some []) w hR).mono ?_
    rintro e w1 ⟨rfl, hE1⟩
    go_wp2_with fail
    go_quiet (fail)
    go_wp2_with fail
    go_ret
    exact ⟨⟨rfl, (hR.ext hE1).ext (ext_drewN _ _)⟩, grown_ext (hE1.trans (ext_drewN _ _)) _⟩
  | some (x :: r), hR, h3, h4 =>
    have hd := h4 _ rfl
    have hal : a < S.length := by
      rcases Nat.lt_or_ge a S.length with h | h
      · exact h
      · rw [List.drop_eq_nil_of_le h] at hd; cases hd
    have hsp := List.drop_eq_getElem_cons hal
    rw [hd] at hsp
    injection hsp with hx hr
    have hfb : ∀ h, (⟨S.toArray⟩ : ByteArray)[a]'h = x := fun _ => by rw [hx]; rfl
    have hz := toArr_size S
    have tz : (((r.length : Nat) : Int) + 1 == 0) = false := by rw [beq_eq_false_iff_ne]; omega
    have hll : ((some (x :: r)).getD []).length = r.length + 1 := rfl
    have hr1 := rleft_any b (some (x :: r)) w hR
    rw [hll] at hr1
    by_cases hxc : x = c
    · have tc : ((x.toNat : Int) != (c.toNat : Int)) = false := by rw [hxc]; simp
      have HRB := Lib.hid (show RB c (some (x :: r)) = some r from by simp only [RB, if_pos hxc])
      have HR := Lib.hid hr
      clear hx hr hd hxc h4
      go_enter Tryd.func47, Tryd.ntmps47
      go_wp2_with fail
      refine hr1.mono ?_
      rintro e w1 ⟨rfl, hE1⟩
      have h5 := (hE1.below.block b (Array.getElem?_eq_some_iff.1 h3).1).trans h3
      have c0 : w1.cell? ⟨b, 0, none⟩ = some (.string ⟨S.toArray⟩) := by simp [World.cell?, h5]
      have c1 : w1.cell? ⟨b, 1, none⟩ = some (.int .i64 (a : Nat)) := by simp [World.cell?, h5]
      have f1 : w1.frozen? ⟨b, 1, none⟩ = false := by simp [World.frozen?, h5]
      go_wp2_with fail
      go_quiet (fail)
      go_wp2_with fail
      go_ret
      rw [HRB.out]
      refine ⟨⟨rfl, ⟨S, a + 1, by omega, h2, ?_, fun r' e => ?_⟩⟩, ?_⟩
      · exact heap_setCell_same _ b 1 _ _ _ h5
      · simp only [Option.some.injEq] at e
        rw [← e, HR.out]
      · exact (grown_ext (hE1.trans (ext_drewN _ _)) _).trans (grown_set _ b 1 _)
    · have tc : ((x.toNat : Int) != (c.toNat : Int)) = true := by
        rw [bne_iff_ne]
        intro e
        exact hxc (UInt8.toNat_inj.1 (by simpa using Int.ofNat_inj.1 e))
      have HRB := Lib.hid (show RB c (some (x :: r)) = none from by simp only [RB, if_neg hxc])
      clear hx hr hd hxc h4
      go_enter Tryd.func47, Tryd.ntmps47
      go_wp2_with fail
      refine hr1.mono ?_
      rintro e w1 ⟨rfl, hE1⟩
      have h5 := (hE1.below.block b (Array.getElem?_eq_some_iff.1 h3).1).trans h3
      have c0 : w1.cell? ⟨b, 0, none⟩ = some (.string ⟨S.toArray⟩) := by simp [World.cell?, h5]
      have c1 : w1.cell? ⟨b, 1, none⟩ = some (.int .i64 (a : Nat)) := by simp [World.cell?, h5]
      go_wp2_with fail
      go_quiet (fail)
      go_wp2_with fail
      go_ret
      rw [HRB.out]
      exact ⟨⟨rfl, (hR.ext hE1).ext (ext_drewN _ _)⟩, grown_ext (hE1.trans (ext_drewN _ _)) _⟩
end Go.Proofs.YthdbdpfgccipdaaDoor
