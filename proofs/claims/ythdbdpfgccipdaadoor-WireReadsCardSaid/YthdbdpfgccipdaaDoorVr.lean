/- Contracts of a reader of the reference: integers, texts. -/
import Derived.Test.YthdbdpfgccipdaaDoorVq
namespace Go.Proofs.YthdbdpfgccipdaaDoor
open Go.RowKit Hach Num

def RIntEnd (e : Ending) (w' : World) (b : Nat) (o : Option (Int × List UInt8)) : Prop := e = .returned (.int .i64 ((o.map (·.1)).getD 0)) ∧ RR w' b (o.map (·.2))
def RTextEnd (e : Ending) (w' : World) (b : Nat) (o : Option (List UInt8 × List UInt8)) : Prop := e = .returned (.string ⟨((o.map (·.1)).getD []).toArray⟩) ∧ RR w' b (o.map (·.2))

theorem rint_any (b : Nat) (l : Option (List UInt8)) (w : World) (hR : RR w b l) :
    Calls Tryd.prog 23 #[.pointer (some ⟨b, 0, none⟩)] w fun e w' => RIntEnd e w' b (l.bind rdInt) ∧ w.grownBy w' (some b) := by
  have hn := rnumber_any 59 b l w hR
  have hn : Calls Tryd.prog 43 #[.pointer (some ⟨b, 0, none⟩), .int .u8 59] w fun e w' => RNum e w' b l (l.bind rdInt) ∧ w.grownBy w' (some b) := hn
  cases ho : l.bind rdInt with
  | none =>
    rw [ho] at hn
    go_enter Tryd.func23, Tryd.ntmps23
    go_wp2_with fail
    refine hn.mono ?_
    rintro e w1 ⟨⟨rfl, hR1⟩, hg1⟩
    go_wp2_with fail
    refine (rfail_any b l w1 hR1).mono ?_
    rintro e w2 ⟨rfl, hR2, hg2⟩
    go_wp2_with fail
    go_ret
    exact ⟨⟨rfl, hR2⟩, hg1.trans hg2⟩
  | some p =>
    rw [ho] at hn
    go_enter Tryd.func23, Tryd.ntmps23
    go_wp2_with fail
    refine hn.mono ?_
    rintro e w1 ⟨⟨rfl, hR1⟩, hg1⟩
    go_wp2_with fail
    go_ret
    exact ⟨⟨rfl, hR1⟩, hg1⟩

theorem rtext_any (b : Nat) (l : Option (List UInt8)) (w : World) (hR : RR w b l) :
    Calls Tryd.prog 25 #[.pointer (some ⟨b, 0, none⟩)] w fun e w' => RTextEnd e w' b (l.bind rdText) ∧ w.grownBy w' (some b) := by
  have hn : Calls Tryd.prog 43 #[.pointer (some ⟨b, 0, none⟩), .int .u8 58] w fun e w' => RNum e w' b l (l.bind (rdNum 58)) ∧ w.grownBy w' (some b) := rnumber_any 58 b l w hR
  cases ho : l.bind (rdNum 58) with
  | none =>
    have ht : l.bind rdText = none := by
      cases l with
      | none => rfl
      | some l => simp only [Option.bind_some] at ho ⊢; unfold rdText; rw [ho]
    rw [ho] at hn
    rw [ht]
    clear ht ho
    go_enter Tryd.func25, Tryd.ntmps25
    go_wp2_with fail
    refine hn.mono ?_
    rintro e w1 ⟨⟨rfl, hR1⟩, hg1⟩
    go_wp2_with fail
    refine (rfail_any b l w1 hR1).mono ?_
    rintro e w2 ⟨rfl, hR2, hg2⟩
    go_wp2_with fail
    go_ret
    exact ⟨⟨rfl, hR2⟩, hg1.trans hg2⟩
  | some p =>
    obtain ⟨n, r⟩ := p
    rw [ho] at hn
    have hni : InI n := by
      cases l with
      | none => cases ho
      | some l => exact (rdNum_only (show rdNum 58 l = some (n, r) from ho)).1
    obtain ⟨hn0, hn1⟩ := hni
    by_cases hbad : n < 0 ∨ (r.length : Int) < n
    · have ht : l.bind rdText = none := by
        cases l with
        | none => rfl
        | some l => simp only [Option.bind_some] at ho ⊢; unfold rdText; rw [ho]; simp only; rw [if_pos hbad]
      rw [ht]
      clear ht ho
      by_cases hneg : n < 0
      · have t1 : decide (n < 0) = true := by simpa using hneg
        clear hbad
        go_enter Tryd.func25, Tryd.ntmps25
        go_wp2_with fail
        refine hn.mono ?_
        rintro e w1 ⟨⟨rfl, hR1⟩, hg1⟩
        have hR1 : RR w1 b (some r) := hR1
        go_wp2_with fail
        refine (rfail_any b _ w1 hR1).mono ?_
        rintro e w2 ⟨rfl, hR2, hg2⟩
        go_wp2_with fail
        go_ret
        exact ⟨⟨rfl, hR2⟩, hg1.trans hg2⟩
      · have t1 : decide (n < 0) = false := by simpa using hneg
        have t2 : decide ((r.length : Int) < n) = true := by
          rcases hbad with h | h
          · exact absurd h hneg
          · simpa using h
        clear hbad
        go_enter Tryd.func25, Tryd.ntmps25
        go_wp2_with fail
        refine hn.mono ?_
        rintro e w1 ⟨⟨rfl, hR1⟩, hg1⟩
        have hR1 : RR w1 b (some r) := hR1
        go_wp2_with fail
        refine (rleft_any b (some r) w1 hR1).mono ?_
        rintro e w2 ⟨rfl, hE2⟩
        rw [show ((some r).getD []).length = r.length from rfl]
        go_wp2_with fail
        refine (rfail_any b _ w2 (hR1.ext hE2)).mono ?_
        rintro e w3 ⟨rfl, hR3, hg3⟩
        go_wp2_with fail
        go_ret
        exact ⟨⟨rfl, hR3⟩, (hg1.trans (grown_ext hE2 _)).trans hg3⟩
    · obtain ⟨k, rfl⟩ : ∃ k : Nat, n = k := ⟨n.toNat, by omega⟩
      have hk : k ≤ r.length := by omega
      have ht : l.bind rdText = some (r.take k, r.drop k) := by
        cases l with
        | none => cases ho
        | some l => simp only [Option.bind_some] at ho ⊢; unfold rdText; rw [ho]; simp only; rw [if_neg hbad]; simp
      rw [ht]
      have t1 : decide ((k : Int) < 0) = false := by simp
      have t2 : decide ((r.length : Int) < k) = false := by simp; omega
      have t3 : decide (r.length < k) = false := by simpa using hk
      clear ht ho hbad
      go_enter Tryd.func25, Tryd.ntmps25
      go_wp2_with fail
      refine hn.mono ?_
      rintro e w1 ⟨⟨rfl, hR1⟩, hg1⟩
      have hR1 : RR w1 b (some r) := hR1
      go_wp2_with fail
      refine (rleft_any b (some r) w1 hR1).mono ?_
      rintro e w2 ⟨rfl, hE2⟩
      rw [show ((some r).getD []).length = r.length from rfl]
      obtain ⟨S, a, h1, h2, h3, h4⟩ := hR1.ext hE2
      have hd := h4 r rfl
      have hrl : r.length = S.length - a := by rw [← hd, List.length_drop]
      have c0 : w2.cell? ⟨b, 0, none⟩ = some (.string ⟨S.toArray⟩) := by simp [World.cell?, h3]
      have c1 : w2.cell? ⟨b, 1, none⟩ = some (.int .i64 (a : Nat)) := by simp [World.cell?, h3]
      have f1 : w2.frozen? ⟨b, 1, none⟩ = false := by simp [World.frozen?, h3]
      have hz := toArr_size S
      obtain ⟨ov, hov⟩ : ∃ ov : ByteArray, (⟨S.toArray⟩ : ByteArray).extract a (a + k) = ov := ⟨_, rfl⟩
      have HOV : Hid (ov = ⟨(r.take k).toArray⟩) := by
        show ov = _
        rw [← hov, ← hd]
        apply ba_ext; rw [ByteArray.data_extract]; simp [show a + k - a = k by omega]
      have HD := Lib.hid hd
      have g1 : ¬ ((a : Int) + (k : Int) < (a : Int)) := by omega
      have g2 : ¬ ((S.length : Int) < (a : Int) + (k : Int)) := by omega
      clear hd h4
      go_wp2_with fail
      go_quiet (fail)
      go_wp2_with fail
      go_ret
      refine ⟨⟨?_, S, a + k, by omega, h2, heap_setCell_same _ b 1 _ _ _ h3, fun r' e => ?_⟩, ((hg1.trans (grown_ext hE2 _)).trans (grown_ext (ext_drewN _ _) _)).trans (grown_set _ b 1 _)⟩
      · show Ending.returned (Value.string _) = _
        rw [hov, HOV.out]; rfl
      · simp only [Option.map_some, Option.some.injEq] at e
        rw [← e, ← HD.out, List.drop_drop]
end Go.Proofs.YthdbdpfgccipdaaDoor
