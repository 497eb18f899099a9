/- Contracts of a reader of the given program: numbers, integers, texts. -/
import Derived.Test.YthdbdpfgccipdaaDoorVa
import Derived.ScopeJumps
namespace Go.Proofs.YthdbdpfgccipdaaDoor
open Go.RowKit Hach Num

/- what a call brings, and what it leaves -/
def NumEnd (e : Ending) (w' : World) (b : Nat) (o : Option (Int × List UInt8)) : Prop := match o with
  | none => e = .returned (.tuple #[.int .i64 0, .bool false]) ∧ Rd w' b none
  | some (v, r) => e = .returned (.tuple #[.int .i64 v, .bool true]) ∧ Rd w' b (some r)

set_option maxHeartbeats 400000 in
theorem number_any (b : Nat) (l : Option (List UInt8)) (c : UInt8) (w : World) (hR : Rd w b l) (hb : 4 ≤ b) (hT : Tabs w) (hl : (l.getD []).length < 4294967281) :
    Calls Tryd.prog 42 #[.pointer (some ⟨b, 0, none⟩), .string ⟨#[c]⟩] w fun e w' => NumEnd e w' b (l.bind (rdNum c)) ∧ w.grownBy w' (some b) := by
  go_enter Tryd.func42, Tryd.ntmps42
  go_wp2_with fail
  refine wp_scope_jumps 0 (fun a' w' => ∃ u1 u2 u3 u4 u5 u6 u7 u8 u9 u10 u11 u12 u13 u14 u15 u16 u17 u18 u19 u20 u21 u22 u23 u24 u25 u26 u27 u28 u29 u30 u31 u32 u33 u34 u35 u36 u37 u38 u39 u40 : Value, a' = { tmps := #[.pointer (some ⟨b, 0, none⟩), u1, u2, u3, u4, u5, u6, u7, u8, u9, u10, u11, u12, u13, u14, u15, u16, u17, u18, u19, u20, u21, u22, u23, u24, u25, u26, u27, u28, u29, u30, u31, u32, u33, u34, u35, u36, u37, u38, u39, u40], defers := [] } ∧ (∃ l', Rd w' b l') ∧ w.grownBy w' (some b) ∧ l.bind (rdNum c) = none) (fun _ _ => 0) rfl ?first ?pass
  case pass =>
    rintro a' w' ⟨u1, u2, u3, u4, u5, u6, u7, u8, u9, u10, u11, u12, u13, u14, u15, u16, u17, u18, u19, u20, u21, u22, u23, u24, u25, u26, u27, u28, u29, u30, u31, u32, u33, u34, u35, u36, u37, u38, u39, u40, rfl, ⟨l', hR'⟩, hg, hno⟩
    go_wp2_with fail
    refine (fail_any b l' w' hR').mono ?_
    rintro e w2 ⟨rfl, hR2, hg2⟩
    go_wp2_with fail
    simp only [Exit.jump]
    go_ret2
    rw [hno]
    exact ⟨⟨rfl, hR2⟩, hg.trans hg2⟩
  case first =>
    cases l with
    | none =>
      go_wp2_with fail
      refine (bad_any b _ w hR).mono ?_
      rintro e w' ⟨rfl, rfl⟩
      go_wp2_with fail
      go_step3
      refine ⟨rfl, _, _, _, _, _, _, _, _, _, _, _, _, _, _, _, _, _, _, _, _, _, _, _, _, _, _, _, _, _, _, _, _, _, _, _, _, _, _, _, _, rfl, ⟨_, hR⟩, ⟨rfl, rfl, rfl, Nat.le_refl _, fun _ _ _ => rfl⟩, rfl⟩
    | some l =>
      have c0 := hR.cell0
      have f0 := hR.free 0
      have hls : (⟨l.toArray⟩ : ByteArray).size < 4294967281 := by show l.toArray.size < _; simpa using hl
      go_wp2_with fail
      refine (bad_any b _ w hR).mono ?_
      rintro e w' ⟨rfl, rfl⟩
      go_wp2_with fail
      refine (cut_any ⟨l.toArray⟩ c hls w' hT).mono ?_
      rintro e w1 ⟨he, hE1⟩
      have hR1 := hR.ext hE1
      have f1 := hR1.free 0
      have c1 := hR1.cell0
      have hT1 := hT.ext hE1
      simp only [] at he
      rcases he with ⟨a, r, hc, rfl⟩ | ⟨hc, rfl⟩
      · have hal : a.length < 4294967281 := by
          obtain ⟨e, _⟩ := cutB_some hc
          have : l.length = a.length + (r.length + 1) := by rw [show l = _ from e]; simp
          simp at hl; omega
        have has : (⟨a.toArray⟩ : ByteArray).size < 4294967296 := by show a.toArray.size < _; simp; omega
        go_wp2_with fail
        obtain ⟨w2, hw2⟩ : ∃ w2, w1.setCell ⟨b, 0, none⟩ (.string ⟨r.toArray⟩) = w2 := ⟨_, rfl⟩
        have hR2 : Rd w2 b (some r) := by rw [← hw2]; exact heap_setCell_same w1 b 0 _ _ _ hR1
        have hg2 : w'.grownBy w2 (some b) := by rw [← hw2]; exact (grown_ext hE1 _).trans (grown_set w1 b 0 _)
        have hT2 := hT.grown hg2 hb
        rw [hw2]
        clear hw2
        refine (atoi_any ⟨a.toArray⟩ has w2 hT2).mono ?_
        rintro e w3 ⟨he, hE3⟩
        have hR3 := hR2.ext hE3
        have hg3 := hg2.trans (grown_ext hE3 _)
        have hT3 := hT.grown hg3 hb
        rcases he with ⟨v, hv, hn, rfl⟩ | ⟨v, te, pe, hn, rfl⟩
        · go_wp2_with fail
          refine (itoa_any v hv w3 hT3).mono ?_
          rintro e w4 ⟨rfl, hE4⟩
          have hR4 := hR3.ext hE4
          have hg4 := hg3.trans (grown_ext hE4 _)
          obtain ⟨iv, hiv⟩ : ∃ iv : ByteArray, (⟨(Lib.itoa v).toArray⟩ : ByteArray) = iv := ⟨_, rfl⟩
          obtain ⟨av, hav⟩ : ∃ av : ByteArray, (⟨a.toArray⟩ : ByteArray) = av := ⟨_, rfl⟩
          by_cases hva : Lib.itoa v = a
          · have tq : (iv.toList == av.toList) = true := by rw [← hiv, ← hav, hva]; exact beq_self_eq_true _
            have hnum : (some l).bind (rdNum c) = some (v, r) := by simp only [Option.bind_some, rdNum, hc]; rw [show num a = some v from by rw [show num a = _ from hn, if_pos hva]]; rfl
            rw [hiv, hav]
            clear hn hva hiv hav
            go_wp2_with fail
            simp only [Exit.jump]
            go_ret2
            rw [hnum]
            exact ⟨⟨rfl, hR4⟩, hg4⟩
          · have tq : (iv.toList == av.toList) = false := by
              rw [beq_eq_false_iff_ne]
              intro e
              have e2 := eq_of_toList e
              rw [← hiv, ← hav] at e2
              injection e2 with e2
              exact hva (by simpa using congrArg Array.toList e2)
            have hnum : (some l).bind (rdNum c) = none := by simp only [Option.bind_some, rdNum, hc]; rw [show num a = none from by rw [show num a = _ from hn, if_neg hva]]; rfl
            rw [hiv, hav]
            clear hn hva hiv hav
            go_wp2_with fail
            go_step3
            refine ⟨rfl, _, _, _, _, _, _, _, _, _, _, _, _, _, _, _, _, _, _, _, _, _, _, _, _, _, _, _, _, _, _, _, _, _, _, _, _, _, _, _, _, rfl, ⟨_, hR4⟩, hg4, hnum⟩
        · go_wp2_with fail
          go_step3
          refine ⟨rfl, _, _, _, _, _, _, _, _, _, _, _, _, _, _, _, _, _, _, _, _, _, _, _, _, _, _, _, _, _, _, _, _, _, _, _, _, _, _, _, _, rfl, ⟨_, hR3⟩, hg3, (by simp only [Option.bind_some, rdNum, hc, hn]; rfl)⟩
      · go_wp2_with fail
        go_step3
        refine ⟨rfl, _, _, _, _, _, _, _, _, _, _, _, _, _, _, _, _, _, _, _, _, _, _, _, _, _, _, _, _, _, _, _, _, _, _, _, _, _, _, _, _, rfl, ⟨_, (heap_setCell_same w1 b 0 _ _ _ hR1 : Rd _ b (some []))⟩, (grown_ext hE1 _).trans (grown_set w1 b 0 _), (by simp only [Option.bind_some, rdNum, hc])⟩

theorem ba_take (r : List UInt8) (k : Nat) : (⟨r.toArray⟩ : ByteArray).extract 0 k = ⟨(r.take k).toArray⟩ := by
  apply ba_ext; rw [ByteArray.data_extract]; simp
theorem ba_drop (r : List UInt8) (k : Nat) : (⟨r.toArray⟩ : ByteArray).extract k r.length = ⟨(r.drop k).toArray⟩ := by
  apply ba_ext; rw [ByteArray.data_extract]; simp
  rw [List.take_of_length_le]
  simp
def IntEnd (e : Ending) (w' : World) (b : Nat) (o : Option (Int × List UInt8)) : Prop := e = .returned (.int .i64 ((o.map (·.1)).getD 0)) ∧ Rd w' b (o.map (·.2))
def TextEnd (e : Ending) (w' : World) (b : Nat) (o : Option (List UInt8 × List UInt8)) : Prop := e = .returned (.string ⟨((o.map (·.1)).getD []).toArray⟩) ∧ Rd w' b (o.map (·.2))

theorem int_any (b : Nat) (l : Option (List UInt8)) (w : World) (hR : Rd w b l) (hb : 4 ≤ b) (hT : Tabs w) (hl : (l.getD []).length < 4294967281) :
    Calls Tryd.prog 22 #[.pointer (some ⟨b, 0, none⟩)] w fun e w' => IntEnd e w' b (l.bind rdInt) ∧ w.grownBy w' (some b) := by
  go_enter Tryd.func22, Tryd.ntmps22
  go_wp2_with fail
  refine (number_any b l 59 w hR hb hT hl).mono ?_
  rintro e w' ⟨hn, hg⟩
  show _
  have hn : NumEnd e w' b (l.bind rdInt) := hn
  cases ho : l.bind rdInt with
  | none =>
    rw [ho] at hn
    obtain ⟨rfl, hR'⟩ := hn
    have HO := Lib.hid ho
    clear ho
    go_wp2_with fail
    go_ret
    rw [HO.out]
    exact ⟨⟨rfl, hR'⟩, hg⟩
  | some p =>
    rw [ho] at hn
    obtain ⟨v, r⟩ := p
    obtain ⟨rfl, hR'⟩ := hn
    have HO := Lib.hid ho
    clear ho
    go_wp2_with fail
    go_ret
    rw [HO.out]
    exact ⟨⟨rfl, hR'⟩, hg⟩

theorem text_any (b : Nat) (l : Option (List UInt8)) (w : World) (hR : Rd w b l) (hb : 4 ≤ b) (hT : Tabs w) (hl : (l.getD []).length < 4294967281) :
    Calls Tryd.prog 24 #[.pointer (some ⟨b, 0, none⟩)] w fun e w' => TextEnd e w' b (l.bind rdText) ∧ w.grownBy w' (some b) := by
  go_enter Tryd.func24, Tryd.ntmps24
  go_wp2_with fail
  refine (number_any b l 58 w hR hb hT hl).mono ?_
  rintro e w' ⟨hn, hg⟩
  cases ho : l.bind (rdNum 58) with
  | none =>
    have ht : l.bind rdText = none := by
      cases l with
      | none => rfl
      | some l => simp only [Option.bind_some] at ho ⊢; unfold rdText; rw [ho]
    rw [ho] at hn
    have HT := Lib.hid ht
    clear ht ho
    obtain ⟨rfl, hR'⟩ := hn
    go_wp2_with fail
    refine (fail_any b _ w' hR').mono ?_
    rintro e w2 ⟨rfl, hR2, hg2⟩
    go_wp2_with fail
    go_ret
    rw [HT.out]
    exact ⟨⟨rfl, hR2⟩, hg.trans hg2⟩
  | some p =>
    rw [ho] at hn
    obtain ⟨n, r⟩ := p
    obtain ⟨rfl, hR'⟩ := hn
    have c0 := hR'.cell0
    have f0 := hR'.free 0
    simp only [Option.getD_some] at c0
    have hr : r.length < 4294967281 ∧ InI n := by
      cases l with
      | none => cases ho
      | some l =>
        obtain ⟨hv, e⟩ := rdNum_only (show rdNum 58 l = some (n, r) from ho)
        have : l.length = (Lib.itoa n).length + (r.length + 1) := by rw [e]; simp
        simp only [Option.getD_some] at hl
        exact ⟨by omega, hv⟩
    obtain ⟨hrl, hn0, hn1⟩ := hr
    have hsz : (⟨r.toArray⟩ : ByteArray).size = r.length := by show r.toArray.size = _; simp
    by_cases hbad : n < 0 ∨ (r.length : Int) < n
    · have ht : l.bind rdText = none := by
        cases l with
        | none => rfl
        | some l => simp only [Option.bind_some] at ho ⊢; unfold rdText; rw [ho]; simp only; rw [if_pos hbad]
      have HT := Lib.hid ht
      clear ht ho
      have t1 : decide (n < 0) = true ∨ decide (n < 0) = false ∧ decide ((r.length : Int) < n) = true := by
        by_cases h : n < 0
        · left; simpa using h
        · right; refine ⟨by simpa using h, ?_⟩
          rcases hbad with h' | h'
          · exact absurd h' h
          · simpa using h'
      rcases t1 with t1 | ⟨t1, t2⟩
      · go_wp2_with fail
        refine (fail_any b _ w' hR').mono ?_
        rintro e w2 ⟨rfl, hR2, hg2⟩
        go_wp2_with fail
        go_ret
        rw [HT.out]
        exact ⟨⟨rfl, hR2⟩, hg.trans hg2⟩
      · go_wp2_with fail
        refine (fail_any b _ w' hR').mono ?_
        rintro e w2 ⟨rfl, hR2, hg2⟩
        go_wp2_with fail
        go_ret
        rw [HT.out]
        exact ⟨⟨rfl, hR2⟩, hg.trans hg2⟩
    · obtain ⟨k, rfl⟩ : ∃ k : Nat, n = k := ⟨n.toNat, by omega⟩
      have hk : k ≤ r.length := by omega
      have ht : l.bind rdText = some (r.take k, r.drop k) := by
        cases l with
        | none => cases ho
        | some l => simp only [Option.bind_some] at ho ⊢; unfold rdText; rw [ho]; simp only; rw [if_neg hbad]; simp
      have HT := Lib.hid ht
      clear ht ho
      have t1 : decide ((k : Int) < 0) = false := by simp
      have t2 : decide ((r.length : Int) < k) = false := by simp; omega
      have t3 : decide (r.length < k) = false := by simpa using hk
      go_wp2_with fail
      go_ret
      rw [HT.out]
      refine ⟨⟨?_, ?_⟩, hg.trans (grown_set w' b 0 _)⟩
      · show Ending.returned (Value.string _) = _
        rw [ba_take]; rfl
      · have := heap_setCell_same w' b 0 _ _ (.string ((⟨r.toArray⟩ : ByteArray).extract k r.length)) hR'
        rw [ba_drop] at this
        rw [ba_drop]
        exact this
end Go.Proofs.YthdbdpfgccipdaaDoor
