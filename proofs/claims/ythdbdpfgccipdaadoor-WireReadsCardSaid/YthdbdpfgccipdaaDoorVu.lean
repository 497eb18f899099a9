/- The walk of the statement WireReads: at every input the call returns true. -/
import Derived.Test.YthdbdpfgccipdaaDoorVt
import Derived.Test.YthdbdpfgccipdaaDoorVk
namespace Go.Proofs.YthdbdpfgccipdaaDoor
open Go.RowKit Hach Num

def RowU (w : World) (B : Nat) (A : Option Addr) (n : Nat) (xs : List Int) : Prop :=
  xs.length = n ∧ (0 < n → ∃ b o : Nat, A = some ⟨b, o, none⟩ ∧ b < B ∧ ∀ j, j < n → w.cell? ⟨b, o + j, none⟩ = some (.int .u8 (xs.getD j 0)))

set_option maxRecDepth 100000 in
set_option maxHeartbeats 2000000 in
theorem WireReads_any (s : ByteArray) (A : Option Addr) (n c : Nat) (xs : List Int) (w : World) (hT : Tabs w) (hs : s.size ≤ maxLen) (hX : RowU w w.heap.size A n xs) (hn : n < 9223372036854775808) (hV : ∀ v ∈ xs, 0 ≤ v ∧ v ≤ 255) :
    Calls Tryd.prog 4 #[.string s, .slice A n c] w fun e w' => e = .returned (.bool true) ∧ Ext w w' := by
  have hxl := hX.1
  have hs' : s.size < 9223372036854775808 := by simp only [maxLen] at hs; omega
  clear hs
  obtain ⟨sv, hcut, hsv⟩ : ∃ sv : ByteArray, s.extract 0 (min (s.size : Int) 200).toNat = sv ∧ sv.size ≤ 200 := ⟨_, rfl, by rw [ByteArray.size_extract]; omega⟩
  obtain ⟨t, ht⟩ : ∃ t, sv.data.toList = t := ⟨_, rfl⟩
  have hst : sv = ⟨t.toArray⟩ := by rw [← ht]
  have ht2 : t.length ≤ 200 := by rw [← ht, Array.length_toList]; exact hsv
  subst hst
  clear ht hsv
  go_enter Tryd.func4, Tryd.ntmps4
  go_wp2_with fail
  refine (sanity_any w hT).mono ?_
  rintro e w1 ⟨rfl, hE1⟩
  have hT1 := hT.ext hE1
  go_wp2_with fail
  refine (new_any ⟨t.toArray⟩ w1).mono ?_
  rintro e w2 ⟨rfl, hR2, hE2⟩
  have hR2 : Rd w2 w1.heap.size (some t) := hR2
  go_wp2_with fail
  refine (rnew_any t (by omega) w2).mono ?_
  rintro e w3 ⟨rfl, hQ3, hE3⟩
  have hR3 := hR2.ext hE3
  have hne : w1.heap.size < w2.heap.size := hR2.lt
  have h41 : 4 ≤ w1.heap.size := hT1.sz
  have hw1 : w.heap.size ≤ w1.heap.size := hE1.sz
  have hE03 := (hE1.trans hE2).trans hE3
  clear hR2
  generalize w1.heap.size = ba at hR3 hne h41 hw1
  generalize w2.heap.size = bb at hQ3 hne
  go_wp2_with fail
  go_loopw [8] (fun vk wr => ∃ (k : Nat) (st : Option (List UInt8)), k ≤ n ∧ k ≤ 12 ∧ vk = .int .i64 k ∧ Rd wr ba st ∧ RR wr bb st ∧ (st.getD []).length ≤ 200 ∧ Ext w wr) (fun vk _ => n - (intOf vk).toNat)
  case atStart => exact ⟨0, some t, Nat.zero_le _, Nat.zero_le _, rfl, hR3, hQ3, ht2, hE03⟩
  case round =>
    obtain ⟨k, st, hk, hk12, rfl, hR, hQ, hst, hE⟩ := hrel
    by_cases hlt : k < n
    · by_cases hlt2 : k < 12
      · obtain ⟨b, o, rfl, hbl, hc0⟩ := hX.2 (by omega)
        have hc : wr.cell? ⟨b, o + k, none⟩ = some (.int .u8 (xs.getD k 0)) := (hE.old (p := ⟨b, o + k, none⟩) hbl).trans (hc0 k hlt)
        have hv := hV (xs.getD k 0) (by simp [List.getD, List.getElem?_eq_getElem (show k < xs.length by omega)])
        clear hc0
        generalize xs.getD k 0 = v at hc hv
        obtain ⟨m, rfl⟩ : ∃ m : Nat, v = m := ⟨v.toNat, by omega⟩
        have hm : m < 256 := by omega
        have tk : decide ((k : Int) < 12) = true := by rw [decide_eq_true_iff]; omega
        have hTr := hT.ext hE
        obtain ⟨z, hz⟩ : ∃ z, m % 4 = z := ⟨_, rfl⟩
        have hz4 : z < 4 := by omega
        have e1 : (m : Int) % 4 = z := by rw [← hz]; rfl
        have e2 : (m : Int).tmod 4 = z := by rw [← hz]; rfl
        clear hz
        have hl32 : (st.getD []).length < 4294967281 := by omega
        match z, hz4, e1, e2 with
        | 0, _, e1, e2 =>
          have hless : (((st.bind rdInt).map (·.2)).getD []).length ≤ 200 := by
            cases st with
            | none => simp
            | some q =>
              simp only [Option.bind_some, Option.getD_some] at hst ⊢
              cases hx : rdInt q with
              | none => simp
              | some p => have := (twinInt).less (v := p.1) (r := p.2) hx; simp; omega
          obtain ⟨v0, hv0⟩ : ∃ v0, ((st.bind rdInt).map (·.1)).getD (0 : Int) = v0 := ⟨_, rfl⟩
          skip
          have HV0 := Lib.hid hv0
          clear hv0
          go_wp2_with fail
          refine (int_any ba st wr hR h41 hTr hl32).mono ?_
          rintro e w4 ⟨⟨rfl, hR4⟩, hg4⟩
          rw [HV0.out]
          have hQ4 := hQ.own hg4 (by simp; omega)
          have hE4 := ext_own hE hg4 hw1
          skip
          go_wp2_with fail
          refine (rint_any bb st w4 hQ4).mono ?_
          rintro e w5 ⟨⟨rfl, hQ5⟩, hg5⟩
          rw [HV0.out]
          have hR5 := hR4.own hg5 (by simp; omega)
          have hE5 := ext_own hE4 hg5 (by omega)
          have HRR : Rd w5 ba ((st.bind rdInt).map (·.2)) ∧ RR w5 bb ((st.bind rdInt).map (·.2)) := ⟨hR5, hQ5⟩
          have HE6 := hE5
          clear HV0
          generalize (st.bind rdInt).map (·.2) = st' at HRR hless
          obtain ⟨hR6, hQ6⟩ := HRR
          go_wp2_with fail
          refine (left_any ba st' _ hR6).mono ?_
          rintro e w7 ⟨rfl, rfl⟩
          go_wp2_with fail
          refine (rleft_any bb st' _ hQ6).mono ?_
          rintro e w8 ⟨rfl, hE8⟩
          have hR8 := hR6.ext hE8
          have hQ8 := hQ6.ext hE8
          go_wp2_with fail
          refine (bad_any ba st' w8 hR8).mono ?_
          rintro e w9 ⟨rfl, rfl⟩
          go_wp2_with fail
          refine (rbad_any bb st' w9 hQ8).mono ?_
          rintro e w10 ⟨rfl, rfl⟩
          go_wp2_with fail
          go_roundw
          case rel => exact ⟨k + 1, st', by omega, by omega, by go_num, hR8, hQ8, hless, HE6.trans hE8⟩
          case measure => simp [intOf]; omega
        | 1, _, e1, e2 =>
          have hless : (((st.bind rdText).map (·.2)).getD []).length ≤ 200 := by
            cases st with
            | none => simp
            | some q =>
              simp only [Option.bind_some, Option.getD_some] at hst ⊢
              cases hx : rdText q with
              | none => simp
              | some p => have := (twinText).less (v := p.1) (r := p.2) hx; simp; omega
          obtain ⟨v0, hv0⟩ : ∃ v0, ((st.bind rdText).map (·.1)).getD [] = v0 := ⟨_, rfl⟩
          skip
          have HV0 := Lib.hid hv0
          clear hv0
          go_wp2_with fail
          refine (text_any ba st wr hR h41 hTr hl32).mono ?_
          rintro e w4 ⟨⟨rfl, hR4⟩, hg4⟩
          rw [HV0.out]
          have hQ4 := hQ.own hg4 (by simp; omega)
          have hE4 := ext_own hE hg4 hw1
          skip
          go_wp2_with fail
          refine (rtext_any bb st w4 hQ4).mono ?_
          rintro e w5 ⟨⟨rfl, hQ5⟩, hg5⟩
          rw [HV0.out]
          have hR5 := hR4.own hg5 (by simp; omega)
          have hE5 := ext_own hE4 hg5 (by omega)
          have HRR : Rd w5 ba ((st.bind rdText).map (·.2)) ∧ RR w5 bb ((st.bind rdText).map (·.2)) := ⟨hR5, hQ5⟩
          have HE6 := hE5
          generalize (⟨v0.toArray⟩ : ByteArray) = tv0
          generalize (st.bind rdText).map (·.2) = st' at HRR hless
          obtain ⟨hR6, hQ6⟩ := HRR
          go_wp2_with fail
          refine (left_any ba st' _ hR6).mono ?_
          rintro e w7 ⟨rfl, rfl⟩
          go_wp2_with fail
          refine (rleft_any bb st' _ hQ6).mono ?_
          rintro e w8 ⟨rfl, hE8⟩
          have hR8 := hR6.ext hE8
          have hQ8 := hQ6.ext hE8
          go_wp2_with fail
          refine (bad_any ba st' w8 hR8).mono ?_
          rintro e w9 ⟨rfl, rfl⟩
          go_wp2_with fail
          refine (rbad_any bb st' w9 hQ8).mono ?_
          rintro e w10 ⟨rfl, rfl⟩
          go_wp2_with fail
          go_roundw
          case rel => exact ⟨k + 1, st', by omega, by omega, by go_num, hR8, hQ8, hless, HE6.trans hE8⟩
          case measure => simp [intOf]; omega
        | 2, _, e1, e2 =>
          have hless : (((st.bind (rdList rdInt)).map (·.2)).getD []).length ≤ 200 := by
            cases st with
            | none => simp
            | some q =>
              simp only [Option.bind_some, Option.getD_some] at hst ⊢
              cases hx : (rdList rdInt) q with
              | none => simp
              | some p => have := (twinList twinInt).less (v := p.1) (r := p.2) hx; simp; omega
          obtain ⟨v0, hv0⟩ : ∃ v0, ((st.bind (rdList rdInt)).map (·.1)).getD [] = v0 := ⟨_, rfl⟩
          have hv0l : v0.length ≤ 200 := by
            rw [← hv0]
            cases st with
            | none => simp
            | some q =>
              simp only [Option.bind_some, Option.getD_some] at hst ⊢
              cases hx : (rdList rdInt) q with
              | none => simp
              | some p => have := (rdl_len twinInt (l := p.1) (r := p.2) hx).2; simp; omega
          have HV0 := Lib.hid hv0
          clear hv0
          go_wp2_with fail
          refine (list_I ba st wr hR h41 hTr hl32).mono ?_
          rintro e w4 ⟨⟨⟨u4, rfl, hO4⟩, hR4⟩, hg4⟩
          rw [HV0.out] at hO4
          have hQ4 := hQ.own hg4 (by simp; omega)
          have hE4 := ext_own hE hg4 hw1
          obtain ⟨A4, c4, rfl, _⟩ := hO4.form
          go_wp2_with fail
          refine (rrlist_I bb st w4 hQ4).mono ?_
          rintro e w5 ⟨⟨⟨u5, rfl, hO5⟩, hQ5⟩, hg5⟩
          rw [HV0.out] at hO5
          have hR5 := hR4.own hg5 (by simp; omega)
          have hE5 := ext_own hE4 hg5 (by omega)
          obtain ⟨A5, c5, rfl, row5⟩ := hO5.form
          have row4 := ((hO4.other hg5 (hQ.lt)).row)
          go_wp2_with fail
          refine (same_I A4 A5 _ _ c4 c5 _ _ w5 row4 row5 (by omega) (by omega)).mono ?_
          rintro e w6 ⟨rfl, hE6s⟩
          rw [decide_eq_true_iff.2 rfl]
          have HRR : Rd w6 ba ((st.bind (rdList rdInt)).map (·.2)) ∧ RR w6 bb ((st.bind (rdList rdInt)).map (·.2)) := ⟨hR5.ext hE6s, hQ5.ext hE6s⟩
          have HE6 := hE5.trans hE6s
          generalize (st.bind (rdList rdInt)).map (·.2) = st' at HRR hless
          obtain ⟨hR6, hQ6⟩ := HRR
          go_wp2_with fail
          refine (left_any ba st' _ hR6).mono ?_
          rintro e w7 ⟨rfl, rfl⟩
          go_wp2_with fail
          refine (rleft_any bb st' _ hQ6).mono ?_
          rintro e w8 ⟨rfl, hE8⟩
          have hR8 := hR6.ext hE8
          have hQ8 := hQ6.ext hE8
          go_wp2_with fail
          refine (bad_any ba st' w8 hR8).mono ?_
          rintro e w9 ⟨rfl, rfl⟩
          go_wp2_with fail
          refine (rbad_any bb st' w9 hQ8).mono ?_
          rintro e w10 ⟨rfl, rfl⟩
          go_wp2_with fail
          go_roundw
          case rel => exact ⟨k + 1, st', by omega, by omega, by go_num, hR8, hQ8, hless, HE6.trans hE8⟩
          case measure => simp [intOf]; omega
        | 3, _, e1, e2 =>
          have hless : (((st.bind (rdList rdText)).map (·.2)).getD []).length ≤ 200 := by
            cases st with
            | none => simp
            | some q =>
              simp only [Option.bind_some, Option.getD_some] at hst ⊢
              cases hx : (rdList rdText) q with
              | none => simp
              | some p => have := (twinList twinText).less (v := p.1) (r := p.2) hx; simp; omega
          obtain ⟨v0, hv0⟩ : ∃ v0, ((st.bind (rdList rdText)).map (·.1)).getD [] = v0 := ⟨_, rfl⟩
          have hv0l : v0.length ≤ 200 := by
            rw [← hv0]
            cases st with
            | none => simp
            | some q =>
              simp only [Option.bind_some, Option.getD_some] at hst ⊢
              cases hx : (rdList rdText) q with
              | none => simp
              | some p => have := (rdl_len twinText (l := p.1) (r := p.2) hx).2; simp; omega
          have HV0 := Lib.hid hv0
          clear hv0
          go_wp2_with fail
          refine (list_T ba st wr hR h41 hTr hl32).mono ?_
          rintro e w4 ⟨⟨⟨u4, rfl, hO4⟩, hR4⟩, hg4⟩
          rw [HV0.out] at hO4
          have hQ4 := hQ.own hg4 (by simp; omega)
          have hE4 := ext_own hE hg4 hw1
          obtain ⟨A4, c4, rfl, _⟩ := hO4.form
          go_wp2_with fail
          refine (rrlist_T bb st w4 hQ4).mono ?_
          rintro e w5 ⟨⟨⟨u5, rfl, hO5⟩, hQ5⟩, hg5⟩
          rw [HV0.out] at hO5
          have hR5 := hR4.own hg5 (by simp; omega)
          have hE5 := ext_own hE4 hg5 (by omega)
          obtain ⟨A5, c5, rfl, row5⟩ := hO5.form
          have row4 := ((hO4.other hg5 (hQ.lt)).row)
          go_wp2_with fail
          refine (same_T A4 A5 _ _ c4 c5 _ _ w5 row4 row5 (by omega) (by omega)).mono ?_
          rintro e w6 ⟨rfl, hE6s⟩
          rw [decide_eq_true_iff.2 rfl]
          have HRR : Rd w6 ba ((st.bind (rdList rdText)).map (·.2)) ∧ RR w6 bb ((st.bind (rdList rdText)).map (·.2)) := ⟨hR5.ext hE6s, hQ5.ext hE6s⟩
          have HE6 := hE5.trans hE6s
          generalize (st.bind (rdList rdText)).map (·.2) = st' at HRR hless
          obtain ⟨hR6, hQ6⟩ := HRR
          go_wp2_with fail
          refine (left_any ba st' _ hR6).mono ?_
          rintro e w7 ⟨rfl, rfl⟩
          go_wp2_with fail
          refine (rleft_any bb st' _ hQ6).mono ?_
          rintro e w8 ⟨rfl, hE8⟩
          have hR8 := hR6.ext hE8
          have hQ8 := hQ6.ext hE8
          go_wp2_with fail
          refine (bad_any ba st' w8 hR8).mono ?_
          rintro e w9 ⟨rfl, rfl⟩
          go_wp2_with fail
          refine (rbad_any bb st' w9 hQ8).mono ?_
          rintro e w10 ⟨rfl, rfl⟩
          go_wp2_with fail
          go_roundw
          case rel => exact ⟨k + 1, st', by omega, by omega, by go_num, hR8, hQ8, hless, HE6.trans hE8⟩
          case measure => simp [intOf]; omega
      · obtain rfl : k = 12 := by omega
        go_wp2_with fail
        go_ret
        exact ⟨rfl, hE⟩
    · obtain rfl : k = n := by omega
      go_wp2_with fail
      go_ret
      exact ⟨rfl, hE⟩
end Go.Proofs.YthdbdpfgccipdaaDoor
