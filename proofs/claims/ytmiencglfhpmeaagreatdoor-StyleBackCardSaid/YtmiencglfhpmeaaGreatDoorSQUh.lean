/- The law StyleBack: its walk. -/
import Derived.Test.YtmiencglfhpmeaaGreatDoorSQUe
import Derived.Test.YtmiencglfhpmeaaGreatDoorSQSt

set_option linter.unusedSimpArgs false
set_option linter.unusedVariables false
namespace Go.Proofs.YtmiencglfhpmeaaGreatDoor
open Go.RowKit Hach

theorem texts_cmp {a b : List Rl} (ha : chkL a = 0) (hb : chkL b = 0) : ((⟨(textsL a).toArray⟩ : ByteArray).toList == (⟨(textsL b).toArray⟩ : ByteArray).toList) = sameL a b := by
  rw [bytes_beq]
  by_cases h : a = b
  · rw [h, (sameL_iff b b).2 rfl]; simp
  · have h1 : textsL a ≠ textsL b := fun e => h (texts_inj ha hb e)
    have h2 : sameL a b = false := by rw [← Bool.not_eq_true, sameL_iff]; exact h
    rw [h2]; simpa using h1
set_option maxRecDepth 100000 in
set_option maxHeartbeats 4000000 in
theorem StyleBack_any (A0 A1 : Option Addr) (n0 c0 n1 c1 : Nat) (w : World) (hT : Wr.Tabs w) (hL0 : LI w A0 n0) (hL1 : LI w A1 n1) :
    Calls Tryz.prog 5 #[.slice A0 n0 c0, .slice A1 n1 c1] w fun e w' => e = .returned (.bool true) ∧ Ext w w' := by
  have HT := Lib.hid hT
  have HL0 := Lib.hid hL0
  have HL1 := Lib.hid hL1
  clear hT hL0 hL1
  go_enter Tryz.func5, Tryz.ntmps5
  go_wp2_with fail
  refine (sanity_any w HT.out).mono ?_
  rintro e w1 ⟨rfl, hE1⟩
  have HE1 := Lib.hid hE1
  clear hE1
  go_wp2_with fail
  refine (rMade_any A0 n0 c0 w1 (HL0.out.ext HE1.out)).mono ?_
  rintro e w2 ⟨la, us, g, c, d, hM, rfl, hB, hE2⟩
  have HM := Lib.hid hM
  have HB := Lib.hid hB
  have HE2 := Lib.hid (HE1.out.trans hE2)
  clear hM hB hE2
  go_wp2_with fail
  refine (rMade_any A1 n1 c1 w2 (HL1.out.ext HE2.out)).mono ?_
  rintro e w3 ⟨lb, vs, g', c', d', hM', rfl, hB', hE3⟩
  have HM' := Lib.hid hM'
  have HX := Lib.hid ((HB.out.ext hE3).rlb)
  have HX' := Lib.hid hB'.rlb
  have HC := Lib.hid HB.out.cap
  have HC' := Lib.hid hB'.cap
  have HE3 := Lib.hid (HE2.out.trans hE3)
  have HLA : Hid (la.length ≤ 4) := Lib.hid HM.out.le
  have HLB : Hid (lb.length ≤ 4) := Lib.hid HM'.out.le
  have TA := Lib.hid (TextL_any la (some ⟨g, 0, none⟩) c d w3 HX.out (by have := HLA.out; omega) HC.out.1 HC.out.2 (fun r hr => (HM.out.ok r hr).1) (HT.out.ext HE3.out) (tabsE (HT.out.ext HE3.out)))
  unfold TextR at TA
  rw [(mk_text HM.out).1] at TA
  obtain ⟨Sa, hSa⟩ : ∃ q : ByteArray, (⟨(textsL la).toArray⟩ : ByteArray) = q := ⟨_, rfl⟩
  obtain ⟨Sb, hSb⟩ : ∃ q : ByteArray, (⟨(textsL lb).toArray⟩ : ByteArray) = q := ⟨_, rfl⟩
  have hsa : Sa.size ≤ 25584 := by rw [← hSa, toArr_size]; exact (mk_text HM.out).2.2
  have hsb : Sb.size ≤ 25584 := by rw [← hSb, toArr_size]; exact (mk_text hM').2.2
  have hab : (⟨(textsL la ++ textsL lb).toArray⟩ : ByteArray) = Sa ++ Sb := by rw [← hSa, ← hSb]; exact (ba_append _ _).symm
  have hcmp := texts_cmp HM.out.chk hM'.chk
  rw [hSa, hSb] at hcmp
  rw [hSa] at TA
  have PA := Lib.hid (fun (W : World) (h : Ext w3 W) => ParseL_any (textsL la) (by have := (mk_text HM.out).2.2; omega) W (HT.out.ext (HE3.out.trans h)))
  unfold ParseQL at PA
  rw [(mk_text HM.out).2.1, hSa] at PA
  have PAB := Lib.hid (fun (W : World) (h : Ext w3 W) => ParseL_any (textsL la ++ textsL lb) (by have h1 := (mk_text HM.out).2.2; have h2 := (mk_text hM').2.2; rw [List.length_append]; omega) W (HT.out.ext (HE3.out.trans h)))
  unfold ParseQL at PAB
  rw [mk_twice HM.out hM', hab] at PAB
  have HSB := Lib.hid hSb
  clear hM' hB' hE3 HB hSa hSb hab
  go_wp2_with fail
  refine TA.out.mono ?_
  rintro e w4 ⟨rfl, hE4⟩
  have TB := Lib.hid (TextL_any lb (some ⟨g', 0, none⟩) c' d' w4 (HX'.out.ext hE4) (by have := HLB.out; omega) HC'.out.1 HC'.out.2 (fun r hr => (HM'.out.ok r hr).1) (HT.out.ext (HE3.out.trans hE4)) (tabsE (HT.out.ext (HE3.out.trans hE4))))
  unfold TextR at TB
  rw [(mk_text HM'.out).1, HSB.out] at TB
  have HE4 := Lib.hid hE4
  clear hE4
  go_wp2_with fail
  refine TB.out.mono ?_
  rintro e w5 ⟨rfl, hE5⟩
  have HE5 := Lib.hid (HE4.out.trans hE5)
  clear hE5
  go_wp2_with fail
  refine (PA.out w5 HE5.out).mono ?_
  rintro e w6 ⟨A6, c6, d6, rfl, hX6, hc6, _, hE6⟩
  have HX6 := Lib.hid (RlL.more hX6 fun b hb => hb.2 : RlB w6 w6.heap.size d6 A6 la)
  have HE6 := Lib.hid (HE5.out.trans hE6)
  clear hX6 hc6 hE6
  go_wp2_with fail
  refine (PAB.out w6 HE6.out).mono ?_
  rintro e w7 ⟨A7, c7, d7, rfl, hX7, hc7, _, hE7⟩
  have HX67 := Lib.hid (HX6.out.ext hE7)
  have HE7 := Lib.hid (HE6.out.trans hE7)
  clear hX7 hc7 hE7
  have HXA := Lib.hid (HX.out.ext HE7.out)
  have HXB := Lib.hid (HX'.out.ext HE7.out)
  have S1 := Lib.hid (rSameAll_any la la A6 (some ⟨g, 0, none⟩) c6 c (d6 + d) w7 (RlL.deep HX67.out (Nat.le_add_right _ _)) (RlL.deep HXA.out (Nat.le_add_left _ _)) (by have := HLA.out; omega) (by have := HLA.out; omega) (fun r hr => (HM.out.ok r hr).2) (fun r hr => (HM.out.ok r hr).2))
  rw [(sameL_iff la la).2 rfl] at S1
  have S2 := Lib.hid (fun (W : World) (h : Ext w7 W) => rSameAll_any la lb (some ⟨g, 0, none⟩) (some ⟨g', 0, none⟩) c c' (d + d') W (RlL.deep (HXA.out.ext h) (Nat.le_add_right _ _)) (RlL.deep (HXB.out.ext h) (Nat.le_add_left _ _)) (by have := HLA.out; omega) (by have := HLB.out; omega) (fun r hr => (HM.out.ok r hr).2) (fun r hr => (HM'.out.ok r hr).2))
  obtain ⟨q, hq⟩ : ∃ q, sameL la lb = q := ⟨_, rfl⟩
  rw [hq] at S2 hcmp
  have HEF := Lib.hid (HE3.out.trans HE7.out)
  clear HX HX' HC HC' TA TB PA PAB HX6 HX67 HXA HXB hq
  go_wp2_with fail
  refine S1.out.mono ?_
  rintro e w8 ⟨rfl, hE8⟩
  cases q with
  | true =>
    go_wp2_with fail
    refine (S2.out w8 hE8).mono ?_
    rintro e w9 ⟨rfl, hE9⟩
    go_wp2_with fail
    go_ret
    exact ⟨rfl, HEF.out.trans (hE8.trans hE9)⟩
  | false =>
    go_wp2_with fail
    refine (S2.out w8 hE8).mono ?_
    rintro e w9 ⟨rfl, hE9⟩
    go_wp2_with fail
    go_ret
    exact ⟨rfl, HEF.out.trans (hE8.trans hE9)⟩
end Go.Proofs.YtmiencglfhpmeaaGreatDoor
