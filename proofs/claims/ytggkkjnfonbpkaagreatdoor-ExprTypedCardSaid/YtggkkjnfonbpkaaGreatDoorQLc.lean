/- The law ExprBack: its walk. -/
import Derived.Test.YtggkkjnfonbpkaaGreatDoorQXk
import Derived.Test.YtggkkjnfonbpkaaGreatDoorQId
import Derived.Test.YtggkkjnfonbpkaaGreatDoorQXm

set_option linter.unusedSimpArgs false
set_option linter.unusedVariables false
namespace Go.Proofs.YtggkkjnfonbpkaaGreatDoor
open Go.RowKit Hach

/- a slice of bytes that can be read -/
def BI (w : World) (A : Option Addr) (l : List Nat) : Prop := l.length < 9223372036854775808 ∧ (∀ x ∈ l, x < 256) ∧ (l ≠ [] → ∃ g o, A = some ⟨g, o, none⟩ ∧ g < w.heap.size ∧ ∀ j, j < l.length → w.cell? ⟨g, o + j, none⟩ = some (.int .u8 ((l.getD j 0 : Nat) : Int)))
theorem BI.ext {w w' : World} {A : Option Addr} {l : List Nat} (h : BI w A l) (hE : Ext w w') : BI w' A l := by
  refine ⟨h.1, h.2.1, fun hn => ?_⟩
  obtain ⟨g, o, e, h1, h2⟩ := h.2.2 hn
  exact ⟨g, o, e, Nat.lt_of_lt_of_le h1 hE.sz, fun j hj => (hE.old (p := ⟨g, o + j, none⟩) h1).trans (h2 j hj)⟩
theorem ba_cut (s : List UInt8) (a b : Nat) : (⟨s.toArray⟩ : ByteArray).extract a b = ⟨((s.drop a).take (b - a)).toArray⟩ := by
  have : ((⟨s.toArray⟩ : ByteArray).extract a b).data = ((s.drop a).take (b - a)).toArray := by
    rw [ByteArray.data_extract]; simp
  rw [← this]
set_option maxRecDepth 100000 in
set_option maxHeartbeats 8000000 in
theorem ExprBack_any (A0 A1 : Option Addr) (n0 c0 n1 c1 : Nat) (bl : List Nat) (w : World) (htab : Tabs w) (hL : LI w A0 n0) (hB : BI w A1 bl) (hn1 : n1 = bl.length) :
    Calls Tryz.prog 5 #[.slice A0 n0 c0, .slice A1 n1 c1] w fun e w' => e = .returned (.bool true) ∧ Ext w w' := by
  have SA := Lib.hid (sanity_any w htab)
  have HL := Lib.hid hL
  have HB := Lib.hid hB
  have HT := Lib.hid htab
  have HN1 := Lib.hid hn1
  have hnb : n1 < 9223372036854775808 := by rw [hn1]; exact hB.1
  clear hL htab hB hn1
  go_enter Tryz.func5, Tryz.ntmps5
  go_wp2_with fail
  refine SA.out.mono ?_
  rintro e w1 ⟨rfl, hE1⟩
  have EX := Lib.hid (expr_any A0 n0 c0 w1 (HL.out.ext hE1))
  go_wp2_with fail
  refine EX.out.mono ?_
  rintro e w2 ⟨x, t, A, c, d, hR, hS, rfl, hX, hE2⟩
  have HR := Lib.hid hR
  have hok := Lib.hid (rt_ok hR)
  have hck := chk_of hR (by omega)
  have hz2 := ExL.ext (hX.more fun k hk => hk.2) (Ext.alloc w2 (.cells (x.cells A c).toArray 29))
  have hin := InBlk.new2 w2 x A c
  have TX := Lib.hid (fun (W : World) (h : Ext _ W) => TextC_any x d A c W (hz2.ext h) (by omega) hok.out ((HT.out.ext (hE1.trans hE2)).ext ((Ext.alloc w2 (.cells (x.cells A c).toArray 29)).trans h)))
  have htx : txT x = x.text := by unfold txT; rw [if_pos hck.2]
  rw [hck.2, htx] at TX
  have HCK := Lib.hid hck
  have HE2 := Lib.hid ((hE1.trans hE2).trans (Ext.alloc w2 (.cells (x.cells A c).toArray 29)))
  have HZ2 := Lib.hid hz2
  have HIN := Lib.hid hin
  unfold Ex.cells at TX HE2 HZ2 HIN
  obtain ⟨i0, i1, i2, i3, i4, i5, i6⟩ := hin.cells
  unfold Ex.cells at i0 i1 i2 i3 i4 i5 i6 ⊢
  clear hck htx hX hR hz2 hin hE1 hE2
  go_wp2_with fail
  refine (TX.out _ (Ext.refl _)).mono ?_
  rintro e w3 ⟨rfl, hE3⟩
  obtain ⟨T, hT⟩ : ∃ T, x.text = T := ⟨_, rfl⟩
  have HTT := Lib.hid hT
  have hTl : T.length ≤ 26 * x.size := by rw [← hT]; exact text_len26 HR.out
  rw [hT]
  unfold sv
  obtain ⟨S, hSv⟩ : ∃ S : ByteArray, (⟨T.toArray⟩ : ByteArray) = S := ⟨_, rfl⟩
  have hSs := toArr_size T
  rw [hSv] at hSs ⊢
  have HSV := Lib.hid hSv
  obtain ⟨m, hm⟩ : ∃ m, T.length = m := ⟨_, rfl⟩
  rw [hm] at hSs hTl
  have HM := Lib.hid hm
  have hm4 : m ≤ 1300 := by omega
  clear hT hSv hm hTl i0 i1 i2 i3 i4 i5 i6
  go_wp2_with fail
  go_loop [9, 10, 11, 12] (fun wv nv qv kv => ∃ (k j : Nat) (q : Bool) (P : List UInt8) (B : ByteArray), k ≤ m ∧ j ≤ n1 ∧ wv = .string B ∧ nv = .int .i64 j ∧ qv = .bool q ∧ kv = .int .i64 k ∧ Hid (B = ⟨(40 :: 40 :: P).toArray⟩) ∧ Hid (wdF bl false T = P ++ wdF (bl.drop j) q (T.drop k)) ∧ B.size ≤ 2 + 3 * k) (fun _ _ _ kv => m - (intOf kv).toNat)
  case atStart => exact ⟨0, 0, false, [], _, Nat.zero_le _, Nat.zero_le _, rfl, rfl, rfl, rfl, Lib.hid rfl, Lib.hid rfl, by decide⟩
  case round =>
    obtain ⟨k, j, q, P, B, hk, hj, rfl, rfl, rfl, rfl, hBv, hW, hBs⟩ := hrel
    by_cases hlt : k < m
    · have hlt' : k < T.length := by rw [HM.out]; exact hlt
      have hb0 := ba_get T k
      rw [HSV.out] at hb0
      obtain ⟨ch, hch⟩ : ∃ ch, T.getD k 0 = ch := ⟨_, rfl⟩
      rw [hch] at hb0
      have HD := Lib.hid (show T.drop k = ch :: T.drop (k + 1) by rw [List.drop_eq_getElem_cons hlt', ← hch]; simp [List.getD, List.getElem?_eq_getElem hlt'])
      have HX := Lib.hid (show S.extract k (k + 1) = ⟨[ch].toArray⟩ by
        rw [← HSV.out, ba_cut, HD.out, show k + 1 - k = 1 by omega]; rfl)
      have hxs : (S.extract k (k + 1)).size = 1 := by rw [HX.out]; rfl
      have hHS : ∀ R : List UInt8, wdF (bl.drop j) q (T.drop k) = ch :: R → wdF bl false T = (P ++ [ch]) ++ R := fun R hR => by rw [hW.out, hR, List.append_assoc]; rfl
      have HHS := Lib.hid hHS
      have HCB := Lib.hid (show ∀ R : List UInt8, B ++ S.extract k (k + 1) ++ ⟨R.toArray⟩ = ⟨(40 :: 40 :: (P ++ [ch] ++ R)).toArray⟩ from fun R => by rw [hBv.out, HX.out, ba_append, ba_append]; simp)
      have HCB0 := Lib.hid (show B ++ S.extract k (k + 1) = ⟨(40 :: 40 :: (P ++ [ch])).toArray⟩ by rw [hBv.out, HX.out, ba_append]; simp)
      have HC0 := Lib.hid (wdF_cons (bl.drop j) q ch (T.drop (k + 1)))
      clear hch hHS
      by_cases h34 : ch.toNat = 34
      · have t1 : ((ch.toNat : Int) == 34) = true := by rw [h34]; rfl
        have t2 : ((ch.toNat : Int) == 32) = false := by rw [h34]; rfl
        have hc34 : ch = 34 := u8_eq (n := 34) h34 (by decide)
        have HN := Lib.hid (show wdF (bl.drop j) q (T.drop k) = ch :: wdF (bl.drop j) (!q) (T.drop (k + 1)) by
          rw [HD.out, HC0.out, hc34, if_neg (by rintro ⟨h, _⟩; exact absurd h (by decide))]; rfl)
        clear h34 hc34
        go_wp2_with fail
        go_round
        case rel => exact ⟨k + 1, j, !q, P ++ [ch], _, by omega, hj, rfl, rfl, rfl, by go_num, HCB0, Lib.hid (HHS.out _ HN.out), by rw [ByteArray.size_append, hxs]; omega⟩
        case measure => simp [intOf]; omega
      · have t1 : ((ch.toNat : Int) == 34) = false := by rw [beq_eq_false_iff_ne]; omega
        have hc34 : nq ch q = q := by unfold nq; rw [if_neg (fun e => h34 (by rw [e]; rfl))]
        by_cases h32 : ch.toNat = 32 ∧ q = false
        · obtain ⟨h32, rfl⟩ := h32
          have t2 : ((ch.toNat : Int) == 32) = true := by rw [h32]; rfl
          have hc32 : ch = 32 := u8_eq (n := 32) h32 (by decide)
          have hN0 : wdF (bl.drop j) false (T.drop k) = ch :: (List.replicate ((bl.drop j).headD 0 % 3) 32 ++ wdF (bl.drop j).tail false (T.drop (k + 1))) := by
            rw [HD.out, HC0.out, if_pos ⟨hc32, hc34⟩, hc34]
          by_cases hjl : j < n1
          · have tj : decide (j < n1) = true := by simp; omega
            have hjl' : j < bl.length := by rw [← HN1.out]; exact hjl
            obtain ⟨g, o, eA, hg1, hg2⟩ := (HB.out.ext (HE2.out.trans hE3)).2.2 (by intro e; rw [e] at hjl'; simp at hjl')
            have hcell := hg2 j hjl'
            subst eA
            obtain ⟨y, hy⟩ : ∃ y, bl.getD j 0 = y := ⟨_, rfl⟩
            have hy256 : y < 256 := by rw [← hy]; exact HB.out.2.1 _ (by simp only [List.getD, List.getElem?_eq_getElem hjl', Option.getD_some]; exact List.getElem_mem hjl')
            rw [hy] at hcell
            have hbd : (bl.drop j).headD 0 = y ∧ (bl.drop j).tail = bl.drop (j + 1) := by
              rw [List.drop_eq_getElem_cons hjl']
              exact ⟨by rw [← hy]; simp [List.getD, List.getElem?_eq_getElem hjl'], rfl⟩
            rw [hbd.1, hbd.2] at hN0
            have HN := Lib.hid hN0
            have hy3 : y % 3 ≤ 2 := by omega
            have HEX := Lib.hid (show (⟨#[32, 32]⟩ : ByteArray).extract 0 (y % 3) = ⟨(List.replicate (y % 3) 32).toArray⟩ by
              rcases (by omega : y % 3 = 0 ∨ y % 3 = 1 ∨ y % 3 = 2) with e | e | e <;> rw [e] <;> rfl)
            have hxs2 : ((⟨#[32, 32]⟩ : ByteArray).extract 0 (y % 3)).size ≤ 2 := by rw [HEX.out]; show (List.replicate (y % 3) (32 : UInt8)).toArray.size ≤ 2; simp; omega
            clear h34 hc34 h32 hc32 hN0 hg2 hy hbd hjl'
            go_wp2_with fail
            go_round
            case rel => exact ⟨k + 1, j + 1, false, P ++ [ch] ++ List.replicate (y % 3) 32, _, by omega, by omega, rfl, by go_num, rfl, by go_num, Lib.hid (by rw [HEX.out]; exact HCB.out _), Lib.hid (by rw [HHS.out _ HN.out, ← List.append_assoc]), by rw [ByteArray.size_append, ByteArray.size_append, hxs]; omega⟩
            case measure => simp [intOf]; omega
          · have tj : decide (j < n1) = false := by simp; omega
            have hd0 : bl.drop j = [] := List.drop_eq_nil_of_le (by rw [← HN1.out]; omega)
            rw [hd0] at hN0
            have HN := Lib.hid (show wdF (bl.drop j) false (T.drop k) = ch :: wdF (bl.drop j) false (T.drop (k + 1)) by rw [hd0, hN0]; rfl)
            clear h34 hc34 h32 hc32 hN0 hd0
            go_wp2_with fail
            go_round
            case rel => exact ⟨k + 1, j, false, P ++ [ch], _, by omega, hj, rfl, rfl, rfl, by go_num, HCB0, Lib.hid (HHS.out _ HN.out), by rw [ByteArray.size_append, hxs]; omega⟩
            case measure => simp [intOf]; omega
        · have HN := Lib.hid (show wdF (bl.drop j) q (T.drop k) = ch :: wdF (bl.drop j) q (T.drop (k + 1)) by
            rw [HD.out, HC0.out, if_neg (by rw [hc34]; rintro ⟨h1, h2⟩; exact h32 ⟨by rw [h1]; rfl, h2⟩), hc34])
          by_cases hb32 : ch.toNat = 32
          · obtain rfl : q = true := by cases q; exact absurd ⟨hb32, rfl⟩ h32; rfl
            have t2 : ((ch.toNat : Int) == 32) = true := by rw [hb32]; rfl
            clear h34 hc34 h32 hb32
            go_wp2_with fail
            go_round
            case rel => exact ⟨k + 1, j, true, P ++ [ch], _, by omega, hj, rfl, rfl, rfl, by go_num, HCB0, Lib.hid (HHS.out _ HN.out), by rw [ByteArray.size_append, hxs]; omega⟩
            case measure => simp [intOf]; omega
          · have t2 : ((ch.toNat : Int) == 32) = false := by rw [beq_eq_false_iff_ne]; omega
            clear h34 hc34 h32 hb32
            go_wp2_with fail
            go_round
            case rel => exact ⟨k + 1, j, q, P ++ [ch], _, by omega, hj, rfl, rfl, rfl, by go_num, HCB0, Lib.hid (HHS.out _ HN.out), by rw [ByteArray.size_append, hxs]; omega⟩
            case measure => simp [intOf]; omega
    · obtain rfl : k = m := by omega
      have hTd : T.drop k = [] := List.drop_eq_nil_of_le (by rw [HM.out]; exact Nat.le_refl _)
      have hP : wdF bl false T = P := by rw [hW.out, hTd]; simp [wdF]
      have HB2 := Lib.hid (show B ++ ⟨#[41, 32, 41, 32, 32]⟩ = ⟨(40 :: 40 :: (wdF bl false T ++ [41, 32, 41, 32, 32])).toArray⟩ by
        rw [hBv.out, hP]; show (⟨(40 :: 40 :: P).toArray⟩ : ByteArray) ++ ⟨([41, 32, 41, 32, 32] : List UInt8).toArray⟩ = _; rw [ba_append]; rfl)
      have hTlen : T.length ≤ 1300 := by rw [HM.out]; exact hm4
      have hWl := wd_len2 T bl false
      have HP1 := Lib.hid (show parseE T = (x, 0) from parse_ok HR.out (by omega) (by omega) (by rw [← HTT.out]; exact read_text HR.out))
      have HP2 := Lib.hid (show parseE (40 :: 40 :: (wdF bl false T ++ [41, 32, 41, 32, 32])) = (x, 0) from parse_ok HR.out (by omega) (by simp only [List.length_cons, List.length_append, List.length_nil]; omega) (by rw [← HTT.out]; exact read_wide HR.out bl))
      have htab3 := HT.out.ext ((HE2.out.trans hE3))
      have P1 := Lib.hid (parse_any T (by omega) w3 htab3)
      have P2 := Lib.hid (fun (W : World) (h : Ext w3 W) => parse_any (40 :: 40 :: (wdF bl false T ++ [41, 32, 41, 32, 32])) (by simp only [List.length_cons, List.length_append, List.length_nil]; omega) W (htab3.ext h))
      rw [HSV.out] at P1
      rw [← HB2.out] at P2
      have hx3 := HZ2.out.ext hE3
      have HIN3 := Lib.hid (HIN.out.ext hE3)
      have hsz23 : w2.heap.size < w3.heap.size := Nat.lt_of_lt_of_le (by simp) hE3.sz
      have HE3 := Lib.hid (HE2.out.trans hE3)
      clear hTd hW hBv hlt hP hTlen hWl hE3 htab3
      go_wp2_with fail
      refine P1.out.mono ?_
      rintro e w4 ⟨A', c', d', rfl, hX4, hE4⟩
      rw [HP1.out] at hX4 ⊢
      simp only at hX4
      have hEa : Ext w4 (w4.alloc (.cells (x.cells A' c').toArray 29)) := Ext.alloc _ _
      have hza := ExL.ext (hX4.more fun k hk => hk.2) hEa
      have hina := InBlk.new2 w4 x A' c'
      have hx4 := (hx3.ext hE4).ext hEa
      have hin4 := (HIN3.out.ext hE4).ext hEa
      have hsz34 : w3.heap.size ≤ w4.heap.size := hE4.sz
      have HEa := Lib.hid (hE4.trans hEa)
      unfold Ex.cells at hza hina hx4 hin4 HEa ⊢
      clear hx3 hX4 hE4 hEa
      go_wp2_with fail
      refine (P2.out _ HEa.out).mono ?_
      rintro e w5 ⟨B', c2, d2, rfl, hX5, hE5⟩
      rw [HP2.out] at hX5 ⊢
      simp only at hX5
      have hEb : Ext w5 (w5.alloc (.cells (x.cells B' c2).toArray 29)) := Ext.alloc _ _
      have hzb := ExL.ext (hX5.more fun k hk => hk.2) hEb
      have hinb := InBlk.new2 w5 x B' c2
      have hx5 := (hx4.ext hE5).ext hEb
      have hza5 := (hza.ext hE5).ext hEb
      have hin5 := (hin4.ext hE5).ext hEb
      have hina5 := (hina.ext hE5).ext hEb
      have hsz45 : w4.heap.size < w5.heap.size := Nat.lt_of_lt_of_le (by simp) hE5.sz
      have HE5 := Lib.hid (((HE3.out.trans HEa.out).trans hE5).trans hEb)
      have S1 := Lib.hid (fun (W : World) (h : Ext _ W) => Same_any (max d' d) x x A' A c' c W ((hza5.ext h).deep (Nat.le_max_left _ _)) ((hx5.ext h).deep (Nat.le_max_right _ _)) (by omega) (by omega))
      have S2 := Lib.hid (fun (W : World) (h : Ext _ W) => Same_any (max d2 d) x x B' A c2 c W ((hzb.ext h).deep (Nat.le_max_left _ _)) ((hx5.ext h).deep (Nat.le_max_right _ _)) (by omega) (by omega))
      rw [show x.same x = true from (Ex.same_iff _ _).2 rfl] at S1 S2
      have HIN5 := Lib.hid hin5
      have HINB := Lib.hid hinb
      unfold Ex.cells at S1 S2 HIN5 HINB HE5
      obtain ⟨a0, a1, a2, a3, a4, a5, a6⟩ := hina5.cells
      obtain ⟨i0, i1, i2, i3, i4, i5, i6⟩ := hin5.cells
      unfold Ex.cells at a0 a1 a2 a3 a4 a5 a6 i0 i1 i2 i3 i4 i5 i6 ⊢
      clear hx4 hx5 hza hza5 hzb hin4 hin5 hina hina5 hinb hX5 hE5 hEb
      go_wp2_with fail
      refine (S1.out _ (Ext.refl _)).mono ?_
      rintro e w6 ⟨rfl, hE6⟩
      obtain ⟨b0, b1, b2, b3, b4, b5, b6⟩ := (HINB.out.ext hE6).cells
      obtain ⟨j0, j1, j2, j3, j4, j5, j6⟩ := (HIN5.out.ext hE6).cells
      clear a0 a1 a2 a3 a4 a5 a6 i0 i1 i2 i3 i4 i5 i6
      go_wp2_with fail
      refine (S2.out _ hE6).mono ?_
      rintro e w7 ⟨rfl, hE7⟩
      go_wp2_with fail
      go_ret
      exact ⟨rfl, (HE5.out.trans hE6).trans hE7⟩
end Go.Proofs.YtggkkjnfonbpkaaGreatDoor
