/- The law JournalMany: its walk. -/
import Derived.Test.YthppcmejffdicaaGreatDoorQKh
import Derived.LoopN

set_option linter.unusedSimpArgs false
set_option linter.unusedVariables false
namespace Go.Proofs.YthppcmejffdicaaGreatDoor
open Go.RowKit Hach Num Jn

def zs (m : Nat) : List UInt8 := List.replicate m 0
theorem zs_line (m : Nat) (h1 : 100000 ≤ m) (h2 : m < 1000000) : (line (zs m)).length = m + 25 := by
  have e1 : esc (zs m) = zs m := esc_same (by simp [zs, List.count_replicate]) (by simp [zs, List.count_replicate])
  have e2 : (head (zs m)).length = 6 := by
    unfold head
    rw [show (zs m).length = m from List.length_replicate, Lib.itoa_nonneg, Lib.decDigits_length]
    exact Lib.nDigits_unique 5 m (by omega) (by omega)
  unfold line
  rw [e1]
  simp only [List.length_append, List.length_cons, List.length_nil, e2, hx_len]
  simp only [zs, List.length_replicate]; omega
theorem nil_line : (line []).length = 20 := by
  have e0 : head [] = [48] := by unfold head; simp [Lib.itoa, Lib.decDigits_one]
  unfold line
  simp only [List.length_append, List.length_cons, List.length_nil, e0, hx_len, esc]
theorem app_many {t ln : List UInt8} (n : Nat) (h : 262144 < t.length + ln.length) : appRes (qz t) n false ln = (2, qz t, n, false) := by
  unfold appRes; rw [if_neg (by simp), if_pos (by exact h)]
theorem opens_nil : opens (qz (line [])) [[]] = true ∧ (qz (line [])).open_ = (true, qz (line [])) := by
  have ho : (qz (line [])).open_ = (true, qz (line [])) := by
    unfold Dk.open_
    rw [if_neg (by simp [qz]), if_pos]
    right; show (line []).getLast? = some 10; rw [line_front, List.getLast?_concat]
  refine ⟨?_, ho⟩
  unfold opens
  rw [ho]
  have := recs_line [] []
  rw [List.append_nil] at this
  simp only [Bool.true_and, decide_eq_true_eq]
  show recs (line []) = _
  rw [this]; rfl

theorem zero_text (W : World) (m : Nat) : (convert 57 9 (.slice (some ⟨W.heap.size, 0, none⟩) m m)).run Tryz.prog (W.alloc (.cells (madeCells #[.int .u8 0] m) 5)) = .ok (.string ⟨(zs m).toArray⟩) (W.alloc (.cells (madeCells #[.int .u8 0] m) 5)) := by
  have hb : Lib.Bytes (W.alloc (.cells (madeCells #[.int .u8 0] m) 5)) W.heap.size 0 ⟨(zs m).toArray⟩ := fun i hi => by
    have hi' : i < m := by rw [toArr_size, zs, List.length_replicate] at hi; exact hi
    rw [Nat.zero_add, World.cell?_alloc_mark]
    have hz : ∀ h, (⟨(zs m).toArray⟩ : ByteArray)[i]'h = 0 := fun h => by rw [ba_get]; simp [zs, List.getD, hi']
    rw [hz]
    simp [madeCells, hi', Nat.mod_one]
  have := Lib.run_convert_whole (P := Tryz.prog) _ 57 5 9 Tryz.underlying57 Tryz.underlying5 Tryz.underlying9 W.heap.size 0 ⟨(zs m).toArray⟩ hb m
  rw [toArr_size, zs, List.length_replicate] at this
  exact this
set_option maxRecDepth 100000 in
set_option maxHeartbeats 4000000 in
theorem JournalMany_any (n : Int) (h0 : 0 ≤ n) (h1 : n ≤ 255) (W : World) (hT : Tabs W) : Calls Tryz.prog 7 #[.int .u8 n] W fun e w' => e = .returned (.bool true) ∧ Ext W w' := by
  go_enter Tryz.func7, Tryz.ntmps7
  go_wp2_with fail
  refine (sanity_any W hT).mono ?_
  rintro e w1 ⟨rfl, hE1⟩
  have hT1 := hT.ext hE1
  go_wp2_with fail
  refine (new_p w1).mono ?_
  rintro e w2 ⟨rfl, hD2, hE2⟩
  have hT2 := hT1.ext hE2
  obtain ⟨b, hb⟩ : ∃ b, b = w1.heap.size := ⟨_, rfl⟩
  rw [← hb] at hD2 ⊢
  have hb6 : 6 ≤ b := by have := hT1.sz; omega
  have HB := Lib.hid hb
  clear hb
  go_wp2_with fail
  refine (openPS hD2 new_ok (Nat.zero_lt_succ _) hT2 hb6 F0 F0r).mono ?_
  rintro e w3 ⟨g, Av, cv, rfl, hg, P0, hO3, K3⟩
  have HO := Lib.hid hO3
  clear hO3
  go_wp2_with fail
  refine (hexL_any [] (by decide) w3).mono ?_
  rintro e w4 ⟨rfl, hE4⟩
  have z0 : (⟨(hexl (dgl [])).toArray⟩ : ByteArray).size = 16 := by rw [toArr_size, hx_len]
  generalize (⟨(hexl (dgl [])).toArray⟩ : ByteArray) = Hb at z0 ⊢
  obtain ⟨m, hm⟩ : ∃ m : Nat, (262119 : Int) + (n % 40 - 20) = (m : Nat) := ⟨(262119 + (n % 40 - 20)).toNat, by omega⟩
  have hm1 : 262099 ≤ m ∧ m ≤ 262138 := by omega
  have hmk := Go.run_make_row' (P := Tryz.prog) 57 5 (.int .u8 0) 1 Tryz.underlying57 infoU rfl .i64 .i64 m (by omega) (by omega) w4
  have hcv := zero_text w4 m
  have hm2 : 100000 ≤ m ∧ m < 1000000 := by omega
  have hl := zs_line m hm2.1 hm2.2
  have hzl : (zs m).length = m := List.length_replicate
  have hn0 := nil_line
  by_cases hby : 20 < n % 40
  · have F2 := app_many (t := []) (ln := line (zs m)) 0 (by rw [hl]; show 262144 < 0 + (m + 25); omega)
    have F3 := app_fit (t := []) (ln := line []) 0 (by rw [hn0]; show 0 + 20 ≤ 262144; omega)
    rw [List.nil_append] at F3
    have tby : decide (20 < n % 40) = true := by simpa using hby
    have X2 := fun W (h : PS W b g (qz []) 0 false) => PS.app2 (S := ⟨(zs m).toArray⟩) h F2 (by rw [hzl]; omega) (by decide) (by decide) rfl
    have X3 := fun W (h : PS W b g (qz []) 0 false) => PS.app2 (S := ⟨#[]⟩) h F3 (by decide) (by decide) (by decide) rfl
    have HX2 := Lib.hid X2
    have HX3 := Lib.hid X3
    have P0' : PS w3 b g (qz []) 0 false := P0
    clear X2 X3 F2 F3 P0 hl hzl hm1 hm2
    generalize (⟨(zs m).toArray⟩ : ByteArray) = Z at hcv HX2
    go_wp2_with fail
    refine (HX2.out _ ((P0'.ext hE4).ext (Ext.alloc w4 _))).mono ?_
    rintro e w5 ⟨rfl, P2, K5⟩
    go_wp2_with fail
    refine (HX3.out _ P2).mono ?_
    rintro e w6 ⟨rfl, P3, K6⟩
    have RD := read_p b (qz (line [])) w6 P3.dk
    rw [show (qz (line [])).text = line [] from rfl] at RD
    have zN := toArr_size (line [])
    rw [nil_line] at zN
    generalize (⟨(line []).toArray⟩ : ByteArray) = NV at RD zN
    have HON := Lib.hid opens_nil
    have Z0 := Lib.hid z0
    clear hmk hcv HX2 HX3 hn0 z0
    go_wp2_with fail
    refine RD.mono ?_
    rintro e w6' ⟨rfl, rfl⟩
    rename World => w6
    go_wp2_with fail
    refine (count_p g 1 (some b) false w6 P3.lg).mono ?_
    rintro e w6' ⟨rfl, rfl⟩
    rename World => w6
    go_wp2_with fail
    have PA := P3.ext (Ext.alloc w6 (.cells #[.string ⟨#[]⟩] 9))
    have hb3 := P3.dk.lt
    have OP := opens_any b 1 1 _ (qz (line [])) [[]] _ PA.dk PA.ok (by show (line []).length < _; rw [nil_line]; omega) PA.tabs hb6 (row_lit w6 [[]] 9 1 _ rfl rfl) (fun k o e => by cases e; omega) (by decide)
    rw [HON.out.1, HON.out.2] at OP
    refine OP.mono ?_
    rintro e w7 ⟨rfl, hD7, K7⟩
    go_wp2_with fail
    go_ret
    refine ⟨rfl, ?_⟩
    have hb := HB.out
    have s1 := hE1.size
    have s2 := hE2.size
    have s3 := K3.size
    have s4 := hE4.size
    have s5 := K5.size
    have s6 := K6.size
    have hgb : ∀ k ∈ [g, b], W.heap.size ≤ k := by intro k hk; simp at hk; omega
    have hbb : ∀ k ∈ [b], W.heap.size ≤ k := by intro k hk; simp at hk; omega
    have sA : w4.heap.size ≤ (w4.alloc (.cells (madeCells #[.int .u8 0] m) 5)).heap.size := (Ext.alloc w4 _).size
    have sB : w6.heap.size ≤ (w6.alloc (.cells #[.string ⟨#[]⟩] 9)).heap.size := (Ext.alloc w6 _).size
    have b1 := Below.trans (Ext.trans hE1 hE2) (K3.below (by omega) hbb)
    have b2 := Below.trans b1 ((Ext.trans hE4 (Ext.alloc w4 (.cells (madeCells #[.int .u8 0] m) 5))).below.mono (by omega))
    have b3 := Below.trans (Below.trans b2 (K5.below (by omega) hgb)) (K6.below (by omega) hgb)
    have b4 := Below.trans b3 ((Ext.alloc w6 (.cells #[.string ⟨#[]⟩] 9)).below.mono (by omega))
    exact Below.trans b4 (K7.below (by omega) hbb)
  · have F2 := app_fit (t := []) (ln := line (zs m)) 0 (by rw [hl]; show 0 + (m + 25) ≤ 262144; omega)
    rw [List.nil_append] at F2
    have tby : decide (20 < n % 40) = false := by simpa using hby
    have X2 := fun W (h : PS W b g (qz []) 0 false) => PS.app2 (S := ⟨(zs m).toArray⟩) h F2 (by rw [hzl]; omega) (by decide) (by decide) rfl
    have hX3 : ∃ (r : Int) (t : List UInt8) (c : Nat), (r = 0 ∧ n % 40 = 0 ∧ t.length = m + 45 ∨ r = 2 ∧ 0 < n % 40 ∧ t.length = m + 25) ∧ appRes (qz (line (zs m))) 1 false (line []) = (r, qz t, c, false) := by
      by_cases h0 : n % 40 = 0
      · exact ⟨0, line (zs m) ++ line [], 2, .inl ⟨rfl, h0, by rw [List.length_append, hl, hn0]⟩, app_fit 1 (by rw [hl, hn0]; omega)⟩
      · exact ⟨2, line (zs m), 1, .inr ⟨rfl, by omega, hl⟩, app_many 1 (by rw [hl, hn0]; omega)⟩
    obtain ⟨r, t, c, hrt, F3⟩ := hX3
    have X3 := fun W (h : PS W b g (qz (line (zs m))) (0 + 1) false) => PS.app2 (S := ⟨#[]⟩) h F3 (by decide) (by show (line (zs m)).length < _; rw [hl]; omega) (by decide) rfl
    have HX2 := Lib.hid X2
    have HX3 := Lib.hid X3
    have HRT := Lib.hid hrt
    have zz := toArr_size (zs m)
    rw [hzl] at zz
    have P0' : PS w3 b g (qz []) 0 false := P0
    clear X2 X3 F2 F3 P0 hl hzl hm1 hm2 hrt
    generalize (⟨(zs m).toArray⟩ : ByteArray) = Z at hcv HX2 zz
    generalize line (zs m) = LZ at HX2 HX3
    go_wp2_with fail
    refine (HX2.out _ ((P0'.ext hE4).ext (Ext.alloc w4 _))).mono ?_
    rintro e w5 ⟨rfl, P2, K5⟩
    go_wp2_with fail
    refine (HX3.out _ P2).mono ?_
    rintro e w6 ⟨rfl, P3, K6⟩
    have RD := read_p b (qz t) w6 P3.dk
    rw [show (qz t).text = t from rfl] at RD
    have zN := toArr_size t
    generalize (⟨t.toArray⟩ : ByteArray) = NV at RD zN
    have HEX := fun W => hexL_any [] (by decide) W
    have z1 : (⟨(hexl (dgl [])).toArray⟩ : ByteArray).size = 16 := by rw [toArr_size, hx_len]
    generalize (⟨(hexl (dgl [])).toArray⟩ : ByteArray) = HH at HEX z1
    have HEXH := Lib.hid HEX
    have hEnd : ∀ w', w6.heap.size ≤ w'.heap.size → Ext w6 w' → Ext W w' := fun w' _ hE7 => by
      have hb := HB.out
      have s1 := hE1.size
      have s2 := hE2.size
      have s3 := K3.size
      have s4 := hE4.size
      have s5 := K5.size
      have s6 := K6.size
      have hgb : ∀ k ∈ [g, b], W.heap.size ≤ k := by intro k hk; simp at hk; omega
      have hbb : ∀ k ∈ [b], W.heap.size ≤ k := by intro k hk; simp at hk; omega
      have sA : w4.heap.size ≤ (w4.alloc (.cells (madeCells #[.int .u8 0] m) 5)).heap.size := (Ext.alloc w4 _).size
      have b1 := Below.trans (Ext.trans hE1 hE2) (K3.below (by omega) hbb)
      have b2 := Below.trans b1 ((Ext.trans hE4 (Ext.alloc w4 (.cells (madeCells #[.int .u8 0] m) 5))).below.mono (by omega))
      have b3 := Below.trans (Below.trans b2 (K5.below (by omega) hgb)) (K6.below (by omega) hgb)
      exact Below.trans b3 (hE7.below.mono (by omega))
    have HEND := Lib.hid hEnd
    have Z0 := Lib.hid z0
    have HZZ := Lib.hid zz
    have HZN := Lib.hid zN
    have HMM := Lib.hid hm
    have hzs : Z.size ≤ 300000 := by omega
    clear hmk hcv HX2 HX3 hn0 z0 HEX hEnd zz zN hm
    rcases HRT.out with ⟨rfl, h0, ht⟩ | ⟨rfl, h0, ht⟩
    · have q1 : decide ((262144 : Int) < (NV.size : Int)) = false := by rw [decide_eq_false_iff_not]; have := HZN.out; have := HMM.out; omega
      have q2 : decide ((Z.size : Int) + 25 < (NV.size : Int)) = true := by rw [decide_eq_true_iff]; have := HZN.out; have := HZZ.out; omega
      clear ht h0 HRT
      go_wp2_with fail
      refine RD.mono ?_
      rintro e w6' ⟨rfl, rfl⟩
      rename World => w6
      go_wp2_with fail
      refine RD.mono ?_
      rintro e w6' ⟨rfl, rfl⟩
      go_wp2_with fail
      refine (HEXH.out _).mono ?_
      rintro e w7 ⟨rfl, hE7⟩
      go_wp2_with fail
      go_ret
      exact ⟨by simp, HEND.out _ hE7.size hE7⟩
    · have q1 : decide ((262144 : Int) < (NV.size : Int)) = false := by rw [decide_eq_false_iff_not]; have := HZN.out; have := HMM.out; omega
      have q2 : decide ((Z.size : Int) + 25 < (NV.size : Int)) = false := by rw [decide_eq_false_iff_not]; have := HZN.out; have := HZZ.out; omega
      clear ht h0 HRT
      go_wp2_with fail
      refine RD.mono ?_
      rintro e w6' ⟨rfl, rfl⟩
      rename World => w6
      go_wp2_with fail
      refine RD.mono ?_
      rintro e w6' ⟨rfl, rfl⟩
      go_wp2_with fail
      refine (HEXH.out _).mono ?_
      rintro e w7 ⟨rfl, hE7⟩
      go_wp2_with fail
      go_ret
      exact ⟨by simp, HEND.out _ hE7.size hE7⟩
end Go.Proofs.YthppcmejffdicaaGreatDoor
