/- The law ExprLong: its walk (seat ..D). -/
import Derived.Test.YtggkkjnfonbpkaaDoorQXk
import Derived.Test.YtggkkjnfonbpkaaDoorQPd
import Derived.Laws.MakeOwn
import Derived.Laws.IdiomStrings
import Derived.Lib.AppendStr

set_option linter.unusedSimpArgs false
set_option linter.unusedVariables false
namespace Go.Proofs.YtggkkjnfonbpkaaDoor
open Go.RowKit Hach

theorem ctyU : Cty 24 5 (.int .u8 0) 1 := ⟨by kernel_rfl, Tryd.underlying24, rfl, by omega⟩
def bv (c : UInt8) : Value := .int .u8 ((c.toNat : Nat) : Int)
theorem conv_row {w : World} {base : Nat} {v : Value} {l : List UInt8} (h : OwnC 5 w base v (l.map bv)) (hl : l ≠ []) : ∃ A c, v = .slice A l.length c ∧ (convert 24 9 (.slice A l.length c)).run Tryd.prog w = .ok (.string ⟨l.toArray⟩) w := by
  obtain ⟨A, c, e, hR⟩ := h.form
  obtain ⟨b, eA, hb, hc⟩ := hR (by simpa using hl)
  subst eA
  rw [List.length_map] at e
  refine ⟨_, c, e, run_convert_bytes_back w 24 9 5 ⟨b, 0, none⟩ c l Tryd.underlying24 Tryd.underlying5 Tryd.underlying9 fun j hj => ?_⟩
  have := hc j (bv l[j]) (by rw [List.getElem?_map, List.getElem?_eq_getElem hj]; rfl)
  simpa [Addr.add_lit, bv] using this
theorem rep_app (a : UInt8) (k : Nat) : (List.replicate k a).map bv ++ [bv a] = (List.replicate (k + 1) a).map bv := by
  rw [List.replicate_succ', List.map_append]; rfl
set_option maxRecDepth 100000 in
set_option maxHeartbeats 8000000 in
theorem ExprLong_any (n : Nat) (hn : n < 65536) (w : World) (htab : Tabs w) :
    Calls Tryd.prog 3 #[.int .u16 (n : Nat)] w fun e w' => e = .returned (.bool true) ∧ Ext w w' := by
  have SA := Lib.hid (sanity_any w htab)
  have HT := Lib.hid htab
  obtain ⟨m, hm⟩ : ∃ m, n % 2100 = m := ⟨_, rfl⟩
  have hm2 : m < 2100 := by omega
  have em : (n : Int) % 2100 = (m : Int) := by omega
  obtain ⟨q, hq⟩ : ∃ q, 2 * m + 8 = q := ⟨_, rfl⟩
  have eq : 2 * (m : Int) + 8 = (q : Int) := by omega
  have hq2 : q ≤ 4300 := by omega
  obtain ⟨i0, hi, hz0, hz1, hz2⟩ := info_parts (ctyU).inf
  have HI := Lib.hid hi
  clear htab hm hq
  go_enter Tryd.func3, Tryd.ntmps3
  go_wp2_with fail
  refine SA.out.mono ?_
  rintro e w1 ⟨rfl, hE1⟩
  obtain ⟨w2, hmk, hown, hgr⟩ := run_make_own (P := Tryd.prog) (w := w1) w1.heap.size 24 5 i0 (.int .u8 0) 1 Tryd.underlying24 HI.out hz0 hz1 .i64 .i64 q (by rw [hz2]; omega) (by unfold maxLen; omega) (Nat.le_refl _)
  have hE2 : Ext w1 w2 := below_row' hgr (Nat.le_refl _) (fun g e => by cases e)
  have HO := Lib.hid hown
  have HIZ := Lib.hid (And.intro hz0 (And.intro hz1 hz2))
  clear hown hgr hz0 hz1 hz2 hi
  go_wp2_with fail
  simp only [em]
  clear em eq
  go_loopw [5, 6] (fun sv kv wr => ∃ k : Nat, k ≤ m ∧ kv = .int .i64 k ∧ OwnC 5 wr w1.heap.size sv ((List.replicate k 40).map bv) ∧ Ext w1 wr) (fun _ kv _ => m - (intOf kv).toNat)
  case atStart => exact ⟨0, Nat.zero_le _, rfl, HO.out, hE2⟩
  case round =>
    obtain ⟨k, hk, rfl, hO, hE⟩ := hrel
    obtain ⟨us, hus⟩ : ∃ us, (List.replicate k 40).map bv = us := ⟨_, rfl⟩
    have hul : us.length = k := by rw [← hus]; simp
    have HRA := Lib.hid (show us ++ [bv 40] = (List.replicate (k + 1) 40).map bv by rw [← hus]; exact rep_app 40 k)
    rw [hus] at hO
    obtain ⟨A0, c0, e, hR⟩ := hO.form
    subst e
    have hus4 : us.length < 4294967296 := by omega
    have HUS := Lib.hid hus
    have HUL := Lib.hid hul
    clear hR hus hul
    by_cases hlt : k < m
    · have hEa : Ext wr (wr.alloc (.cells #[.int .u8 40] 5)) := Ext.alloc _ _
      have hOa := hO.ext hEa
      have hEb := hE.trans hEa
      have hba : w1.heap.size ≤ (wr.alloc (.cells #[.int .u8 40] 5)).heap.size := hEb.sz
      have HCG := Lib.hid (show (wr.alloc (.cells #[.int .u8 40] 5)).cell? ⟨wr.heap.size, 0, none⟩ = some (.int .u8 40) by rw [World.cell?_alloc_new]; rfl)
      have tk : decide (k < m) = true := by simp; omega
      clear hO hE hEa
      go_wp2_with (at_builtin; refine app_C ctyU rfl 23 24 rfl w1.heap.size (.slice A0 us.length c0) us rfl hOa wr.heap.size (.int .u8 40) rfl HCG.out rfl hus4 hba ?_; intro v1 wb hO2 hg2)
      go_roundw
      case rel => exact ⟨k + 1, by omega, by go_num, by rw [← HRA.out]; exact hO2, Below.trans hEb (below_row' hg2 hba fun g e => (hOa.lt g e).1)⟩
      case measure => simp [intOf]; omega
    · obtain rfl : k = m := by omega
      have tk : decide (k < k) = false := by simp
      have hs1 := hE.sz
      clear hlt
      go_wp2_with (at_builtin; refine Lib.wpList_append_own_string (o := ⟨some 27, _, _, _, _, _⟩) wr rfl (.tmp 26) (.const (.string ⟨#[107, 105, 110, 100]⟩)) 24 9 rfl w1.heap.size 5 i0 Tryd.underlying24 Tryd.underlying9 HI.out HIZ.out.1 HIZ.out.2.1 HIZ.out.2.2 (.slice A0 us.length c0) us.length us rfl hO ⟨#[107, 105, 110, 100]⟩ rfl (by simp only [maxLen]; show us.length + 4 ≤ _; omega) (by show us.length + 4 ≤ _; omega) hs1 ?_; intro v1 wb hO2 hg2 _)
      have hE2b : Ext w1 wb := Below.trans hE (below_row' hg2 hs1 fun g e => (hO.lt g e).1)
      have hO3 : OwnC 5 wb w1.heap.size v1 ((List.replicate k 40 ++ tKind).map bv) := by
        have e1 : us ++ Lib.strCells ⟨#[107, 105, 110, 100]⟩ = (List.replicate k 40 ++ tKind).map bv := by rw [← HUS.out, List.map_append]; rfl
        unfold OwnC
        rw [← e1, List.length_append]
        exact hO2
      have hE2' := hE2b
      clear hO2 hg2 hO hE hs1 tk hE2b
      go_loopw [5, 7] (fun sv kv wr => ∃ j : Nat, j ≤ k ∧ kv = .int .i64 j ∧ OwnC 5 wr w1.heap.size sv ((List.replicate k 40 ++ tKind ++ List.replicate j 41).map bv) ∧ Ext w1 wr) (fun _ kv _ => k - (intOf kv).toNat)
      case atStart => exact ⟨0, Nat.zero_le _, rfl, by rw [List.replicate_zero, List.append_nil]; exact hO3, hE2'⟩
      case round =>
        clear hE2' hO3
        obtain ⟨j, hj, rfl, hO, hE⟩ := hrel
        obtain ⟨us2, hus2⟩ : ∃ us2, (List.replicate k 40 ++ tKind ++ List.replicate j 41).map bv = us2 := ⟨_, rfl⟩
        have hul2 : us2.length = k + 4 + j := by rw [← hus2]; simp [tKind]; omega
        have HRA2 := Lib.hid (show us2 ++ [bv 41] = (List.replicate k 40 ++ tKind ++ List.replicate (j + 1) 41).map bv by rw [← hus2, List.replicate_succ', ← List.append_assoc, List.map_append (l₂ := [41])]; rfl)
        rw [hus2] at hO
        have HO2 := Lib.hid hO
        obtain ⟨A1, c1, e, hR⟩ := hO.form
        subst e
        have hus24 : us2.length < 4294967296 := by omega
        have HUS2 := Lib.hid hus2
        have HUL2 := Lib.hid hul2
        clear hR hus2 hul2
        by_cases hlt : j < k
        · have hEa : Ext wr (wr.alloc (.cells #[.int .u8 41] 5)) := Ext.alloc _ _
          have hOa := hO.ext hEa
          have hEb := hE.trans hEa
          have hba : w1.heap.size ≤ (wr.alloc (.cells #[.int .u8 41] 5)).heap.size := hEb.sz
          have HCG := Lib.hid (show (wr.alloc (.cells #[.int .u8 41] 5)).cell? ⟨wr.heap.size, 0, none⟩ = some (.int .u8 41) by rw [World.cell?_alloc_new]; rfl)
          have tk : decide (j < k) = true := by simp; omega
          clear hO hE hEa
          go_wp2_with (at_builtin; refine app_C ctyU rfl 33 34 rfl w1.heap.size (.slice A1 us2.length c1) us2 rfl hOa wr.heap.size (.int .u8 41) rfl HCG.out rfl hus24 hba ?_; intro v2 wc hO4 hg4)
          go_roundw
          case rel => exact ⟨j + 1, by omega, by go_num, by rw [← HRA2.out]; exact hO4, Below.trans hEb (below_row' hg4 hba fun g e => (hOa.lt g e).1)⟩
          case measure => simp [intOf]; omega
        · obtain rfl : j = k := by omega
          have tk : decide (j < j) = false := by simp
          obtain ⟨A2, c2, e2, hcv⟩ := conv_row (l := nest j) (by have := HO2.out; rw [← HUS2.out] at this; unfold nest; rw [← List.append_assoc]; exact this) (by unfold nest tKind; simp)
          simp only [Value.slice.injEq] at e2
          obtain ⟨rfl, eL, rfl⟩ := e2
          have HPA := Lib.hid (nest_parse j)
          have hjl := nest_len j
          have PA := Lib.hid (fun (W : World) (h : Ext w W) => parse_any (nest j) (by omega) W (HT.out.ext h))
          obtain ⟨D, hD⟩ : ∃ D : ByteArray, (⟨(nest j).toArray⟩ : ByteArray) = D := ⟨_, rfl⟩
          rw [hD] at PA hcv
          have hEw := hE1.trans hE
          obtain ⟨L, hL⟩ : ∃ L, us2.length = L := ⟨_, rfl⟩
          have hL2 : 2 * j + 4 ≤ L ∧ L ≤ 2 * j + 4 := by have := HUL2.out; omega
          have hLL : (nest j).length = L := by rw [nest_len]; have := HUL2.out; omega
          rw [hLL] at hcv
          simp only [hL] at hus24 ⊢
          clear hlt hO eL hD hL hLL hjl HRA2 hE hE2
          by_cases hbig : 4096 < L
          · have tb : decide ((4096 : Int) < (L : Int)) = true := by simp; omega
            have hp : parseE (nest j) = (zeroE, 2) := by rw [HPA.out, if_pos (by omega)]
            have HP := Lib.hid hp
            clear hp hbig
            go_wp2_with fail
            refine (PA.out _ hEw).mono ?_
            rintro e w5 ⟨A, c, d, rfl, hX, hE5⟩
            rw [HP.out] at hX ⊢
            have e7 : zeroE.cells A c = [.int .i64 0, .int .i64 0, .int .i64 0, .int .i64 0, .bool false, .string ⟨#[]⟩, .slice A 0 c] := rfl
            rw [e7]
            have SM : ∀ W, Calls Tryd.prog 6 #[.agg #[.int .i64 0, .int .i64 0, .int .i64 0, .int .i64 0, .bool false, .string ⟨#[]⟩, .slice A 0 c], .agg #[.int .i64 0, .int .i64 0, .int .i64 0, .int .i64 0, .bool false, .string ⟨#[]⟩, .slice none 0 0]] W fun r w' => r = .returned (.bool true) ∧ Ext W w' := fun W =>
              Same_any 0 zeroE zeroE A none c 0 W (ExL.nil _ _ _ _) (ExL.nil _ _ _ _) (by decide) (by decide)
            have HSM := Lib.hid SM
            clear SM hX e7
            go_wp2_with fail
            refine (HSM.out _).mono ?_
            rintro e w6 ⟨rfl, hE6⟩
            go_wp2_with fail
            go_ret
            exact ⟨rfl, ((hEw.trans hE5).trans (Ext.alloc _ _)).trans hE6⟩
          · have tb : decide ((4096 : Int) < (L : Int)) = false := by simp; omega
            have hp : parseE (nest j) = (exVar 0, 0) := by rw [HPA.out, if_neg (by omega)]
            have HP := Lib.hid hp
            clear hp hbig
            go_wp2_with fail
            refine (PA.out _ hEw).mono ?_
            rintro e w5 ⟨A, c, d, rfl, hX, hE5⟩
            rw [HP.out] at hX ⊢
            have e7 : (exVar 0).cells A c = [.int .i64 2, .int .i64 1, .int .i64 0, .int .i64 0, .bool false, .string ⟨#[]⟩, .slice A 0 c] := rfl
            rw [e7]
            have SM : ∀ W, Calls Tryd.prog 6 #[.agg #[.int .i64 2, .int .i64 1, .int .i64 0, .int .i64 0, .bool false, .string ⟨#[]⟩, .slice A 0 c], .agg #[.int .i64 2, .int .i64 1, .int .i64 0, .int .i64 0, .bool false, .string ⟨#[]⟩, .slice none 0 0]] W fun r w' => r = .returned (.bool true) ∧ Ext W w' := fun W =>
              Same_any 0 (exVar 0) (exVar 0) A none c 0 W (ExL.nil _ _ _ _) (ExL.nil _ _ _ _) (by decide) (by decide)
            have HSM := Lib.hid SM
            clear SM hX e7
            go_wp2_with fail
            refine (HSM.out _).mono ?_
            rintro e w6 ⟨rfl, hE6⟩
            go_wp2_with fail
            go_ret
            exact ⟨rfl, ((hEw.trans hE5).trans (Ext.alloc _ _)).trans hE6⟩
end Go.Proofs.YtggkkjnfonbpkaaDoor
