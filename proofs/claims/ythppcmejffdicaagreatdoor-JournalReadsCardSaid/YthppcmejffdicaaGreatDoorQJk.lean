/- Contracts of the reference's digits. -/
import Derived.Test.YthppcmejffdicaaGreatDoorQJh
import Derived.Test.YthppcmejffdicaaGreatDoorQJi

set_option linter.unusedSimpArgs false
set_option linter.unusedVariables false
namespace Go.Proofs.YthppcmejffdicaaGreatDoor
open Go.RowKit Hach Num Jn

theorem ba_get (s : List UInt8) (k : Nat) (h : k < (⟨s.toArray⟩ : ByteArray).size) : (⟨s.toArray⟩ : ByteArray)[k]'h = s.getD k 0 := by
  have h' : k < s.length := by rw [← toArr_size]; exact h
  show s.toArray[k]'_ = _
  simp [List.getD, List.getElem?_eq_getElem h']
theorem hexs_cut : ∀ i : Nat, i < 16 → (⟨#[48, 49, 50, 51, 52, 53, 54, 55, 56, 57, 97, 98, 99, 100, 101, 102]⟩ : ByteArray).extract i (i + 1) = ⟨[hexd i].toArray⟩ := by decide

set_option maxHeartbeats 400000 in
theorem hexR_any (s : List UInt8) (hs : s.length < 1073741824) (w : World) :
    Calls Tryz.prog 36 #[.string ⟨s.toArray⟩] w fun e w' => e = .returned (.string ⟨(hexl s).toArray⟩) ∧ Ext w w' := by
  have hsz := toArr_size s
  go_enter Tryz.func36, Tryz.ntmps36
  go_wp2_with fail
  go_loopw [4, 5] (fun v i wr => ∃ k : Nat, k ≤ s.length ∧ i = .int .i64 k ∧ v = .string ⟨(hexl (s.take k)).toArray⟩ ∧ Ext w wr) (fun _ i _ => s.length - (intOf i).toNat)
  case atStart => exact ⟨0, Nat.zero_le _, rfl, rfl, Ext.refl _⟩
  case round =>
    obtain ⟨k, hk, rfl, rfl, hE⟩ := hrel
    by_cases hlt : k < s.length
    · have ht := hexl_take s k hlt
      have hb := ba_get s k
      generalize s.getD k 0 = c at ht hb
      have hl := hexl_len (s.take k)
      have hol : (⟨(hexl (s.take k)).toArray⟩ : ByteArray).size ≤ 2147483648 := by rw [toArr_size, hl, List.length_take]; omega
      have hc := UInt8.toNat_lt c
      have c1 := hexs_cut (c.toNat / 16) (by omega)
      have c2 := hexs_cut (c.toNat % 16) (by omega)
      have e1 : (c.toNat : Int) / 16 = (c.toNat / 16 : Nat) := rfl
      have e2 : (c.toNat : Int) % 16 = (c.toNat % 16 : Nat) := rfl
      have e3 : (c.toNat : Int).tdiv 16 = (c.toNat / 16 : Nat) := rfl
      have e4 : (c.toNat : Int).tmod 16 = (c.toNat % 16 : Nat) := rfl
      have hx : c.toNat / 16 < 16 := by omega
      have hy : c.toNat % 16 < 16 := by omega
      obtain ⟨x, hxx⟩ : ∃ x, c.toNat / 16 = x := ⟨_, rfl⟩
      obtain ⟨y, hyy⟩ : ∃ y, c.toNat % 16 = y := ⟨_, rfl⟩
      rw [hxx] at c1 e1 e3 hx ht
      rw [hyy] at c2 e2 e4 hy ht
      have HT := Lib.hid ht
      generalize hexl (s.take k) = O at hol HT
      clear hxx hyy ht hl
      have hfin : ∀ a b : ByteArray, a = ⟨[hexd x].toArray⟩ → b = ⟨[hexd y].toArray⟩ → (⟨O.toArray⟩ : ByteArray) ++ a ++ b = ⟨(O ++ [hexd x, hexd y]).toArray⟩ := by
        rintro _ _ rfl rfl
        rw [ba_append, ba_append]; simp
      have hs0 : ∀ a : ByteArray, a = ⟨[hexd x].toArray⟩ → ((⟨O.toArray⟩ : ByteArray) ++ a).size ≤ 2147483649 := by
        rintro _ rfl
        rw [ba_append, toArr_size, List.length_append, List.length_singleton]
        rw [toArr_size] at hol; omega
      obtain ⟨bx, hbx⟩ : ∃ a : ByteArray, a = ⟨[hexd x].toArray⟩ := ⟨_, rfl⟩
      obtain ⟨bY, hby⟩ : ∃ a : ByteArray, a = ⟨[hexd y].toArray⟩ := ⟨_, rfl⟩
      have hfin := hfin bx bY hbx hby
      have hs1 := hs0 bx hbx
      have hs2 : bx.size ≤ 1 := by rw [hbx]; exact Nat.le_refl _
      have hs3 : bY.size ≤ 1 := by rw [hby]; exact Nat.le_refl _
      rw [← hbx] at c1
      rw [← hby] at c2
      have HFIN := Lib.hid hfin
      clear hbx hby hs0 hfin
      have hE0 := hE
      go_wp2_with fail
      apply wp_region_seq (l := [_, _, _, _, _, _, _, _, _, _, _, _, _]) (t := [_]) [some 24, some 25, some 26, some 27, some 28, some 29, some 30, some 31, some 32, some 33, some 34, some 35, some 36, some 4] [[], [], [], [], [3], [1, 2, 4], [0, 5], [], [], [], [9], [7, 8, 10], [6, 11], [12]] [13, 13, 13, 13, 13, 13, 13, 13, 13, 13, 13, 13, 13] [eqv _, eqv _, eqv _, eqv _, eqv _, eqv _, eqv _, eqv _, eqv _, eqv _, eqv _, eqv _, eqv _] (by kernel_rfl) (by kernel_rfl) ⟨?o0, ?o1, ?o2, ?o3, ?o4, ?o5, ?o6, ?o7, ?o8, ?o9, ?o10, ?o11, ?o12, trivial⟩ ?last
      case o0 => -- Op.move (Operand.tmp 4)
        intro xv W hE _
        simp only [putD, List.foldl_nil, List.getD_cons_zero]
        refine OpGoal.plain ?_
        go_wp2_with fail
        exact ⟨rfl, Ext.refl _, rfl⟩
      case o1 => -- Op.move (Operand.tmp 3)
        intro xv W hE _
        simp only [putD, List.foldl_nil, List.getD_cons_zero, List.getD_cons_succ]
        refine OpGoal.plain ?_
        go_wp2_with fail
        exact ⟨rfl, Ext.refl _, rfl⟩
      case o2 => -- Op.move (Operand.tmp 6)
        intro xv W hE _
        simp only [putD, List.foldl_nil, List.getD_cons_zero, List.getD_cons_succ]
        refine OpGoal.plain ?_
        go_wp2_with fail
        exact ⟨rfl, Ext.refl _, rfl⟩
      case o3 => -- Op.move (Operand.tmp 6)
        intro xv W hE _
        simp only [putD, List.foldl_nil, List.getD_cons_zero, List.getD_cons_succ]
        refine OpGoal.plain ?_
        go_wp2_with fail
        exact ⟨rfl, Ext.refl _, rfl⟩
      case o4 => -- Op.binOp BinOp.add 3 (Operand.tmp 27) (Operand.const (Value.int IntKind.i64 1)) 
        intro xv W hE hp
        have r3 : xv 3 = _ := hp.1
        clear hp
        simp only [putD, List.foldl_nil, List.foldl_cons, List.getD_cons_zero, List.getD_cons_succ, Act.put, List.setIfInBounds_toArray, List.set_cons_zero, List.set_cons_succ]
        refine OpGoal.plain ?_
        go_wp2_with fail
        exact ⟨rfl, Ext.refl _, rfl⟩
      case o5 => -- Op.slice 9 (Operand.tmp 25) (some (Operand.tmp 26)) (some (Operand.tmp 28)) none
        intro xv W hE hp
        have r1 : xv 1 = _ := hp.1
        have r2 : xv 2 = _ := hp.2.1
        have r4 : xv 4 = _ := hp.2.2.1
        clear hp
        simp only [putD, List.foldl_nil, List.foldl_cons, List.getD_cons_zero, List.getD_cons_succ, Act.put, List.setIfInBounds_toArray, List.set_cons_zero, List.set_cons_succ]
        refine OpGoal.plain ?_
        go_wp2_with fail
        exact ⟨rfl, Ext.refl _, rfl⟩
      case o6 => -- Op.binOp BinOp.add 9 (Operand.tmp 24) (Operand.tmp 29) 9
        intro xv W hE hp
        have r0 : xv 0 = _ := hp.1
        have r5 : xv 5 = _ := hp.2.1
        clear hp
        simp only [putD, List.foldl_nil, List.foldl_cons, List.getD_cons_zero, List.getD_cons_succ, Act.put, List.setIfInBounds_toArray, List.set_cons_zero, List.set_cons_succ]
        refine OpGoal.plain ?_
        go_wp2_with fail
        exact ⟨rfl, Ext.refl _, rfl⟩
      case o7 => -- Op.move (Operand.tmp 3)
        intro xv W hE _
        simp only [putD, List.foldl_nil, List.getD_cons_zero, List.getD_cons_succ]
        refine OpGoal.plain ?_
        go_wp2_with fail
        exact ⟨rfl, Ext.refl _, rfl⟩
      case o8 => -- Op.move (Operand.tmp 7)
        intro xv W hE _
        simp only [putD, List.foldl_nil, List.getD_cons_zero, List.getD_cons_succ]
        refine OpGoal.plain ?_
        go_wp2_with fail
        exact ⟨rfl, Ext.refl _, rfl⟩
      case o9 => -- Op.move (Operand.tmp 7)
        intro xv W hE _
        simp only [putD, List.foldl_nil, List.getD_cons_zero, List.getD_cons_succ]
        refine OpGoal.plain ?_
        go_wp2_with fail
        exact ⟨rfl, Ext.refl _, rfl⟩
      case o10 => -- Op.binOp BinOp.add 3 (Operand.tmp 33) (Operand.const (Value.int IntKind.i64 1)) 
        intro xv W hE hp
        have r9 : xv 9 = _ := hp.1
        clear hp
        simp only [putD, List.foldl_nil, List.foldl_cons, List.getD_cons_zero, List.getD_cons_succ, Act.put, List.setIfInBounds_toArray, List.set_cons_zero, List.set_cons_succ]
        refine OpGoal.plain ?_
        go_wp2_with fail
        exact ⟨rfl, Ext.refl _, rfl⟩
      case o11 => -- Op.slice 9 (Operand.tmp 31) (some (Operand.tmp 32)) (some (Operand.tmp 34)) none
        intro xv W hE hp
        have r7 : xv 7 = _ := hp.1
        have r8 : xv 8 = _ := hp.2.1
        have r10 : xv 10 = _ := hp.2.2.1
        clear hp
        simp only [putD, List.foldl_nil, List.foldl_cons, List.getD_cons_zero, List.getD_cons_succ, Act.put, List.setIfInBounds_toArray, List.set_cons_zero, List.set_cons_succ]
        refine OpGoal.plain ?_
        go_wp2_with fail
        exact ⟨rfl, Ext.refl _, rfl⟩
      case o12 => -- Op.binOp BinOp.add 9 (Operand.tmp 30) (Operand.tmp 35) 9
        intro xv W hE hp
        have r6 : xv 6 = _ := hp.1
        have r11 : xv 11 = _ := hp.2.1
        clear hp
        simp only [putD, List.foldl_nil, List.foldl_cons, List.getD_cons_zero, List.getD_cons_succ, Act.put, List.setIfInBounds_toArray, List.set_cons_zero, List.set_cons_succ]
        refine OpGoal.plain ?_
        go_wp2_with fail
        exact ⟨rfl, Ext.refl _, rfl⟩
      case last =>
        intro xv W hE hp
        have r0 : xv 0 = _ := hp.1
        have r1 : xv 1 = _ := hp.2.1
        have r2 : xv 2 = _ := hp.2.2.1
        have r3 : xv 3 = _ := hp.2.2.2.1
        have r4 : xv 4 = _ := hp.2.2.2.2.1
        have r5 : xv 5 = _ := hp.2.2.2.2.2.1
        have r6 : xv 6 = _ := hp.2.2.2.2.2.2.1
        have r7 : xv 7 = _ := hp.2.2.2.2.2.2.2.1
        have r8 : xv 8 = _ := hp.2.2.2.2.2.2.2.2.1
        have r9 : xv 9 = _ := hp.2.2.2.2.2.2.2.2.2.1
        have r10 : xv 10 = _ := hp.2.2.2.2.2.2.2.2.2.2.1
        have r11 : xv 11 = _ := hp.2.2.2.2.2.2.2.2.2.2.2.1
        have r12 : xv 12 = _ := hp.2.2.2.2.2.2.2.2.2.2.2.2.1
        clear hp
        simp only [putD, List.foldl_nil, List.foldl_cons, List.getD_cons_zero, List.getD_cons_succ, Act.put, List.length_cons, List.length_nil, List.range_succ, List.range_zero, List.nil_append, List.cons_append, List.setIfInBounds_toArray, List.set_cons_zero, List.set_cons_succ]
        have hW := (hE0.trans (Ext.drew wr)).trans hE
        go_wp2_with fail
        go_roundw
        case rel =>
          refine ⟨k + 1, by omega, by go_num, ?_, hW⟩
          rw [HT.out, ← HFIN.out]; exact r12
        case measure => simp [intOf]; omega
    · obtain rfl : k = s.length := by omega
      rw [List.take_length]
      go_wp2_with fail
      go_ret
      exact ⟨rfl, hE⟩
end Go.Proofs.YthppcmejffdicaaGreatDoor
