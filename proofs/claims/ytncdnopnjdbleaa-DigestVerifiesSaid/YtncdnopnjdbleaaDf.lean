/- Contracts over lists of strings: the first strings of a list. -/
import Derived.Test.YtncdnopnjdbleaaDd
import Derived.Test.YtncdnopnjdbleaaOwn
namespace Go.Proofs.Ytncdnopnjdbleaa
open Go.RowKit Hach

set_option maxHeartbeats 400000 in
theorem list_any (A : Option Addr) (n c : Nat) (ss : List ByteArray) (w : World) (hS : Strs w w.heap.size A n ss) (hn : n < 9223372036854775808) (hsm : ∀ k, (ss.getD k ByteArray.empty).size < 9223372036854775808) :
    Calls Try.prog 22 #[.slice A n c] w fun e w' => ∃ v, e = .returned v ∧ OwnS w' w.heap.size v (lst ss) ∧ Below w.heap.size w w' := by
  go_enter Try.func22, Try.ntmps22
  go_wp2_with fail
  go_loopw [3, 4] (fun v i wr => ∃ k : Nat, k ≤ n ∧ k ≤ 20 ∧ i = .int .i64 k ∧ OwnS wr w.heap.size v ((ss.take k).map cut30) ∧ Below w.heap.size w wr) (fun _ i _ => n - (intOf i).toNat)
  case atStart => exact ⟨0, Nat.zero_le _, Nat.zero_le _, rfl, OwnS.nil _ _, Below.refl _ _⟩
  case round =>
    obtain ⟨k, hk, hk20, rfl, hO, hb⟩ := hrel
    by_cases hlt : k < n
    · by_cases hlt2 : k < 20
      · obtain ⟨b, o, rfl, hbl, hc0⟩ := hS.at_ hlt
        have hc : wr.cell? ⟨b, o + k, none⟩ = some (.string (ss.getD k ByteArray.empty)) := (hb.cell (p := ⟨b, o + k, none⟩) hbl).trans (hc0 k hlt)
        have hz := hb.size
        have hkl : k < ss.length := by rw [hS.len]; exact hlt
        have hsz := hsm k
        have ht : ss.take (k + 1) = ss.take k ++ [ss.getD k ByteArray.empty] := by
          rw [List.take_succ_eq_append_getElem hkl]; simp [List.getD, List.getElem?_eq_getElem hkl]
        have HT := Lib.hid ht
        clear hc0 ht
        generalize ss.getD k ByteArray.empty = s at hc hsz HT
        have hml : ((ss.take k).map cut30).length < 4294967296 := by simp; omega
        have hbw : b < wr.heap.size := by omega
        have hlt2' : decide ((k : Int) < 20) = true := by simp; omega
        go_wp2_with fail
        apply wp_region_seq (l := [_, _, _, _, _, _, _, _, _, _, _, _, _]) (t := [_, _]) [some 15, some 16, some 17, some 18, some 19, some 20, some 21, some 22, some 23, some 24, some 25, some 26, some 27, some 28, some 3] [[], [], [], [1, 2], [3], [], [], [5, 6], [7], [8], [9], [4, 10], [11], [0, 12], [13]] [13, 3, 3, 4, 11, 7, 7, 8, 9, 10, 11, 12, 13] [eqv _, eqv _, eqv _, eqv _, eqv _, eqv _, eqv _, eqv _, eqv _, eqv _, eqv _, (eqv (.string (cut30 s))), (slOne (cut30 s))] (by kernel_rfl) (by kernel_rfl) ⟨?o0, ?o1, ?o2, ?o3, ?o4, ?o5, ?o6, ?o7, ?o8, ?o9, ?o10, ?o11, ?o12, trivial⟩ ?last
        case o0 => -- Op.move (Operand.tmp 3)
          intro xv W hE _
          simp only [putD, List.foldl_nil, List.getD_cons_zero]
          refine OpGoal.plain ?_
          go_wp2_with fail
          exact ⟨rfl, Ext.refl _, rfl⟩
        case o1 => -- Op.move (Operand.tmp 0)
          intro xv W hE _
          simp only [putD, List.foldl_nil, List.getD_cons_zero, List.getD_cons_succ]
          refine OpGoal.plain ?_
          go_wp2_with fail
          exact ⟨rfl, Ext.refl _, rfl⟩
        case o2 => -- Op.move (Operand.tmp 4)
          intro xv W hE _
          simp only [putD, List.foldl_nil, List.getD_cons_zero, List.getD_cons_succ]
          refine OpGoal.plain ?_
          go_wp2_with fail
          exact ⟨rfl, Ext.refl _, rfl⟩
        case o3 => -- Op.indexAddr 28 (Operand.tmp 16) (Operand.tmp 17)
          intro xv W hE hp
          have r1 : xv 1 = _ := hp.1
          have r2 : xv 2 = _ := hp.2.1
          clear hp
          simp only [putD, List.foldl_nil, List.foldl_cons, List.getD_cons_zero, List.getD_cons_succ, Act.put, List.setIfInBounds_toArray, List.set_cons_zero, List.set_cons_succ]
          refine OpGoal.plain ?_
          go_wp2_with fail
          exact ⟨rfl, Ext.refl _, rfl⟩
        case o4 => -- Op.load 9 (Operand.tmp 18)
          intro xv W hE hp
          have r3 : xv 3 = _ := hp.1
          clear hp
          have hcW : W.cell? ⟨b, o + k, none⟩ = some (.string s) := (hE.old (p := ⟨b, o + k, none⟩) hbw).trans hc
          simp only [putD, List.foldl_nil, List.foldl_cons, List.getD_cons_zero, List.getD_cons_succ, Act.put, List.setIfInBounds_toArray, List.set_cons_zero, List.set_cons_succ]
          refine OpGoal.plain ?_
          go_wp2_with fail
          exact ⟨rfl, Ext.refl _, rfl⟩
        case o5 => -- Op.move (Operand.tmp 0)
          intro xv W hE _
          simp only [putD, List.foldl_nil, List.getD_cons_zero, List.getD_cons_succ]
          refine OpGoal.plain ?_
          go_wp2_with fail
          exact ⟨rfl, Ext.refl _, rfl⟩
        case o6 => -- Op.move (Operand.tmp 4)
          intro xv W hE _
          simp only [putD, List.foldl_nil, List.getD_cons_zero, List.getD_cons_succ]
          refine OpGoal.plain ?_
          go_wp2_with fail
          exact ⟨rfl, Ext.refl _, rfl⟩
        case o7 => -- Op.indexAddr 28 (Operand.tmp 20) (Operand.tmp 21)
          intro xv W hE hp
          have r5 : xv 5 = _ := hp.1
          have r6 : xv 6 = _ := hp.2.1
          clear hp
          simp only [putD, List.foldl_nil, List.foldl_cons, List.getD_cons_zero, List.getD_cons_succ, Act.put, List.setIfInBounds_toArray, List.set_cons_zero, List.set_cons_succ]
          refine OpGoal.plain ?_
          go_wp2_with fail
          exact ⟨rfl, Ext.refl _, rfl⟩
        case o8 => -- Op.load 9 (Operand.tmp 22)
          intro xv W hE hp
          have r7 : xv 7 = _ := hp.1
          clear hp
          have hcW : W.cell? ⟨b, o + k, none⟩ = some (.string s) := (hE.old (p := ⟨b, o + k, none⟩) hbw).trans hc
          simp only [putD, List.foldl_nil, List.foldl_cons, List.getD_cons_zero, List.getD_cons_succ, Act.put, List.setIfInBounds_toArray, List.set_cons_zero, List.set_cons_succ]
          refine OpGoal.plain ?_
          go_wp2_with fail
          exact ⟨rfl, Ext.refl _, rfl⟩
        case o9 => -- Op.call { callee := Callee.builtin Builtin.len, args := #[Operand.tmp 23], argTy
          intro xv W hE hp
          have r8 : xv 8 = _ := hp.1
          clear hp
          simp only [putD, List.foldl_nil, List.foldl_cons, List.getD_cons_zero, List.getD_cons_succ, Act.put, List.setIfInBounds_toArray, List.set_cons_zero, List.set_cons_succ]
          refine OpGoal.plain ?_
          go_wp2_with fail
          exact ⟨rfl, Ext.refl _, rfl⟩
        case o10 => -- Op.call { callee := Callee.builtin Builtin.min, args := #[Operand.tmp 24, Operan
          intro xv W hE hp
          have r9 : xv 9 = _ := hp.1
          clear hp
          simp only [putD, List.foldl_nil, List.foldl_cons, List.getD_cons_zero, List.getD_cons_succ, Act.put, List.setIfInBounds_toArray, List.set_cons_zero, List.set_cons_succ]
          refine OpGoal.plain ?_
          go_wp2_with fail
          exact ⟨rfl, Ext.refl _, rfl⟩
        case o11 => -- Op.slice 9 (Operand.tmp 19) none (some (Operand.tmp 25)) none
          intro xv W hE hp
          have r4 : xv 4 = _ := hp.1
          have r10 : xv 10 = _ := hp.2.1
          clear hp
          simp only [putD, List.foldl_nil, List.foldl_cons, List.getD_cons_zero, List.getD_cons_succ, Act.put, List.setIfInBounds_toArray, List.set_cons_zero, List.set_cons_succ]
          refine OpGoal.plain ?_
          go_wp2_with fail
          refine ⟨rfl, Ext.refl _, ?_⟩
          show Value.string _ = Value.string _
          unfold cut30
          rw [show (min (s.size : Int) 30).toNat = min s.size 30 by omega]
        case o12 => -- Op.buildSlice 28 1 #[(0, Operand.tmp 26)]
          intro xv W hE hp
          have r11 : xv 11 = _ := hp.1
          clear hp
          simp only [putD, List.foldl_nil, List.foldl_cons, List.getD_cons_zero, List.getD_cons_succ, Act.put, List.setIfInBounds_toArray, List.set_cons_zero, List.set_cons_succ]
          refine OpGoal.plain ?_
          go_wp2_with fail
          exact ⟨rfl, Ext.alloc _ _, W.heap.size, rfl, by simp, by simp⟩
        case last =>
          intro xv W hE hp
          have r0 : xv 0 = _ := hp.1
          have r1 : xv 1 = _ := hp.2.1
          have r2 : xv 2 = _ := hp.2.2.1
          have r3 : xv 3 = _ := hp.2.2.2.1
          have r4 : xv 4 = _ := hp.2.2.2.2.1
          have r5 : xv 5 = _ := hp.2.2.2.2.2.1
          have r6 : xv 6 = _ := hp.2.2.2.2.2.2.1
          have r7 : xv 7 = _ := hp.2.2.2.2.2.2.2.1
          have r8 : xv 8 = _ := hp.2.2.2.2.2.2.2.2.1
          have r9 : xv 9 = _ := hp.2.2.2.2.2.2.2.2.2.1
          have r10 : xv 10 = _ := hp.2.2.2.2.2.2.2.2.2.2.1
          have r11 : xv 11 = _ := hp.2.2.2.2.2.2.2.2.2.2.2.1
          obtain ⟨g, rg, hg, hcg⟩ := hp.2.2.2.2.2.2.2.2.2.2.2.2.1
          clear hp
          simp only [putD, List.foldl_nil, List.foldl_cons, List.getD_cons_zero, List.getD_cons_succ, Act.put, List.length_cons, List.length_nil, List.range_succ, List.range_zero, List.nil_append, List.cons_append, List.setIfInBounds_toArray, List.set_cons_zero, List.set_cons_succ]
          refine app_s rfl 15 27 rfl w.heap.size u3 _ r0 ((hO.ext (Ext.drew _)).ext hE) g (cut30 s) rg hcg hml (by have := hE.sz; simp at this; omega) ?_
          intro v' w' hO' hg'
          go_wp2_with fail
          go_roundw
          case rel =>
            refine ⟨k + 1, by omega, by omega, by go_num, ?_, ?_⟩
            · rw [HT.out]; simpa using hO'
            · exact below_of_grown ((hb.drew).trans (hE.below.mono (by simpa using hz))) ((hO.ext (Ext.drew _)).ext hE) hg' (by have := hE.sz; simp at this; omega)
          case measure => simp [intOf]; omega
      · obtain rfl : k = 20 := by omega
        go_wp2_with fail
        go_ret
        exact ⟨_, rfl, hO, hb⟩
    · obtain rfl : k = n := by omega
      go_wp2_with fail
      go_ret
      refine ⟨_, rfl, ?_, hb⟩
      have e : ss.take k = lst0 ss := by
        unfold lst0
        rw [List.take_of_length_le (by rw [hS.len]; exact Nat.le_refl _), List.take_of_length_le (by rw [hS.len]; exact hk20)]
      rw [e] at hO
      exact hO
end Go.Proofs.Ytncdnopnjdbleaa
