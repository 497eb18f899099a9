/- Contracts of the law's helpers: what is cut, what a bad reader decodes, malformed strings. -/
import Derived.Test.YthdbdpfgccipdaaDoorVf
namespace Go.Proofs.YthdbdpfgccipdaaDoor
open Go.RowKit Hach Num

def cutL (xs : List (List UInt8)) : List (List UInt8) := (xs.take 20).map (·.take 100)
theorem ext_own {w w1 w2 : World} {b : Nat} (h : Ext w w1) (g : w1.grownBy w2 (some b)) (hb : w.heap.size ≤ b) : Ext w w2 :=
  h.below.grown g h.sz (fun k hk => by simp only [Option.some.injEq] at hk; omega)
theorem take_min (s : List UInt8) (k : Nat) : (⟨s.toArray⟩ : ByteArray).extract 0 (min s.length k) = ⟨(s.take k).toArray⟩ := by
  rw [ba_take]
  congr 2
  rcases Nat.le_total s.length k with h | h
  · rw [Nat.min_eq_left h, List.take_of_length_le (Nat.le_refl _), List.take_of_length_le h]
  · rw [Nat.min_eq_right h]

set_option maxHeartbeats 400000 in
theorem cutl_any (A : Option Addr) (n c : Nat) (xs : List (List UInt8)) (w : World) (hX : RowT w w.heap.size A n xs) (hn : n < 9223372036854775808) (hsm : ∀ k, (xs.getD k []).length < 9223372036854775808) :
    Calls Tryd.prog 11 #[.slice A n c] w fun e w' => ∃ v, e = .returned v ∧ OwnT w' w.heap.size v (cutL xs) ∧ Ext w w' := by
  have hxl := hX.1
  go_enter Tryd.func11, Tryd.ntmps11
  go_wp2_with fail
  go_loopw [3, 4] (fun v i wr => ∃ k : Nat, k ≤ n ∧ k ≤ 20 ∧ i = .int .i64 k ∧ OwnT wr w.heap.size v ((xs.take k).map (·.take 100)) ∧ Ext w wr) (fun _ i _ => n - (intOf i).toNat)
  case atStart => exact ⟨0, Nat.zero_le _, Nat.zero_le _, rfl, OwnT.nil _ _, Ext.refl _⟩
  case round =>
    obtain ⟨k, hk, hk20, rfl, hO, hE⟩ := hrel
    by_cases hlt : k < n
    · by_cases hlt2 : k < 20
      · obtain ⟨b, o, rfl, hbl, hc0⟩ := hX.2 (by omega)
        have hc : wr.cell? ⟨b, o + k, none⟩ = some (txv (xs.getD k [])) := (hE.old (p := ⟨b, o + k, none⟩) hbl).trans (hc0 k hlt)
        have hsz := hsm k
        have hkl : k < xs.length := by omega
        have ht : xs.take (k + 1) = xs.take k ++ [xs.getD k []] := by
          rw [List.take_succ_eq_append_getElem hkl]; simp [List.getD, List.getElem?_eq_getElem hkl]
        have HT := Lib.hid ht
        clear hc0 ht
        generalize xs.getD k [] = s at hc hsz HT
        unfold txv at hc
        have htk := take_min s 100
        have hsv := toArr_size s
        obtain ⟨sv, hsve⟩ : ∃ sv : ByteArray, (⟨s.toArray⟩ : ByteArray) = sv := ⟨_, rfl⟩
        rw [hsve] at hc htk hsv
        have HTK := Lib.hid htk
        have hsv2 : sv.size < 9223372036854775808 := by omega
        have HSV := Lib.hid hsv
        clear hsve htk hsv
        have hml : ((xs.take k).map (fun x : List UInt8 => x.take 100)).length < 4294967296 := by simp; omega
        have hz := hE.sz
        have hbw : b < wr.heap.size := by omega
        have hlt2' : decide ((k : Int) < 20) = true := by simp; omega
        go_wp2_with fail
        apply wp_region_seq (l := [_, _, _, _, _, _, _, _, _, _, _, _, _]) (t := [_, _]) [some 15, some 16, some 17, some 18, some 19, some 20, some 21, some 22, some 23, some 24, some 25, some 26, some 27, some 28, some 3] [[], [], [], [1, 2], [3], [], [], [5, 6], [7], [8], [9], [4, 10], [11], [0, 12], [13]] [13, 3, 3, 4, 11, 7, 7, 8, 9, 10, 11, 12, 13] [eqv _, eqv _, eqv _, eqv _, eqv _, eqv _, eqv _, eqv _, eqv _, eqv _, eqv _, (eqv (.string ⟨(s.take 100).toArray⟩)), (slOne ⟨(s.take 100).toArray⟩)] (by kernel_rfl) (by kernel_rfl) ⟨?o0, ?o1, ?o2, ?o3, ?o4, ?o5, ?o6, ?o7, ?o8, ?o9, ?o10, ?o11, ?o12, trivial⟩ ?last
        case o0 => -- Op.move (Operand.tmp 3)
          intro xv W hE _
          simp only [putD, List.foldl_nil, List.getD_cons_zero]
          refine OpGoal.plain ?_
          go_wp2_with fail
          exact ⟨rfl, Ext.refl _, rfl⟩
        case o1 => -- Op.move (Operand.tmp 0)
          intro xv W hE _
          simp only [putD, List.foldl_nil, List.getD_cons_zero, List.getD_cons_succ]
          refine OpGoal.plain ?_
          go_wp2_with fail
          exact ⟨rfl, Ext.refl _, rfl⟩
        case o2 => -- Op.move (Operand.tmp 4)
          intro xv W hE _
          simp only [putD, List.foldl_nil, List.getD_cons_zero, List.getD_cons_succ]
          refine OpGoal.plain ?_
          go_wp2_with fail
          exact ⟨rfl, Ext.refl _, rfl⟩
        case o3 => -- Op.indexAddr 23 (Operand.tmp 16) (Operand.tmp 17)
          intro xv W hE hp
          have r1 : xv 1 = _ := hp.1
          have r2 : xv 2 = _ := hp.2.1
          clear hp
          simp only [putD, List.foldl_nil, List.foldl_cons, List.getD_cons_zero, List.getD_cons_succ, Act.put, List.setIfInBounds_toArray, List.set_cons_zero, List.set_cons_succ]
          refine OpGoal.plain ?_
          go_wp2_with fail
          exact ⟨rfl, Ext.refl _, rfl⟩
        case o4 => -- Op.load 9 (Operand.tmp 18)
          intro xv W hE hp
          have r3 : xv 3 = _ := hp.1
          clear hp
          have hcW : W.cell? ⟨b, o + k, none⟩ = some (.string sv) := (hE.old (p := ⟨b, o + k, none⟩) hbw).trans hc
          simp only [putD, List.foldl_nil, List.foldl_cons, List.getD_cons_zero, List.getD_cons_succ, Act.put, List.setIfInBounds_toArray, List.set_cons_zero, List.set_cons_succ]
          refine OpGoal.plain ?_
          go_wp2_with fail
          exact ⟨rfl, Ext.refl _, rfl⟩
        case o5 => -- Op.move (Operand.tmp 0)
          intro xv W hE _
          simp only [putD, List.foldl_nil, List.getD_cons_zero, List.getD_cons_succ]
          refine OpGoal.plain ?_
          go_wp2_with fail
          exact ⟨rfl, Ext.refl _, rfl⟩
        case o6 => -- Op.move (Operand.tmp 4)
          intro xv W hE _
          simp only [putD, List.foldl_nil, List.getD_cons_zero, List.getD_cons_succ]
          refine OpGoal.plain ?_
          go_wp2_with fail
          exact ⟨rfl, Ext.refl _, rfl⟩
        case o7 => -- Op.indexAddr 23 (Operand.tmp 20) (Operand.tmp 21)
          intro xv W hE hp
          have r5 : xv 5 = _ := hp.1
          have r6 : xv 6 = _ := hp.2.1
          clear hp
          simp only [putD, List.foldl_nil, List.foldl_cons, List.getD_cons_zero, List.getD_cons_succ, Act.put, List.setIfInBounds_toArray, List.set_cons_zero, List.set_cons_succ]
          refine OpGoal.plain ?_
          go_wp2_with fail
          exact ⟨rfl, Ext.refl _, rfl⟩
        case o8 => -- Op.load 9 (Operand.tmp 22)
          intro xv W hE hp
          have r7 : xv 7 = _ := hp.1
          clear hp
          have hcW : W.cell? ⟨b, o + k, none⟩ = some (.string sv) := (hE.old (p := ⟨b, o + k, none⟩) hbw).trans hc
          simp only [putD, List.foldl_nil, List.foldl_cons, List.getD_cons_zero, List.getD_cons_succ, Act.put, List.setIfInBounds_toArray, List.set_cons_zero, List.set_cons_succ]
          refine OpGoal.plain ?_
          go_wp2_with fail
          exact ⟨rfl, Ext.refl _, rfl⟩
        case o9 => -- Op.call { callee := Callee.builtin Builtin.len, args := #[Operand.tmp 23], argTy
          intro xv W hE hp
          have r8 : xv 8 = _ := hp.1
          clear hp
          simp only [putD, List.foldl_nil, List.foldl_cons, List.getD_cons_zero, List.getD_cons_succ, Act.put, List.setIfInBounds_toArray, List.set_cons_zero, List.set_cons_succ]
          refine OpGoal.plain ?_
          go_wp2_with fail
          exact ⟨rfl, Ext.refl _, rfl⟩
        case o10 => -- Op.call { callee := Callee.builtin Builtin.min, args := #[Operand.tmp 24, Operan
          intro xv W hE hp
          have r9 : xv 9 = _ := hp.1
          clear hp
          simp only [putD, List.foldl_nil, List.foldl_cons, List.getD_cons_zero, List.getD_cons_succ, Act.put, List.setIfInBounds_toArray, List.set_cons_zero, List.set_cons_succ]
          refine OpGoal.plain ?_
          go_wp2_with fail
          exact ⟨rfl, Ext.refl _, rfl⟩
        case o11 => -- Op.slice 9 (Operand.tmp 19) none (some (Operand.tmp 25)) none
          intro xv W hE hp
          have r4 : xv 4 = _ := hp.1
          have r10 : xv 10 = _ := hp.2.1
          clear hp
          simp only [putD, List.foldl_nil, List.foldl_cons, List.getD_cons_zero, List.getD_cons_succ, Act.put, List.setIfInBounds_toArray, List.set_cons_zero, List.set_cons_succ]
          refine OpGoal.plain ?_
          go_wp2_with fail
          refine ⟨rfl, Ext.refl _, ?_⟩
          show Value.string _ = Value.string _
          rw [← HTK.out, ← HSV.out]
          rw [show (min (sv.size : Int) 100).toNat = min sv.size 100 by omega]
        case o12 => -- Op.buildSlice 23 1 #[(0, Operand.tmp 26)]
          intro xv W hE hp
          have r11 : xv 11 = _ := hp.1
          clear hp
          simp only [putD, List.foldl_nil, List.foldl_cons, List.getD_cons_zero, List.getD_cons_succ, Act.put, List.setIfInBounds_toArray, List.set_cons_zero, List.set_cons_succ]
          refine OpGoal.plain ?_
          go_wp2_with fail
          exact ⟨rfl, Ext.alloc _ _, W.heap.size, rfl, by simp, by simp⟩
        case last =>
          intro xv W hE hp
          have r0 : xv 0 = _ := hp.1
          have r1 : xv 1 = _ := hp.2.1
          have r2 : xv 2 = _ := hp.2.2.1
          have r3 : xv 3 = _ := hp.2.2.2.1
          have r4 : xv 4 = _ := hp.2.2.2.2.1
          have r5 : xv 5 = _ := hp.2.2.2.2.2.1
          have r6 : xv 6 = _ := hp.2.2.2.2.2.2.1
          have r7 : xv 7 = _ := hp.2.2.2.2.2.2.2.1
          have r8 : xv 8 = _ := hp.2.2.2.2.2.2.2.2.1
          have r9 : xv 9 = _ := hp.2.2.2.2.2.2.2.2.2.1
          have r10 : xv 10 = _ := hp.2.2.2.2.2.2.2.2.2.2.1
          have r11 : xv 11 = _ := hp.2.2.2.2.2.2.2.2.2.2.2.1
          obtain ⟨g, rg, hg, hcg⟩ := hp.2.2.2.2.2.2.2.2.2.2.2.2.1
          clear hp
          simp only [putD, List.foldl_nil, List.foldl_cons, List.getD_cons_zero, List.getD_cons_succ, Act.put, List.length_cons, List.length_nil, List.range_succ, List.range_zero, List.nil_append, List.cons_append, List.setIfInBounds_toArray, List.set_cons_zero, List.set_cons_succ]
          have hO2 := (hO.ext (Ext.drew _)).ext hE
          have hb2 : w.heap.size ≤ W.heap.size := by have := hE.sz; simp at this; omega
          refine app_T rfl 15 27 rfl w.heap.size u3 _ r0 hO2 g (s.take 100) rg hcg hml hb2 ?_
          intro v' w' hO' hg'
          go_wp2_with fail
          go_roundw
          case rel =>
            refine ⟨k + 1, by omega, by omega, by go_num, ?_, ?_⟩
            · rw [HT.out]; simpa using hO'
            · exact ((‹Ext w wr›.trans (Ext.drew _)).trans hE).below.grown hg' hb2 (fun g hg => (OwnT.lt hO2 g hg).1)
          case measure => simp [intOf]; omega
      · obtain rfl : k = 20 := by omega
        go_wp2_with fail
        go_ret
        exact ⟨_, rfl, hO, hE⟩
    · obtain rfl : k = n := by omega
      have HO : OwnT wr w.heap.size u3 (cutL xs) := by
        have e : xs.take k = xs.take 20 := by rw [List.take_of_length_le (by omega), List.take_of_length_le (by omega)]
        unfold cutL
        rw [← e]; exact hO
      go_wp2_with fail
      go_ret
      exact ⟨_, rfl, HO, hE⟩

/- a call by its number decodes nothing -/
def fails (k : Int) (l : Option (List UInt8)) : Prop := if k = 0 then l.bind rdInt = none else if k = 1 then l.bind rdText = none else if k = 2 then l.bind (rdList rdInt) = none else l.bind (rdList rdText) = none
theorem fails_bad (k : Int) : fails k none := by unfold fails; split <;> (try split) <;> (try split) <;> rfl

theorem decodes_none (k : Int) (b : Nat) (l : Option (List UInt8)) (w : World) (hR : Rd w b l) (hb : 4 ≤ b) (hT : Tabs w) (hl : (l.getD []).length < 4294967281) (hf : fails k l) :
    Calls Tryd.prog 36 #[.pointer (some ⟨b, 0, none⟩), .int .i64 k] w fun e w' => e = .returned (.bool true) ∧ Rd w' b none ∧ w.grownBy w' (some b) := by
  by_cases h0 : k = 0
  · subst h0
    have hf : l.bind rdInt = none := hf
    go_enter Tryd.func36, Tryd.ntmps36
    go_wp2_with fail
    have hc := int_any b l w hR hb hT hl
    rw [hf] at hc
    refine hc.mono ?_
    rintro e w' ⟨⟨rfl, hR'⟩, hg⟩
    go_wp2_with fail
    go_ret
    exact ⟨rfl, hR', hg⟩
  · by_cases h1 : k = 1
    · subst h1
      have hf : l.bind rdText = none := hf
      have te : ((⟨#[]⟩ : ByteArray).toList == (⟨#[]⟩ : ByteArray).toList) = true := beq_self_eq_true _
      go_enter Tryd.func36, Tryd.ntmps36
      go_wp2_with fail
      have hc := text_any b l w hR hb hT hl
      rw [hf] at hc
      refine hc.mono ?_
      rintro e w' ⟨⟨rfl, hR'⟩, hg⟩
      go_wp2_with fail
      go_ret
      exact ⟨rfl, hR', hg⟩
    · have t0 : (k == 0) = false := by rw [beq_eq_false_iff_ne]; exact h0
      have t1 : (k == 1) = false := by rw [beq_eq_false_iff_ne]; exact h1
      by_cases h2 : k = 2
      · subst h2
        have hf : l.bind (rdList rdInt) = none := hf
        clear h0 h1
        go_enter Tryd.func36, Tryd.ntmps36
        go_wp2_with fail
        have hc := list_I b l w hR hb hT hl
        rw [hf] at hc
        refine hc.mono ?_
        rintro e w' ⟨⟨⟨v, rfl, hO⟩, hR'⟩, hg⟩
        obtain ⟨A, c, rfl, _⟩ := hO.form
        go_wp2_with fail
        go_ret
        exact ⟨rfl, hR', hg⟩
      · have t2 : (k == 2) = false := by rw [beq_eq_false_iff_ne]; exact h2
        have hf : l.bind (rdList rdText) = none := by unfold fails at hf; rwa [if_neg h0, if_neg h1, if_neg h2] at hf
        clear h0 h1 h2
        go_enter Tryd.func36, Tryd.ntmps36
        go_wp2_with fail
        have hc := list_T b l w hR hb hT hl
        rw [hf] at hc
        refine hc.mono ?_
        rintro e w' ⟨⟨⟨v, rfl, hO⟩, hR'⟩, hg⟩
        obtain ⟨A, c, rfl, _⟩ := hO.form
        go_wp2_with fail
        go_ret
        exact ⟨rfl, hR', hg⟩

theorem malformed_any (s : List UInt8) (hs : s.length < 1000) (hf : ∀ k, fails k (some s)) (w : World) (hT : Tabs w) :
    Calls Tryd.prog 37 #[.string ⟨s.toArray⟩] w fun e w' => e = .returned (.bool true) ∧ Ext w w' := by
  go_enter Tryd.func37, Tryd.ntmps37
  go_wp2_with fail
  go_loopw [3] (fun i wr => ∃ k : Nat, k ≤ 4 ∧ i = .int .i64 k ∧ Ext w wr) (fun i _ => 4 - (intOf i).toNat)
  case atStart => exact ⟨0, Nat.zero_le _, rfl, Ext.refl _⟩
  case round =>
    obtain ⟨k, hk, rfl, hE⟩ := hrel
    by_cases hlt : k < 4
    · have hTr := hT.ext hE
      have t4 : decide ((k : Int) < 4) = true := by simp; omega
      go_wp2_with fail
      refine (new_any ⟨s.toArray⟩ wr).mono ?_
      rintro e w1 ⟨rfl, hR1, hE1⟩
      have hR1 : Rd w1 wr.heap.size (some s) := hR1
      have h4 := hTr.sz
      go_wp2_with fail
      refine (decodes_none k wr.heap.size (some s) w1 hR1 h4 (hTr.ext hE1) (by simp only [Option.getD_some]; omega) (hf k)).mono ?_
      rintro e w2 ⟨rfl, hR2, hg2⟩
      have hE2 : Ext wr w2 := ext_own hE1 hg2 (Nat.le_refl _)
      go_wp2_with fail
      refine (bad_any _ none w2 hR2).mono ?_
      rintro e w3 ⟨rfl, rfl⟩
      go_wp2_with fail
      refine (left_any _ none w3 hR2).mono ?_
      rintro e w4 ⟨rfl, rfl⟩
      go_wp2_with fail
      go_roundw
      case rel => exact ⟨k + 1, by omega, by go_num, hE.trans hE2⟩
      case measure => simp [intOf]; omega
    · obtain rfl : k = 4 := by omega
      go_wp2_with fail
      go_ret
      exact ⟨rfl, hE⟩
end Go.Proofs.YthdbdpfgccipdaaDoor
