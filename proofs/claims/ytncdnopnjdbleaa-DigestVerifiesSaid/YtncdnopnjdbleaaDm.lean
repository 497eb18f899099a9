/- The contract of Other.change, and the statement DigestMarks: at every input the call returns true and its arguments read as they did. No condition. -/
import Derived.Test.YtncdnopnjdbleaaDr
import Derived.Test.YtncdnopnjdbleaaDk
namespace Go.Proofs.Ytncdnopnjdbleaa
open Go.RowKit Hach
open Go.ChangeShapes Go.WideShapes Go.ChangeAt

/- a byte of a string changed -/
def chg (n c : Nat) (s : ByteArray) : ByteArray := if s.size = 0 then s else set1 s (n % s.size) (UInt8.ofNat c)
theorem chg_size (n c : Nat) (s : ByteArray) : (chg n c s).size = s.size := by
  unfold chg
  split
  · rfl
  · exact set1_size (Nat.mod_lt _ (by omega))
def othv (q : ByteArray) (n c : Nat) : Value := .agg #[.string q, .int .u8 (n : Nat), .int .u8 (c : Nat)]

set_option maxHeartbeats 400000 in
theorem change_any (q : ByteArray) (n c : Nat) (s : ByteArray) (w : World) (hn : n < 256) (hc : c < 256) (hs : s.size < 4294967296) :
    Calls Try.prog 17 #[.agg #[.string q, .int .u8 (n : Nat), .int .u8 (c : Nat)], .string s] w fun e w' => e = .returned (.string (chg n c s)) ∧ Below w.heap.size w w' := by
  by_cases h : s.size = 0
  · have t : ((s.size : Int) == 0) = true := by rw [h]; rfl
    have H0 := Lib.hid h
    clear h
    go_enter Try.func17, Try.ntmps17
    go_wp2_with fail
    go_ret
    exact ⟨by rw [chg, if_pos H0.out]; rfl, below_alloc _ _⟩
  · have t : ((s.size : Int) == 0) = false := by rw [beq_eq_false_iff_ne]; omega
    have h0 : 0 < s.size := by omega
    obtain ⟨k, hk⟩ : ∃ k, n % s.size = k := ⟨_, rfl⟩
    have hks : k < s.size := by rw [← hk]; exact Nat.mod_lt _ h0
    have hkk : (n : Int) % (s.size : Int) = k := by rw [← hk]; rfl
    have hkt : (n : Int).tmod (s.size : Int) = k := by rw [← hk]; rfl
    have HK := Lib.hid hk
    have H0 := Lib.hid h
    obtain ⟨y, hy⟩ : ∃ y : UInt8, UInt8.ofNat c = y := ⟨_, rfl⟩
    have hyc : (c : Int) = ((y.toNat : Nat) : Int) := by rw [← hy, UInt8.toNat_ofNat_of_lt' (by show c < 256; exact hc)]
    have HY := Lib.hid hy
    have HC := Lib.hid hyc
    clear hk h hy hyc
    go_enter Try.func17, Try.ntmps17
    go_wp2_with fail
    obtain ⟨w1, hw1⟩ : ∃ w1, w.alloc (.cells #[.string q, .int .u8 (n : Nat), .int .u8 (c : Nat)] 27) = w1 := ⟨_, rfl⟩
    have cc : w1.cell? ⟨w.heap.size, 2, none⟩ = some (.int .u8 (y.toNat : Nat)) := by rw [← hw1, World.cell?_alloc_new, HC.out.symm]; rfl
    have hbl : w.heap.size < w1.heap.size := by rw [← hw1]; simp
    have hE1 : Ext w w1 := by rw [← hw1]; exact Ext.alloc _ _
    rw [hw1]
    apply wp_region_seq (l := [_, _, _, _, _, _, _, _, _, _, _, _]) (t := [_, _]) [some 16, some 17, some 18, some 19, some 20, some 21, some 22, some 23, some 24, some 25, some 26, some 27, some 28, some 4] [[], [], [0, 1], [], [3], [4], [5], [2, 6], [], [], [9], [8, 10], [7, 11], [12]] [2, 2, 7, 4, 5, 6, 7, 12, 11, 10, 11, 12] [eqv _, eqv _, eqv _, eqv _, eqv _, (slBytes [y]), (eqv (.string ⟨#[y]⟩)), eqv _, eqv _, eqv _, eqv _, eqv _] (by kernel_rfl) (by kernel_rfl) ⟨?o0, ?o1, ?o2, ?o3, ?o4, ?o5, ?o6, ?o7, ?o8, ?o9, ?o10, ?o11, trivial⟩ ?last
    case o0 => -- Op.move (Operand.tmp 1)
      intro xv W hE _
      simp only [putD, List.foldl_nil, List.getD_cons_zero]
      refine OpGoal.plain ?_
      go_wp2_with fail
      exact ⟨rfl, Ext.refl _, rfl⟩
    case o1 => -- Op.move (Operand.tmp 5)
      intro xv W hE _
      simp only [putD, List.foldl_nil, List.getD_cons_zero, List.getD_cons_succ]
      refine OpGoal.plain ?_
      go_wp2_with fail
      exact ⟨rfl, Ext.refl _, rfl⟩
    case o2 => -- Op.slice 9 (Operand.tmp 16) none (some (Operand.tmp 17)) none
      intro xv W hE hp
      have r0 : xv 0 = _ := hp.1
      have r1 : xv 1 = _ := hp.2.1
      clear hp
      simp only [putD, List.foldl_nil, List.foldl_cons, List.getD_cons_zero, List.getD_cons_succ, Act.put, List.setIfInBounds_toArray, List.set_cons_zero, List.set_cons_succ]
      refine OpGoal.plain ?_
      go_wp2_with fail
      exact ⟨rfl, Ext.refl _, rfl⟩
    case o3 => -- Op.fieldAddr 27 (Operand.tmp 2) 2
      intro xv W hE _
      simp only [putD, List.foldl_nil, List.getD_cons_zero, List.getD_cons_succ]
      refine OpGoal.plain ?_
      go_wp2_with fail
      exact ⟨rfl, Ext.refl _, rfl⟩
    case o4 => -- Op.load 5 (Operand.tmp 19)
      intro xv W hE hp
      have r3 : xv 3 = _ := hp.1
      clear hp
      have ccW : W.cell? ⟨w.heap.size, 2, none⟩ = some (.int .u8 (y.toNat : Nat)) := (hE.old (p := ⟨w.heap.size, 2, none⟩) hbl).trans cc
      simp only [putD, List.foldl_nil, List.foldl_cons, List.getD_cons_zero, List.getD_cons_succ, Act.put, List.setIfInBounds_toArray, List.set_cons_zero, List.set_cons_succ]
      refine OpGoal.plain ?_
      go_wp2_with fail
      exact ⟨rfl, Ext.refl _, rfl⟩
    case o5 => -- Op.buildSlice 32 1 #[(0, Operand.tmp 20)]
      intro xv W hE hp
      have r4 : xv 4 = _ := hp.1
      clear hp
      simp only [putD, List.foldl_nil, List.foldl_cons, List.getD_cons_zero, List.getD_cons_succ, Act.put, List.setIfInBounds_toArray, List.set_cons_zero, List.set_cons_succ]
      refine OpGoal.plain ?_
      go_wp2_with fail
      refine ⟨rfl, Ext.alloc _ _, W.heap.size, 1, rfl, by simp, fun j hj => ?_⟩
      obtain rfl : j = 0 := by simpa using hj
      simp
    case o6 => -- Op.convert 32 9 (Operand.tmp 21)
      intro xv W hE hp
      obtain ⟨g, cap, r5, hg⟩ := hp.1
      clear hp
      have q0 := hg.2 0 (by simp)
      simp only [List.getElem_cons_zero] at q0
      have hcv := byte_text q0 cap
      simp only [putD, List.foldl_nil, List.foldl_cons, List.getD_cons_zero, List.getD_cons_succ, Act.put, List.setIfInBounds_toArray, List.set_cons_zero, List.set_cons_succ]
      refine OpGoal.plain ?_
      go_wp2_with fail
      exact ⟨rfl, Ext.refl _, rfl⟩
    case o7 => -- Op.binOp BinOp.add 9 (Operand.tmp 18) (Operand.tmp 22) 9
      intro xv W hE hp
      have r2 : xv 2 = _ := hp.1
      have r6 : xv 6 = _ := hp.2.1
      clear hp
      simp only [putD, List.foldl_nil, List.foldl_cons, List.getD_cons_zero, List.getD_cons_succ, Act.put, List.setIfInBounds_toArray, List.set_cons_zero, List.set_cons_succ]
      refine OpGoal.plain ?_
      go_wp2_with fail
      exact ⟨rfl, Ext.refl _, rfl⟩
    case o8 => -- Op.move (Operand.tmp 1)
      intro xv W hE _
      simp only [putD, List.foldl_nil, List.getD_cons_zero, List.getD_cons_succ]
      refine OpGoal.plain ?_
      go_wp2_with fail
      exact ⟨rfl, Ext.refl _, rfl⟩
    case o9 => -- Op.move (Operand.tmp 5)
      intro xv W hE _
      simp only [putD, List.foldl_nil, List.getD_cons_zero, List.getD_cons_succ]
      refine OpGoal.plain ?_
      go_wp2_with fail
      exact ⟨rfl, Ext.refl _, rfl⟩
    case o10 => -- Op.binOp BinOp.add 3 (Operand.tmp 25) (Operand.const (Value.int IntKind.i64 1)) 
      intro xv W hE hp
      have r9 : xv 9 = _ := hp.1
      clear hp
      simp only [putD, List.foldl_nil, List.foldl_cons, List.getD_cons_zero, List.getD_cons_succ, Act.put, List.setIfInBounds_toArray, List.set_cons_zero, List.set_cons_succ]
      refine OpGoal.plain ?_
      go_wp2_with fail
      exact ⟨rfl, Ext.refl _, rfl⟩
    case o11 => -- Op.slice 9 (Operand.tmp 24) (some (Operand.tmp 26)) none none
      intro xv W hE hp
      have r8 : xv 8 = _ := hp.1
      have r10 : xv 10 = _ := hp.2.1
      clear hp
      simp only [putD, List.foldl_nil, List.foldl_cons, List.getD_cons_zero, List.getD_cons_succ, Act.put, List.setIfInBounds_toArray, List.set_cons_zero, List.set_cons_succ]
      refine OpGoal.plain ?_
      go_wp2_with fail
      exact ⟨rfl, Ext.refl _, rfl⟩
    case last =>
      intro xv W hE hp
      have r0 : xv 0 = _ := hp.1
      have r1 : xv 1 = _ := hp.2.1
      have r2 : xv 2 = _ := hp.2.2.1
      have r3 : xv 3 = _ := hp.2.2.2.1
      have r4 : xv 4 = _ := hp.2.2.2.2.1
      obtain ⟨g, cap, r5, hg⟩ := hp.2.2.2.2.2.1
      have r6 : xv 6 = _ := hp.2.2.2.2.2.2.1
      have r7 : xv 7 = _ := hp.2.2.2.2.2.2.2.1
      have r8 : xv 8 = _ := hp.2.2.2.2.2.2.2.2.1
      have r9 : xv 9 = _ := hp.2.2.2.2.2.2.2.2.2.1
      have r10 : xv 10 = _ := hp.2.2.2.2.2.2.2.2.2.2.1
      have r11 : xv 11 = _ := hp.2.2.2.2.2.2.2.2.2.2.2.1
      clear hp
      simp only [putD, List.foldl_nil, List.foldl_cons, List.getD_cons_zero, List.getD_cons_succ, Act.put, List.length_cons, List.length_nil, List.range_succ, List.range_zero, List.nil_append, List.cons_append, List.setIfInBounds_toArray, List.set_cons_zero, List.set_cons_succ]
      go_wp2_with fail
      go_ret
      refine ⟨?_, hE1.trans ((Ext.drew w1).trans hE)⟩
      rw [chg, if_neg H0.out, HK.out, HY.out]
      rfl
def cut20 (s : ByteArray) : ByteArray := s.extract 0 (min s.size 20)
theorem cut20_size (s : ByteArray) : (cut20 s).size < 21 := by unfold cut20; rw [ByteArray.size_extract]; omega

set_option maxHeartbeats 1000000 in
theorem DigestMarks_any (a b q : ByteArray) (n c : Nat) (w : World) (ha : a.size ≤ maxLen) (hb : b.size ≤ maxLen) (hq : q.size ≤ maxLen) (hn : n < 256) (hc : c < 256) :
    Calls Try.prog 4 #[.string a, .string b, .agg #[.string q, .int .u8 (n : Nat), .int .u8 (c : Nat)]] w fun e w' => e = .returned (.bool true) ∧ Below w.heap.size w w' := by
  have ka := cut200_size a
  have kb := cut200_size b
  have kq := cut20_size q
  have hq' : q.size < 9223372036854775808 := by simp only [maxLen] at hq; omega
  clear hq
  have hcut : q.extract 0 (min (q.size : Int) 20).toNat = cut20 q := by
    unfold cut20
    rw [show (min (q.size : Int) 20).toNat = min q.size 20 by omega]
  go_enter Try.func4, Try.ntmps4
  go_wp2_with fail
  refine (sanity_any _).mono ?_
  rintro e w1 ⟨rfl, hb1⟩
  have hE1 : Ext w w1 := (Ext.alloc _ _).trans hb1
  have cq : w1.cell? ⟨w.heap.size, 0, none⟩ = some (.string q) := (hb1.cell (p := ⟨w.heap.size, 0, none⟩) (by simp)).trans (by rw [World.cell?_alloc_new]; rfl)
  have cn : w1.cell? ⟨w.heap.size, 1, none⟩ = some (.int .u8 (n : Nat)) := (hb1.cell (p := ⟨w.heap.size, 1, none⟩) (by simp)).trans (by rw [World.cell?_alloc_new]; rfl)
  have cc : w1.cell? ⟨w.heap.size, 2, none⟩ = some (.int .u8 (c : Nat)) := (hb1.cell (p := ⟨w.heap.size, 2, none⟩) (by simp)).trans (by rw [World.cell?_alloc_new]; rfl)
  have hlt : w.heap.size < w1.heap.size := by have := Below.size hb1; simp at this; omega
  go_wp2_with fail
  refine (cut_any a _ ha).mono ?_
  rintro e w' ⟨rfl, rfl⟩
  go_wp2_with fail
  refine (cut_any b _ hb).mono ?_
  rintro e w' ⟨rfl, rfl⟩
  generalize cut200 a = a at ka
  generalize cut200 b = b at kb
  go_wp2_with fail
  refine (rMark_any _ _ _ (by omega) (by omega)).mono ?_
  rintro e w2 ⟨rfl, hb2⟩
  have cq2 : w2.cell? ⟨w.heap.size, 0, none⟩ = some (.string q) := (hb2.cell (p := ⟨w.heap.size, 0, none⟩) hlt).trans cq
  have cn2 : w2.cell? ⟨w.heap.size, 1, none⟩ = some (.int .u8 (n : Nat)) := (hb2.cell (p := ⟨w.heap.size, 1, none⟩) hlt).trans cn
  have cc2 : w2.cell? ⟨w.heap.size, 2, none⟩ = some (.int .u8 (c : Nat)) := (hb2.cell (p := ⟨w.heap.size, 2, none⟩) hlt).trans cc
  have hlt2 : w.heap.size < w2.heap.size := by have := Below.size hb2; omega
  have hmk := mrk_size a b
  obtain ⟨mk, hm⟩ : ∃ x, mrk a b = x := ⟨_, rfl⟩
  have HM := Lib.hid hm
  rw [hm] at hmk ⊢
  clear hm
  generalize cut20 q = raw at hcut kq
  have hsz : mk.size < 9 := by omega
  have h8 : (n : Int) % (mk.size : Int) = ((n % 8 : Nat) : Int) := by rw [hmk]; rfl
  have h8t : (n : Int).tmod (mk.size : Int) = ((n % 8 : Nat) : Int) := by rw [hmk]; rfl
  obtain ⟨k8, hk8⟩ : ∃ k, n % 8 = k := ⟨_, rfl⟩
  rw [hk8] at h8 h8t
  have hk9 : k8 ≤ mk.size := by omega
  have t8 : ((mk.size : Int) == 0) = false := by rw [beq_eq_false_iff_ne]; omega
  have h0 : 0 < mk.size := by omega
  have HK := Lib.hid hmk
  clear hmk hk8
  go_wp2_with fail
  apply wp_region_seq (l := [_, _, _, _, _, _, _, _, _, _, _, _, _, _, _, _, _, _, _, _, _, _]) (t := []) [some 27, some 28, some 29, some 30, some 31, some 32, some 33, some 34, some 35, some 36, some 37, some 38, some 39, some 40, some 41, some 42, some 43, some 44, some 45, some 46, some 47, some 48] [[], [], [], [1, 2], [], [], [], [6], [7], [], [9], [8, 10], [5, 11], [], [], [13, 14], [], [], [16, 17], [0, 3, 4, 12, 15, 18], [19], []] [] [eqv _, eqv _, eqv _, (eqv (.string (chg n c mk))), eqv _, eqv _, eqv _, eqv _, eqv _, eqv _, eqv _, eqv _, eqv _, eqv _, eqv _, (eqv (.string (mrk b a))), eqv _, eqv _, (eqv (.string (mrk raw b))), (slStrs [mk, chg n c mk, raw, mk.extract 0 k8, mrk b a, mrk raw b]), eqv _, eqv _] (by kernel_rfl) (by kernel_rfl) ⟨?o0, ?o1, ?o2, ?o3, ?o4, ?o5, ?o6, ?o7, ?o8, ?o9, ?o10, ?o11, ?o12, ?o13, ?o14, ?o15, ?o16, ?o17, ?o18, ?o19, ?o20, ?o21, trivial⟩ ?last
  case o0 => -- Op.move (Operand.tmp 8)
    intro xv W hE _
    simp only [putD, List.foldl_nil, List.getD_cons_zero]
    refine OpGoal.plain ?_
    go_wp2_with fail
    exact ⟨rfl, Ext.refl _, rfl⟩
  case o1 => -- Op.load 27 (Operand.tmp 5)
    intro xv W hE _
    have cqW : W.cell? ⟨w.heap.size, 0, none⟩ = some (.string q) := (hE.old (p := ⟨w.heap.size, 0, none⟩) hlt2).trans cq2
    have cnW : W.cell? ⟨w.heap.size, 1, none⟩ = some (.int .u8 (n : Nat)) := (hE.old (p := ⟨w.heap.size, 1, none⟩) hlt2).trans cn2
    have ccW : W.cell? ⟨w.heap.size, 2, none⟩ = some (.int .u8 (c : Nat)) := (hE.old (p := ⟨w.heap.size, 2, none⟩) hlt2).trans cc2
    simp only [putD, List.foldl_nil, List.getD_cons_zero, List.getD_cons_succ]
    refine OpGoal.plain ?_
    go_wp2_with fail
    exact ⟨rfl, Ext.refl _, rfl⟩
  case o2 => -- Op.move (Operand.tmp 8)
    intro xv W hE _
    simp only [putD, List.foldl_nil, List.getD_cons_zero, List.getD_cons_succ]
    refine OpGoal.plain ?_
    go_wp2_with fail
    exact ⟨rfl, Ext.refl _, rfl⟩
  case o3 => -- Op.call { callee := Callee.value (Operand.func 17), args := #[Operand.tmp 28, Op
    intro xv W hE hp
    have r1 : xv 1 = _ := hp.1
    have r2 : xv 2 = _ := hp.2.1
    clear hp
    simp only [putD, List.foldl_nil, List.foldl_cons, List.getD_cons_zero, List.getD_cons_succ, Act.put, List.setIfInBounds_toArray, List.set_cons_zero, List.set_cons_succ]
    refine OpGoal.plain ?_
    go_wp2_with fail
    refine (change_any q n c mk W hn hc (by omega)).mono ?_
    rintro e w' ⟨rfl, hb⟩
    go_wp2_with fail
    exact ⟨rfl, hb, rfl⟩
  case o4 => -- Op.move (Operand.tmp 9)
    intro xv W hE _
    simp only [putD, List.foldl_nil, List.getD_cons_zero, List.getD_cons_succ]
    refine OpGoal.plain ?_
    go_wp2_with fail
    exact ⟨rfl, Ext.refl _, rfl⟩
  case o5 => -- Op.move (Operand.tmp 8)
    intro xv W hE _
    simp only [putD, List.foldl_nil, List.getD_cons_zero, List.getD_cons_succ]
    refine OpGoal.plain ?_
    go_wp2_with fail
    exact ⟨rfl, Ext.refl _, rfl⟩
  case o6 => -- Op.fieldAddr 27 (Operand.tmp 5) 1
    intro xv W hE _
    simp only [putD, List.foldl_nil, List.getD_cons_zero, List.getD_cons_succ]
    refine OpGoal.plain ?_
    go_wp2_with fail
    exact ⟨rfl, Ext.refl _, rfl⟩
  case o7 => -- Op.load 5 (Operand.tmp 33)
    intro xv W hE hp
    have r6 : xv 6 = _ := hp.1
    clear hp
    have cqW : W.cell? ⟨w.heap.size, 0, none⟩ = some (.string q) := (hE.old (p := ⟨w.heap.size, 0, none⟩) hlt2).trans cq2
    have cnW : W.cell? ⟨w.heap.size, 1, none⟩ = some (.int .u8 (n : Nat)) := (hE.old (p := ⟨w.heap.size, 1, none⟩) hlt2).trans cn2
    have ccW : W.cell? ⟨w.heap.size, 2, none⟩ = some (.int .u8 (c : Nat)) := (hE.old (p := ⟨w.heap.size, 2, none⟩) hlt2).trans cc2
    simp only [putD, List.foldl_nil, List.foldl_cons, List.getD_cons_zero, List.getD_cons_succ, Act.put, List.setIfInBounds_toArray, List.set_cons_zero, List.set_cons_succ]
    refine OpGoal.plain ?_
    go_wp2_with fail
    exact ⟨rfl, Ext.refl _, rfl⟩
  case o8 => -- Op.convert 5 3 (Operand.tmp 34)
    intro xv W hE hp
    have r7 : xv 7 = _ := hp.1
    clear hp
    simp only [putD, List.foldl_nil, List.foldl_cons, List.getD_cons_zero, List.getD_cons_succ, Act.put, List.setIfInBounds_toArray, List.set_cons_zero, List.set_cons_succ]
    refine OpGoal.plain ?_
    go_wp2_with fail
    exact ⟨rfl, Ext.refl _, rfl⟩
  case o9 => -- Op.move (Operand.tmp 8)
    intro xv W hE _
    simp only [putD, List.foldl_nil, List.getD_cons_zero, List.getD_cons_succ]
    refine OpGoal.plain ?_
    go_wp2_with fail
    exact ⟨rfl, Ext.refl _, rfl⟩
  case o10 => -- Op.call { callee := Callee.builtin Builtin.len, args := #[Operand.tmp 36], argTy
    intro xv W hE hp
    have r9 : xv 9 = _ := hp.1
    clear hp
    simp only [putD, List.foldl_nil, List.foldl_cons, List.getD_cons_zero, List.getD_cons_succ, Act.put, List.setIfInBounds_toArray, List.set_cons_zero, List.set_cons_succ]
    refine OpGoal.plain ?_
    go_wp2_with fail
    exact ⟨rfl, Ext.refl _, rfl⟩
  case o11 => -- Op.binOp BinOp.rem 3 (Operand.tmp 35) (Operand.tmp 37) 3
    intro xv W hE hp
    have r8 : xv 8 = _ := hp.1
    have r10 : xv 10 = _ := hp.2.1
    clear hp
    simp only [putD, List.foldl_nil, List.foldl_cons, List.getD_cons_zero, List.getD_cons_succ, Act.put, List.setIfInBounds_toArray, List.set_cons_zero, List.set_cons_succ]
    refine OpGoal.plain ?_
    go_wp2_with fail
    exact ⟨rfl, Ext.refl _, rfl⟩
  case o12 => -- Op.slice 9 (Operand.tmp 32) none (some (Operand.tmp 38)) none
    intro xv W hE hp
    have r5 : xv 5 = _ := hp.1
    have r11 : xv 11 = _ := hp.2.1
    clear hp
    simp only [putD, List.foldl_nil, List.foldl_cons, List.getD_cons_zero, List.getD_cons_succ, Act.put, List.setIfInBounds_toArray, List.set_cons_zero, List.set_cons_succ]
    refine OpGoal.plain ?_
    go_wp2_with fail
    exact ⟨rfl, Ext.refl _, rfl⟩
  case o13 => -- Op.move (Operand.tmp 1)
    intro xv W hE _
    simp only [putD, List.foldl_nil, List.getD_cons_zero, List.getD_cons_succ]
    refine OpGoal.plain ?_
    go_wp2_with fail
    exact ⟨rfl, Ext.refl _, rfl⟩
  case o14 => -- Op.move (Operand.tmp 0)
    intro xv W hE _
    simp only [putD, List.foldl_nil, List.getD_cons_zero, List.getD_cons_succ]
    refine OpGoal.plain ?_
    go_wp2_with fail
    exact ⟨rfl, Ext.refl _, rfl⟩
  case o15 => -- Op.call { callee := Callee.value (Operand.func 16), args := #[Operand.tmp 40, Op
    intro xv W hE hp
    have r13 : xv 13 = _ := hp.1
    have r14 : xv 14 = _ := hp.2.1
    clear hp
    simp only [putD, List.foldl_nil, List.foldl_cons, List.getD_cons_zero, List.getD_cons_succ, Act.put, List.setIfInBounds_toArray, List.set_cons_zero, List.set_cons_succ]
    refine OpGoal.plain ?_
    go_wp2_with fail
    refine (rMark_any _ _ W (by omega) (by omega)).mono ?_
    rintro e w' ⟨rfl, hb⟩
    go_wp2_with fail
    exact ⟨rfl, hb, rfl⟩
  case o16 => -- Op.move (Operand.tmp 9)
    intro xv W hE _
    simp only [putD, List.foldl_nil, List.getD_cons_zero, List.getD_cons_succ]
    refine OpGoal.plain ?_
    go_wp2_with fail
    exact ⟨rfl, Ext.refl _, rfl⟩
  case o17 => -- Op.move (Operand.tmp 1)
    intro xv W hE _
    simp only [putD, List.foldl_nil, List.getD_cons_zero, List.getD_cons_succ]
    refine OpGoal.plain ?_
    go_wp2_with fail
    exact ⟨rfl, Ext.refl _, rfl⟩
  case o18 => -- Op.call { callee := Callee.value (Operand.func 16), args := #[Operand.tmp 43, Op
    intro xv W hE hp
    have r16 : xv 16 = _ := hp.1
    have r17 : xv 17 = _ := hp.2.1
    clear hp
    simp only [putD, List.foldl_nil, List.foldl_cons, List.getD_cons_zero, List.getD_cons_succ, Act.put, List.setIfInBounds_toArray, List.set_cons_zero, List.set_cons_succ]
    refine OpGoal.plain ?_
    go_wp2_with fail
    refine (rMark_any _ _ W (by omega) (by omega)).mono ?_
    rintro e w' ⟨rfl, hb⟩
    go_wp2_with fail
    exact ⟨rfl, hb, rfl⟩
  case o19 => -- Op.buildSlice 28 6 #[(0, Operand.tmp 27), (1, Operand.tmp 30), (2, Operand.tmp 3
    intro xv W hE hp
    have r0 : xv 0 = _ := hp.1
    have r3 : xv 3 = _ := hp.2.1
    have r4 : xv 4 = _ := hp.2.2.1
    have r12 : xv 12 = _ := hp.2.2.2.1
    have r15 : xv 15 = _ := hp.2.2.2.2.1
    have r18 : xv 18 = _ := hp.2.2.2.2.2.1
    clear hp
    simp only [putD, List.foldl_nil, List.foldl_cons, List.getD_cons_zero, List.getD_cons_succ, Act.put, List.setIfInBounds_toArray, List.set_cons_zero, List.set_cons_succ]
    refine OpGoal.plain ?_
    go_wp2_with fail
    refine ⟨rfl, Ext.alloc _ _, W.heap.size, rfl, ?_⟩
    rw [World.size_alloc]
    exact Strs.new W [mk, chg n c mk, raw, mk.extract 0 k8, mrk b a, mrk raw b] _ _ _ rfl
  case o20 => -- Op.call { callee := Callee.builtin Builtin.len, args := #[Operand.tmp 46], argTy
    intro xv W hE hp
    obtain ⟨g, r19, hg⟩ := hp.1
    clear hp
    simp only [putD, List.foldl_nil, List.foldl_cons, List.getD_cons_zero, List.getD_cons_succ, Act.put, List.setIfInBounds_toArray, List.set_cons_zero, List.set_cons_succ]
    refine OpGoal.plain ?_
    go_wp2_with fail
    exact ⟨rfl, Ext.refl _, rfl⟩
  case o21 => -- Op.move (Operand.const (Value.int IntKind.i64 0))
    intro xv W hE _
    simp only [putD, List.foldl_nil, List.getD_cons_zero, List.getD_cons_succ]
    refine OpGoal.plain ?_
    go_wp2_with fail
    exact ⟨rfl, Ext.refl _, rfl⟩
  case last =>
    intro xv W hE hp
    have r0 : xv 0 = _ := hp.1
    have r1 : xv 1 = _ := hp.2.1
    have r2 : xv 2 = _ := hp.2.2.1
    have r3 : xv 3 = _ := hp.2.2.2.1
    have r4 : xv 4 = _ := hp.2.2.2.2.1
    have r5 : xv 5 = _ := hp.2.2.2.2.2.1
    have r6 : xv 6 = _ := hp.2.2.2.2.2.2.1
    have r7 : xv 7 = _ := hp.2.2.2.2.2.2.2.1
    have r8 : xv 8 = _ := hp.2.2.2.2.2.2.2.2.1
    have r9 : xv 9 = _ := hp.2.2.2.2.2.2.2.2.2.1
    have r10 : xv 10 = _ := hp.2.2.2.2.2.2.2.2.2.2.1
    have r11 : xv 11 = _ := hp.2.2.2.2.2.2.2.2.2.2.2.1
    have r12 : xv 12 = _ := hp.2.2.2.2.2.2.2.2.2.2.2.2.1
    have r13 : xv 13 = _ := hp.2.2.2.2.2.2.2.2.2.2.2.2.2.1
    have r14 : xv 14 = _ := hp.2.2.2.2.2.2.2.2.2.2.2.2.2.2.1
    have r15 : xv 15 = _ := hp.2.2.2.2.2.2.2.2.2.2.2.2.2.2.2.1
    have r16 : xv 16 = _ := hp.2.2.2.2.2.2.2.2.2.2.2.2.2.2.2.2.1
    have r17 : xv 17 = _ := hp.2.2.2.2.2.2.2.2.2.2.2.2.2.2.2.2.2.1
    have r18 : xv 18 = _ := hp.2.2.2.2.2.2.2.2.2.2.2.2.2.2.2.2.2.2.1
    obtain ⟨g, r19, hg⟩ := hp.2.2.2.2.2.2.2.2.2.2.2.2.2.2.2.2.2.2.2.1
    have r20 : xv 20 = _ := hp.2.2.2.2.2.2.2.2.2.2.2.2.2.2.2.2.2.2.2.2.1
    have r21 : xv 21 = _ := hp.2.2.2.2.2.2.2.2.2.2.2.2.2.2.2.2.2.2.2.2.2.1
    clear hp
    simp only [putD, List.foldl_nil, List.foldl_cons, List.getD_cons_zero, List.getD_cons_succ, Act.put, List.length_cons, List.length_nil, List.range_succ, List.range_zero, List.nil_append, List.cons_append, List.setIfInBounds_toArray, List.set_cons_zero, List.set_cons_succ]
    have hEW : Ext w W := (hE1.trans hb2).trans ((Ext.drew w2).trans hE)
    generalize hss : ([mk, chg n c mk, raw, mk.extract 0 k8, mrk b a, mrk raw b] : List ByteArray) = ss at hg
    have hsl : ss.length = 6 := by rw [← hss]; rfl
    go_wp2_with fail
    go_loopw [48] (fun i wr => ∃ k : Nat, k ≤ 6 ∧ i = .int .i64 k ∧ Ext W wr) (fun i _ => 6 - (intOf i).toNat)
    case atStart => exact ⟨0, by omega, rfl, Ext.refl _⟩
    case round =>
      obtain ⟨k, hk, rfl, hEr⟩ := hrel
      by_cases hlt6 : k < 6
      · obtain ⟨b3, o3, e3, hbl3, hc3⟩ := hg.at_ (k := k) (by rw [hsl]; exact hlt6)
        simp only [Option.some.injEq, Addr.mk.injEq, and_true] at e3
        obtain ⟨rfl, rfl⟩ := e3
        have hx := hc3 k (by rw [hsl]; exact hlt6)
        rw [Nat.zero_add] at hx
        have hx1 : wr.cell? ⟨g, k, none⟩ = some (.string (ss.getD k ByteArray.empty)) := (hEr.old (p := ⟨g, k, none⟩) hbl3).trans hx
        clear hx hc3
        generalize ss.getD k ByteArray.empty = x at hx1
        have tk : decide ((k : Int) < 6) = true := by simp; omega
        go_wp2_with fail
        refine (Check_any _ _ _ _ (by omega) (by omega)).mono ?_
        rintro e x1 ⟨rfl, kb1⟩
        go_wp2_with fail
        refine (rCheck_any _ _ _ _ (by omega) (by omega)).mono ?_
        rintro e x2 ⟨rfl, kb2⟩
        go_wp2_with fail
        go_roundw
        case rel => exact ⟨k + 1, by omega, by go_num, (hEr.trans kb1).trans kb2⟩
        case measure => simp [intOf]; omega
      · obtain rfl : k = 6 := by omega
        go_wp2_with fail
        refine (Mark_any _ _ _ (by omega) (by omega)).mono ?_
        rintro e x1 ⟨rfl, kb1⟩
        rw [HM.out]
        go_wp2_with fail
        go_ret
        exact ⟨rfl, (hEW.trans hEr).trans kb1⟩

open Go.ChangeMaps (open_string shut_string)
open Go.Joins
set_option maxRecDepth 100000 in
theorem digestMarks_lifted (os : Os) (started : os.Started) (H : Type) (enc : TypeId × Value → H) :
    ReturnsInHanded {} Try.checked os 4 .any (Rows.digestMarksSpec.pre6 enc Try.prog Try.f4 Rows.digestMarksRow.domain false) (Rows.digestMarksSpec.post enc Try.prog Try.f4 false true false false) := by
  refine returnsInHanded_of_change (C := Try.checked) knob started (by kernel_rfl) Try.func4
    (ChangeSpec.witness6 (enc := enc) (C := Try.checked) false ⟨#[], #[.string ByteArray.empty, .string ByteArray.empty, .agg #[.string ByteArray.empty, .int .u8 0, .int .u8 0]], []⟩ 8 (by kernel_rfl) (by kernel_rfl) (by kernel_rfl) (by kernel_rfl)) ?_
  intro W base args ds gs before hval0 hW hcnd _
  have hval : ∀ (j : Nat) t v, Try.f4.params[j]? = some t → args[j]? = some v → Value.okWide Try.prog W .any base t v := hval0
  have hW' := hW
  obtain ⟨p, q, hA0, hV, rfl, hfz, hnd⟩ := hW
  have hA : DataW.TrodAll enc Try.prog W 0 (fun _ => true) true Try.f4.params.toList args.toList ds p := hA0
  rw [Try.params4] at hA hval
  have hAk := hA
  obtain ⟨v0, vs0, d0, ds0, p0, q0, hargs, rfl, hp0, h0, r0⟩ := trodAll_cons hA
  obtain ⟨v1, vs1, d1, ds1, p1, q1, rfl, rfl, hp1, h1, r1⟩ := trodAll_cons r0
  obtain ⟨v2, vs2, d2, ds2, p2, q2, rfl, rfl, hp2, h2, r2⟩ := trodAll_cons r1
  obtain ⟨rfl, rfl, hpn⟩ := trodAll_nil r2
  obtain rfl : args = #[v0, v1, v2] := by cases args; simp_all
  obtain ⟨rfl, rfl⟩ := trodVars_none hV
  obtain ⟨a0, rfl, rfl, _, w0⟩ := open_string Try.underlying9 (hval 0 9 v0 rfl rfl) h0
  obtain ⟨a1, rfl, rfl, _, w1⟩ := open_string Try.underlying9 (hval 1 9 v1 rfl rfl) h1
  obtain ⟨c0, c1, c2, y0, y1, y2, m0, rfl, _, _, hy0, hy1, hy2⟩ := open_agg3 Try.underlying27 (by kernel_rfl) (show Try.prog.cellsOf 27 = 3 by kernel_rfl) (hval 2 27 v2 rfl rfl) h2
  obtain ⟨sq, e0, _, wq⟩ := DataW.trod_string Try.underlying9 hy0
  obtain ⟨nq, e1, _, wn⟩ := DataW.trod_int Try.underlying5 hy1
  obtain ⟨cq, e2, _, wc⟩ := DataW.trod_int Try.underlying5 hy2
  simp only [List.cons.injEq, and_true] at e0 e1 e2
  subst e0 e1 e2
  have bn := bounds_u8 wn
  have bc := bounds_u8 wc
  obtain ⟨nn, rfl⟩ : ∃ k : Nat, nq = k := ⟨nq.toNat, by omega⟩
  obtain ⟨cn, rfl⟩ : ∃ k : Nat, cq = k := ⟨cq.toNat, by omega⟩
  clear hA0 hval0
  simp only [List.append_nil] at hW'
  refine (DigestMarks_any a0 a1 sq nn cn W w0 w1 wq (by omega) (by omega)).mono fun e W' ⟨he, hg⟩ => ?_
  subst he
  exact ⟨_, rfl, _, _, _, [], p, [], hW', trodAll_cons_mk (shut_bool Try.underlying4 _) trodAll_mk0, args_back laid hg _ _ _ _ (by rw [Try.params4]; kernel_rfl) hAk (fun x hx => by simpa using hW'.lt x (by simpa using hx)), rfl, hg.frame _, fun h => by cases h⟩

theorem digestMarks_holds : Rows.DigestMarksSaid :=
  OpenClaim.holds_of_wide 4 Try.f4 rfl rfl rfl rfl rfl rfl rfl ⟨rfl, rfl, rfl, rfl, rfl⟩ rfl rfl rfl rfl rfl (by kernel_rfl) Try.func4 (by kernel_rfl)
    (of_decide_eq_true (by kernel_rfl)) (by unfold Func.isWrapper; first | (rw [if_pos (by decide +kernel)]; kernel_rfl) | (rw [if_neg (by decide +kernel)]; exact ⟨rfl, rfl⟩))
    (fun os started H enc _ => digestMarks_lifted os started H enc)
#print axioms digestMarks_holds
end Go.Proofs.Ytncdnopnjdbleaa
