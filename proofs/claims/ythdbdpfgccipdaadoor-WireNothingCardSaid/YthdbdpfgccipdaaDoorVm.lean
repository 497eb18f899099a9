/- The walk of the statement WireNothing: at every input the call returns true. Readers that are nil. -/
import Derived.Test.YthdbdpfgccipdaaDoorVh
import Derived.ScopeJumps
namespace Go.Proofs.YthdbdpfgccipdaaDoor
open Go.RowKit Hach Num

theorem bad_nil (w : World) : Calls Tryd.prog 34 #[.pointer none] w fun e w' => e = .returned (.bool true) ∧ w' = w := by
  go_enter Tryd.func34, Tryd.ntmps34
  go_wp2_with fail
  go_ret
  exact ⟨rfl, rfl⟩
theorem left_nil (w : World) : Calls Tryd.prog 32 #[.pointer none] w fun e w' => e = .returned (.int .i64 0) ∧ w' = w := by
  go_enter Tryd.func32, Tryd.ntmps32
  go_wp2_with fail
  refine (bad_nil w).mono ?_
  rintro e w' ⟨rfl, rfl⟩
  go_wp2_with fail
  go_ret
  exact ⟨rfl, rfl⟩
theorem fail_nil (w : World) : Calls Tryd.prog 45 #[.pointer none] w fun e w' => e = .returned (.tuple #[]) ∧ w' = w := by
  go_enter Tryd.func45, Tryd.ntmps45
  go_wp2_with fail
  go_end0
  exact ⟨rfl, rfl⟩
theorem number_nil (c : UInt8) (w : World) : Calls Tryd.prog 42 #[.pointer none, .string ⟨#[c]⟩] w fun e w' => e = .returned (.tuple #[.int .i64 0, .bool false]) ∧ w' = w := by
  go_enter Tryd.func42, Tryd.ntmps42
  go_wp2_with fail
  refine wp_scope_jumps 0 (fun a' w' => ∃ u1 u2 u3 u4 u5 u6 u7 u8 u9 u10 u11 u12 u13 u14 u15 u16 u17 u18 u19 u20 u21 u22 u23 u24 u25 u26 u27 u28 u29 u30 u31 u32 u33 u34 u35 u36 u37 u38 u39 u40 : Value, a' = { tmps := #[.pointer none, u1, u2, u3, u4, u5, u6, u7, u8, u9, u10, u11, u12, u13, u14, u15, u16, u17, u18, u19, u20, u21, u22, u23, u24, u25, u26, u27, u28, u29, u30, u31, u32, u33, u34, u35, u36, u37, u38, u39, u40], defers := [] } ∧ w' = w) (fun _ _ => 0) rfl ?first ?pass
  case pass =>
    rintro a' w' ⟨u1, u2, u3, u4, u5, u6, u7, u8, u9, u10, u11, u12, u13, u14, u15, u16, u17, u18, u19, u20, u21, u22, u23, u24, u25, u26, u27, u28, u29, u30, u31, u32, u33, u34, u35, u36, u37, u38, u39, u40, rfl, rfl⟩
    go_wp2_with fail
    refine (fail_nil w').mono ?_
    rintro e w2 ⟨rfl, rfl⟩
    go_wp2_with fail
    simp only [Exit.jump]
    go_ret2
    exact ⟨rfl, rfl⟩
  case first =>
    go_wp2_with fail
    refine (bad_nil w).mono ?_
    rintro e w' ⟨rfl, rfl⟩
    go_wp2_with fail
    go_step3
    refine ⟨rfl, _, _, _, _, _, _, _, _, _, _, _, _, _, _, _, _, _, _, _, _, _, _, _, _, _, _, _, _, _, _, _, _, _, _, _, _, _, _, _, _, rfl, rfl⟩
theorem int_nil (w : World) : Calls Tryd.prog 22 #[.pointer none] w fun e w' => e = .returned (.int .i64 0) ∧ w' = w := by
  go_enter Tryd.func22, Tryd.ntmps22
  go_wp2_with fail
  refine (number_nil 59 w).mono ?_
  rintro e w' ⟨rfl, rfl⟩
  go_wp2_with fail
  go_ret
  exact ⟨rfl, rfl⟩
theorem text_nil (w : World) : Calls Tryd.prog 24 #[.pointer none] w fun e w' => e = .returned (.string ⟨#[]⟩) ∧ w' = w := by
  go_enter Tryd.func24, Tryd.ntmps24
  go_wp2_with fail
  refine (number_nil 58 w).mono ?_
  rintro e w' ⟨rfl, rfl⟩
  go_wp2_with fail
  refine (fail_nil w').mono ?_
  rintro e w2 ⟨rfl, rfl⟩
  go_wp2_with fail
  go_ret
  exact ⟨rfl, rfl⟩
theorem list_nil_I (w : World) : Calls Tryd.prog 27 #[.pointer none] w fun e w' => e = .returned (.slice none 0 0) ∧ w' = w := by
  have key : Calls Tryd.prog 46 #[.pointer none, .func (Fn.func 22) #[.pointer none] #[]] w fun e w' => e = .returned (.slice none 0 0) ∧ w' = w := by
    go_enter Tryd.func46, Tryd.ntmps46
    go_wp2_with fail
    refine (left_nil w).mono ?_
    rintro e w' ⟨rfl, rfl⟩
    go_wp2_with fail
    refine (fail_nil w').mono ?_
    rintro e w2 ⟨rfl, rfl⟩
    go_wp2_with fail
    go_ret
    exact ⟨rfl, rfl⟩
  go_enter Tryd.func27, Tryd.ntmps27
  go_wp2_with fail
  refine key.mono ?_
  rintro e w' ⟨rfl, rfl⟩
  go_wp2_with fail
  go_ret
  exact ⟨rfl, rfl⟩
theorem list_nil_T (w : World) : Calls Tryd.prog 30 #[.pointer none] w fun e w' => e = .returned (.slice none 0 0) ∧ w' = w := by
  have key : Calls Tryd.prog 48 #[.pointer none, .func (Fn.func 24) #[.pointer none] #[]] w fun e w' => e = .returned (.slice none 0 0) ∧ w' = w := by
    go_enter Tryd.func48, Tryd.ntmps48
    go_wp2_with fail
    refine (left_nil w).mono ?_
    rintro e w' ⟨rfl, rfl⟩
    go_wp2_with fail
    refine (fail_nil w').mono ?_
    rintro e w2 ⟨rfl, rfl⟩
    go_wp2_with fail
    go_ret
    exact ⟨rfl, rfl⟩
  go_enter Tryd.func30, Tryd.ntmps30
  go_wp2_with fail
  refine key.mono ?_
  rintro e w' ⟨rfl, rfl⟩
  go_wp2_with fail
  go_ret
  exact ⟨rfl, rfl⟩
theorem decodes_nil (k : Int) (w : World) : Calls Tryd.prog 36 #[.pointer none, .int .i64 k] w fun e w' => e = .returned (.bool true) ∧ w' = w := by
  by_cases h0 : k = 0
  · subst h0
    go_enter Tryd.func36, Tryd.ntmps36
    go_wp2_with fail
    refine (int_nil w).mono ?_
    rintro e w' ⟨rfl, rfl⟩
    go_wp2_with fail
    go_ret
    exact ⟨rfl, rfl⟩
  · by_cases h1 : k = 1
    · subst h1
      have te : ((⟨#[]⟩ : ByteArray).toList == (⟨#[]⟩ : ByteArray).toList) = true := beq_self_eq_true _
      go_enter Tryd.func36, Tryd.ntmps36
      go_wp2_with fail
      refine (text_nil w).mono ?_
      rintro e w' ⟨rfl, rfl⟩
      go_wp2_with fail
      go_ret
      exact ⟨rfl, rfl⟩
    · have t0 : (k == 0) = false := by rw [beq_eq_false_iff_ne]; exact h0
      have t1 : (k == 1) = false := by rw [beq_eq_false_iff_ne]; exact h1
      by_cases h2 : k = 2
      · subst h2
        clear h0 h1
        go_enter Tryd.func36, Tryd.ntmps36
        go_wp2_with fail
        refine (list_nil_I w).mono ?_
        rintro e w' ⟨rfl, rfl⟩
        go_wp2_with fail
        go_ret
        exact ⟨rfl, rfl⟩
      · have t2 : (k == 2) = false := by rw [beq_eq_false_iff_ne]; exact h2
        clear h0 h1 h2
        go_enter Tryd.func36, Tryd.ntmps36
        go_wp2_with fail
        refine (list_nil_T w).mono ?_
        rintro e w' ⟨rfl, rfl⟩
        go_wp2_with fail
        go_ret
        exact ⟨rfl, rfl⟩
theorem fails_empty (k : Int) : fails k (some []) := fails_all rfl rfl (by simp) k

set_option maxHeartbeats 1000000 in
theorem WireNothing_any (c : Nat) (w : World) (hT : Tabs w) (hc : c < 256) :
    Calls Tryd.prog 9 #[.int .u8 (c : Nat)] w fun e w' => e = .returned (.bool true) ∧ Ext w w' := by
  obtain ⟨z, hz⟩ : ∃ z, c % 4 = z := ⟨_, rfl⟩
  have hz4 : z < 4 := by omega
  have e1 : (c : Int) % 4 = z := by rw [← hz]; rfl
  have e2 : (c : Int).tmod 4 = z := by rw [← hz]; rfl
  clear hz
  go_enter Tryd.func9, Tryd.ntmps9
  go_wp2_with fail
  refine (sanity_any w hT).mono ?_
  rintro e w1 ⟨rfl, hE1⟩
  have hT1 := hT.ext hE1
  go_wp2_with fail
  obtain ⟨w2, hw2⟩ : ∃ w2, w1.alloc (.cells #[.string ⟨#[]⟩, .bool false] 53) = w2 := ⟨_, rfl⟩
  have hR2 : Rd w2 w1.heap.size (some []) := by rw [← hw2]; exact heap_alloc_new _ _
  have hE2 : Ext w1 w2 := by rw [← hw2]; exact Ext.alloc _ _
  rw [hw2]
  clear hw2
  refine (new_any ⟨#[]⟩ w2).mono ?_
  rintro e w3 ⟨rfl, hR3, hE3⟩
  have hR3 : Rd w3 w2.heap.size (some []) := hR3
  have hRa := hR2.ext hE3
  have hne : w1.heap.size < w2.heap.size := hR2.lt
  have hne3 : w2.heap.size < w3.heap.size := hR3.lt
  have hb4 : 4 ≤ w1.heap.size := hT1.sz
  have hww : w.heap.size ≤ w1.heap.size := hE1.sz
  have hEw3 := (hE1.trans hE2).trans hE3
  generalize w1.heap.size = b1 at hRa hne hb4 hww hR2
  generalize w2.heap.size = b2 at hR3 hne hne3
  clear hR2
  go_wp2_with fail
  obtain ⟨w4, hw4⟩ : ∃ w4, w3.alloc (.cells #[.pointer none, .pointer (some ⟨b1, 0, none⟩), .pointer (some ⟨b2, 0, none⟩)] 32) = w4 := ⟨_, rfl⟩
  have hE4 : Ext w3 w4 := by rw [← hw4]; exact Ext.alloc _ _
  have hg4 : w4.heap[w3.heap.size]? = some (.cells #[.pointer none, .pointer (some ⟨b1, 0, none⟩), .pointer (some ⟨b2, 0, none⟩)] 32 (0, 0)) := by rw [← hw4]; exact heap_alloc_new _ _
  rw [hw4]
  clear hw4
  have hRa4 := hRa.ext hE4
  have hRb4 := hR3.ext hE4
  have hEw4 := hEw3.trans hE4
  have hg4l : w3.heap.size < w4.heap.size := (Array.getElem?_eq_some_iff.1 hg4).1
  generalize w3.heap.size = g at hg4 hne3 hg4l
  go_loopw [12] (fun i wr => ∃ k : Nat, k ≤ 3 ∧ i = .int .i64 k ∧ Ext w wr ∧ (k ≤ 1 → Rd wr b1 (some [])) ∧ (k ≤ 2 → Rd wr b2 (some [])) ∧ wr.heap[g]? = some (.cells #[.pointer none, .pointer (some ⟨b1, 0, none⟩), .pointer (some ⟨b2, 0, none⟩)] 32 (0, 0))) (fun i _ => 3 - (intOf i).toNat)
  case atStart => exact ⟨0, Nat.zero_le _, rfl, hEw4, fun _ => hRa4, fun _ => hRb4, hg4⟩
  case round =>
    obtain ⟨k, hk, rfl, hE, h1, h2, hg⟩ := hrel
    have q0 : wr.cell? ⟨g, 0, none⟩ = some (.pointer none) := by simp [World.cell?, hg]
    have q1 : wr.cell? ⟨g, 1, none⟩ = some (.pointer (some ⟨b1, 0, none⟩)) := by simp [World.cell?, hg]
    have q2 : wr.cell? ⟨g, 2, none⟩ = some (.pointer (some ⟨b2, 0, none⟩)) := by simp [World.cell?, hg]
    have hTr := hT.ext hE
    match k, hk with
    | 0, _ =>
      have r1 := h1 (by omega)
      have r2 := h2 (by omega)
      clear h1 h2
      go_wp2_with fail
      refine (left_nil wr).mono ?_
      rintro e w5 ⟨rfl, rfl⟩
      go_wp2_with fail
      refine (bad_nil w5).mono ?_
      rintro e w6 ⟨rfl, rfl⟩
      go_wp2_with fail
      refine (decodes_nil z w6).mono ?_
      rintro e w7 ⟨rfl, rfl⟩
      go_wp2_with fail
      refine (bad_nil w7).mono ?_
      rintro e w8 ⟨rfl, rfl⟩
      go_wp2_with fail
      refine (left_nil w8).mono ?_
      rintro e w9 ⟨rfl, rfl⟩
      go_wp2_with fail
      go_roundw
      case rel => exact ⟨1, by omega, rfl, hE, fun _ => r1, fun _ => r2, hg⟩
      case measure => simp [intOf]
    | 1, _ =>
      have r1 := h1 (by omega)
      have r2 := h2 (by omega)
      clear h1 h2
      go_wp2_with fail
      refine (left_any b1 _ wr r1).mono ?_
      rintro e w5 ⟨rfl, rfl⟩
      go_wp2_with fail
      refine (bad_any b1 _ w5 r1).mono ?_
      rintro e w6 ⟨rfl, rfl⟩
      go_wp2_with fail
      refine (decodes_none z b1 _ w6 r1 (by omega) hTr (by decide) (fails_empty z)).mono ?_
      rintro e w7 ⟨rfl, hR7, hg7⟩
      go_wp2_with fail
      refine (bad_any b1 _ w7 hR7).mono ?_
      rintro e w8 ⟨rfl, rfl⟩
      go_wp2_with fail
      refine (left_any b1 _ w8 hR7).mono ?_
      rintro e w9 ⟨rfl, rfl⟩
      go_wp2_with fail
      go_roundw
      case rel => exact ⟨1 + 1, by omega, rfl, ext_own hE hg7 (by omega), fun h => absurd h (by omega), fun _ => r2.own hg7 (by simp; omega), (hg7.block g (Array.getElem?_eq_some_iff.1 hg).1 (by simp; omega)).trans hg⟩
      case measure => simp [intOf]
    | 2, _ =>
      have r1 := h2 (by omega)
      skip
      clear h1 h2
      go_wp2_with fail
      refine (left_any b2 _ wr r1).mono ?_
      rintro e w5 ⟨rfl, rfl⟩
      go_wp2_with fail
      refine (bad_any b2 _ w5 r1).mono ?_
      rintro e w6 ⟨rfl, rfl⟩
      go_wp2_with fail
      refine (decodes_none z b2 _ w6 r1 (by omega) hTr (by decide) (fails_empty z)).mono ?_
      rintro e w7 ⟨rfl, hR7, hg7⟩
      go_wp2_with fail
      refine (bad_any b2 _ w7 hR7).mono ?_
      rintro e w8 ⟨rfl, rfl⟩
      go_wp2_with fail
      refine (left_any b2 _ w8 hR7).mono ?_
      rintro e w9 ⟨rfl, rfl⟩
      go_wp2_with fail
      go_roundw
      case rel => exact ⟨2 + 1, by omega, rfl, ext_own hE hg7 (by omega), fun h => absurd h (by omega), fun h => absurd h (by omega), (hg7.block g (Array.getElem?_eq_some_iff.1 hg).1 (by simp; omega)).trans hg⟩
      case measure => simp [intOf]
    | 3, _ =>
      go_wp2_with fail
      go_ret
      exact ⟨rfl, hE⟩
end Go.Proofs.YthdbdpfgccipdaaDoor
