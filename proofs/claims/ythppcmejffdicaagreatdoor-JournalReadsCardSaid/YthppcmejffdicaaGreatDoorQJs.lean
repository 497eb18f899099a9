/- The contract of the reference's Open. -/
import Derived.Test.YthppcmejffdicaaGreatDoorQB

set_option linter.unusedSimpArgs false
set_option linter.unusedVariables false
namespace Go.Proofs.YthppcmejffdicaaGreatDoor
open Go.RowKit Hach Num Jn

/- what Open comes to -/
def OpenEnd (L D : TypeId) (w : World) (b : Nat) (d : Dk) (e : Ending) (w' : World) : Prop :=
  DkAt D w' b d.open_.2 ∧ KB [b] w w' ∧
  ((d.open_.1 = false ∧ e = .returned (.tuple #[.pointer none, .slice none 0 0])) ∨
   (d.open_.1 = true ∧ ∃ g v, e = .returned (.tuple #[.pointer (some ⟨g, 0, none⟩), v]) ∧ w.heap.size ≤ g ∧ g < w'.heap.size ∧ LgAt L w' g (some b) (recs d.open_.2.text).length false ∧ OwnT w' w.heap.size v (recs d.open_.2.text)))
theorem OwnT.base_ {w : World} {base base' : Nat} {v : Value} {xs : List (List UInt8)} (h : OwnT w base v xs) (hb : base' ≤ base) : OwnT w base' v xs := by
  refine ⟨h.1, ?_⟩
  rcases h.2 with hn | ⟨g, cap, cur, e, hg, r⟩
  · exact .inl hn
  · exact .inr ⟨g, cap, cur, e, Nat.le_trans hb hg, r⟩
theorem recs_count (n : Nat) : ∀ s : List UInt8, s.length ≤ n → (recs s).length ≤ s.length := by
  intro s hs
  have h1 : (recs s).length ≤ (pcs s).1.length := List.length_filterMap_le _ _
  have h2 : ∀ s : List UInt8, (pcs s).1.length ≤ s.length := by
    intro s
    induction s with
    | nil => simp [pcs]
    | cons c s ih =>
      unfold pcs
      split
      · simp only [List.length_cons]; omega
      · split
        · simp
        · rename_i p ps h; rw [h] at ih; simpa using Nat.le_succ_of_le ih
  exact Nat.le_trans h1 (h2 s)

/- the rest of Open: records, and the log -/
set_option maxHeartbeats 1000000 in
theorem openR_any (b : Nat) (d : Dk) (w : World) (hD : DkAt 68 w b d) (hk : DkOk d) (ht : d.text.length < 8388608) :
    Calls Tryz.prog 23 #[.pointer (some ⟨b, 0, none⟩)] w (OpenEnd 75 68 w b d) := by
  obtain ⟨c0, c1, c2, c3, c4⟩ := hD.cell
  cases hoff : d.off with
  | true =>
    rw [hoff] at c2
    have ho : d.open_ = (false, d) := by unfold Dk.open_; rw [hoff]; rfl
    have HO := Lib.hid ho
    clear ho hoff
    go_enter Tryz.func23, Tryz.ntmps23
    go_wp2_with fail
    go_ret2
    unfold OpenEnd
    rw [HO.out]
    exact ⟨hD, KB.refl _ _, .inl ⟨rfl, rfl⟩⟩
  | false =>
    rw [hoff] at c2
    have hz1 := toArr_size d.text
    by_cases he : d.text = []
    · have ho : d.open_ = (true, d) := by unfold Dk.open_; rw [hoff, he]; simp
      have HO := Lib.hid ho
      have h0 : d.text.length = 0 := by rw [he]; rfl
      rw [h0] at hz1
      clear ho hoff he
      have hlt : d.text.length < 16777216 := by omega
      have H0 := Lib.hid h0
      clear h0
      go_enter Tryz.func23, Tryz.ntmps23
      go_wp2_with fail
      apply wp_region_seq (l := [_, _, _, _, _, _, _, _, _, _, _, _, _, _, _, _, _, _, _]) (t := [_]) [some 14, some 15, some 16, some 17, some 18, some 19, some 20, some 21, some 22, some 23, some 24, some 25, some 26, some 27, some 28, some 29, some 30, some 31, some 32, some 33] [[], [0], [1], [2], [3], [4], [5], [6], [6, 7], [6, 8], [6, 9], [6], [6, 11], [6, 12], [6, 13], [6, 14], [6, 15], [6, 10, 16], [6, 17], [6, 18]] [1, 2, 3, 4, 5, 6, 19, 8, 9, 10, 17, 12, 13, 14, 15, 16, 17, 18, 19] [eqv _, eqv _, eqv _, eqv _, eqv _, eqv _, eqv _, eqv _, eqv _, eqv _, eqv _, eqv _, eqv _, eqv _, eqv _, eqv _, eqv _, eqv _, eqv _] (by kernel_rfl) (by kernel_rfl) ⟨?o0, ?o1, ?o2, ?o3, ?o4, ?o5, ?o6, ?o7, ?o8, ?o9, ?o10, ?o11, ?o12, ?o13, ?o14, ?o15, ?o16, ?o17, ?o18, trivial⟩ ?last
      case o0 => -- Op.move (Operand.tmp 0)
        intro xv W hE _
        simp only [putD, List.foldl_nil, List.getD_cons_zero]
        refine OpGoal.plain ?_
        go_wp2_with fail
        exact ⟨rfl, Ext.refl _, rfl⟩
      case o1 => -- Op.nilCheck (Operand.tmp 14)
        intro xv W hE hp
        have r0 : xv 0 = _ := hp.1
        clear hp
        simp only [putD, List.foldl_nil, List.foldl_cons, List.getD_cons_zero, List.getD_cons_succ, Act.put, List.setIfInBounds_toArray, List.set_cons_zero, List.set_cons_succ]
        refine OpGoal.plain ?_
        go_wp2_with fail
        exact ⟨rfl, Ext.refl _, rfl⟩
      case o2 => -- Op.fieldAddr 68 (Operand.tmp 15) 0
        intro xv W hE hp
        have r1 : xv 1 = _ := hp.1
        clear hp
        simp only [putD, List.foldl_nil, List.foldl_cons, List.getD_cons_zero, List.getD_cons_succ, Act.put, List.setIfInBounds_toArray, List.set_cons_zero, List.set_cons_succ]
        refine OpGoal.plain ?_
        go_wp2_with fail
        exact ⟨rfl, Ext.refl _, rfl⟩
      case o3 => -- Op.load 9 (Operand.tmp 16)
        intro xv W hE hp
        have r2 : xv 2 = _ := hp.1
        clear hp
        have k0 := ((Ext.drew w).trans hE).old (p := ⟨b, 0, none⟩) hD.lt |>.trans c0
        simp only [putD, List.foldl_nil, List.foldl_cons, List.getD_cons_zero, List.getD_cons_succ, Act.put, List.setIfInBounds_toArray, List.set_cons_zero, List.set_cons_succ]
        refine OpGoal.plain ?_
        go_wp2_with fail
        exact ⟨rfl, Ext.refl _, rfl⟩
      case o4 => -- Op.call { callee := Callee.builtin Builtin.len, args := #[Operand.tmp 17], argTy
        intro xv W hE hp
        have r3 : xv 3 = _ := hp.1
        clear hp
        simp only [putD, List.foldl_nil, List.foldl_cons, List.getD_cons_zero, List.getD_cons_succ, Act.put, List.setIfInBounds_toArray, List.set_cons_zero, List.set_cons_succ]
        refine OpGoal.plain ?_
        go_wp2_with fail
        exact ⟨rfl, Ext.refl _, rfl⟩
      case o5 => -- Op.binOp BinOp.gtr 3 (Operand.tmp 18) (Operand.const (Value.int IntKind.i64 0)) 
        intro xv W hE hp
        have r4 : xv 4 = _ := hp.1
        clear hp
        simp only [putD, List.foldl_nil, List.foldl_cons, List.getD_cons_zero, List.getD_cons_succ, Act.put, List.setIfInBounds_toArray, List.set_cons_zero, List.set_cons_succ]
        refine OpGoal.plain ?_
        go_wp2_with fail
        exact ⟨rfl, Ext.refl _, rfl⟩
      case o6 => -- Op.move (Operand.tmp 19)
        intro xv W hE hp
        have r5 : xv 5 = _ := hp.1
        clear hp
        simp only [putD, List.foldl_nil, List.foldl_cons, List.getD_cons_zero, List.getD_cons_succ, Act.put, List.setIfInBounds_toArray, List.set_cons_zero, List.set_cons_succ]
        refine OpGoal.plain ?_
        go_wp2_with fail
        exact ⟨rfl, Ext.refl _, rfl⟩
      case o7 => -- Op.move (Operand.tmp 0)  GUARD (6, 'true')
        intro xv W hE hp
        have r6 : xv 6 = _ := hp.1
        clear hp
        simp only [putD, List.foldl_nil, List.foldl_cons, List.getD_cons_zero, List.getD_cons_succ, Act.put, List.setIfInBounds_toArray, List.set_cons_zero, List.set_cons_succ]
        exact OpGoal.no (by simp [yieldD, r6]) ⟨Ext.refl _, rfl⟩
      case o8 => -- Op.nilCheck (Operand.tmp 21)  GUARD (6, 'true')
        intro xv W hE hp
        have r6 : xv 6 = _ := hp.1
        have r7 : xv 7 = _ := hp.2.1
        clear hp
        simp only [putD, List.foldl_nil, List.foldl_cons, List.getD_cons_zero, List.getD_cons_succ, Act.put, List.setIfInBounds_toArray, List.set_cons_zero, List.set_cons_succ]
        exact OpGoal.no (by simp [yieldD, r6]) ⟨Ext.refl _, rfl⟩
      case o9 => -- Op.fieldAddr 68 (Operand.tmp 22) 0  GUARD (6, 'true')
        intro xv W hE hp
        have r6 : xv 6 = _ := hp.1
        have r8 : xv 8 = _ := hp.2.1
        clear hp
        simp only [putD, List.foldl_nil, List.foldl_cons, List.getD_cons_zero, List.getD_cons_succ, Act.put, List.setIfInBounds_toArray, List.set_cons_zero, List.set_cons_succ]
        exact OpGoal.no (by simp [yieldD, r6]) ⟨Ext.refl _, rfl⟩
      case o10 => -- Op.load 9 (Operand.tmp 23)  GUARD (6, 'true')
        intro xv W hE hp
        have r6 : xv 6 = _ := hp.1
        have r9 : xv 9 = _ := hp.2.1
        clear hp
        have k0 := ((Ext.drew w).trans hE).old (p := ⟨b, 0, none⟩) hD.lt |>.trans c0
        simp only [putD, List.foldl_nil, List.foldl_cons, List.getD_cons_zero, List.getD_cons_succ, Act.put, List.setIfInBounds_toArray, List.set_cons_zero, List.set_cons_succ]
        exact OpGoal.no (by simp [yieldD, r6]) ⟨Ext.refl _, rfl⟩
      case o11 => -- Op.move (Operand.tmp 0)  GUARD (6, 'true')
        intro xv W hE hp
        have r6 : xv 6 = _ := hp.1
        clear hp
        simp only [putD, List.foldl_nil, List.foldl_cons, List.getD_cons_zero, List.getD_cons_succ, Act.put, List.setIfInBounds_toArray, List.set_cons_zero, List.set_cons_succ]
        exact OpGoal.no (by simp [yieldD, r6]) ⟨Ext.refl _, rfl⟩
      case o12 => -- Op.nilCheck (Operand.tmp 25)  GUARD (6, 'true')
        intro xv W hE hp
        have r6 : xv 6 = _ := hp.1
        have r11 : xv 11 = _ := hp.2.1
        clear hp
        simp only [putD, List.foldl_nil, List.foldl_cons, List.getD_cons_zero, List.getD_cons_succ, Act.put, List.setIfInBounds_toArray, List.set_cons_zero, List.set_cons_succ]
        exact OpGoal.no (by simp [yieldD, r6]) ⟨Ext.refl _, rfl⟩
      case o13 => -- Op.fieldAddr 68 (Operand.tmp 26) 0  GUARD (6, 'true')
        intro xv W hE hp
        have r6 : xv 6 = _ := hp.1
        have r12 : xv 12 = _ := hp.2.1
        clear hp
        simp only [putD, List.foldl_nil, List.foldl_cons, List.getD_cons_zero, List.getD_cons_succ, Act.put, List.setIfInBounds_toArray, List.set_cons_zero, List.set_cons_succ]
        exact OpGoal.no (by simp [yieldD, r6]) ⟨Ext.refl _, rfl⟩
      case o14 => -- Op.load 9 (Operand.tmp 27)  GUARD (6, 'true')
        intro xv W hE hp
        have r6 : xv 6 = _ := hp.1
        have r13 : xv 13 = _ := hp.2.1
        clear hp
        have k0 := ((Ext.drew w).trans hE).old (p := ⟨b, 0, none⟩) hD.lt |>.trans c0
        simp only [putD, List.foldl_nil, List.foldl_cons, List.getD_cons_zero, List.getD_cons_succ, Act.put, List.setIfInBounds_toArray, List.set_cons_zero, List.set_cons_succ]
        exact OpGoal.no (by simp [yieldD, r6]) ⟨Ext.refl _, rfl⟩
      case o15 => -- Op.call { callee := Callee.builtin Builtin.len, args := #[Operand.tmp 28], argTy
        intro xv W hE hp
        have r6 : xv 6 = _ := hp.1
        have r14 : xv 14 = _ := hp.2.1
        clear hp
        simp only [putD, List.foldl_nil, List.foldl_cons, List.getD_cons_zero, List.getD_cons_succ, Act.put, List.setIfInBounds_toArray, List.set_cons_zero, List.set_cons_succ]
        exact OpGoal.no (by simp [yieldD, r6]) ⟨Ext.refl _, rfl⟩
      case o16 => -- Op.binOp BinOp.sub 3 (Operand.tmp 29) (Operand.const (Value.int IntKind.i64 1)) 
        intro xv W hE hp
        have r6 : xv 6 = _ := hp.1
        have r15 : xv 15 = _ := hp.2.1
        clear hp
        simp only [putD, List.foldl_nil, List.foldl_cons, List.getD_cons_zero, List.getD_cons_succ, Act.put, List.setIfInBounds_toArray, List.set_cons_zero, List.set_cons_succ]
        exact OpGoal.no (by simp [yieldD, r6]) ⟨Ext.refl _, rfl⟩
      case o17 => -- Op.index 9 (Operand.tmp 24) (Operand.tmp 30)  GUARD (6, 'true')
        intro xv W hE hp
        have r6 : xv 6 = _ := hp.1
        have r10 : xv 10 = _ := hp.2.1
        have r16 : xv 16 = _ := hp.2.2.1
        clear hp
        simp only [putD, List.foldl_nil, List.foldl_cons, List.getD_cons_zero, List.getD_cons_succ, Act.put, List.setIfInBounds_toArray, List.set_cons_zero, List.set_cons_succ]
        exact OpGoal.no (by simp [yieldD, r6]) ⟨Ext.refl _, rfl⟩
      case o18 => -- Op.binOp BinOp.neq 5 (Operand.tmp 31) (Operand.const (Value.int IntKind.u8 10)) 
        intro xv W hE hp
        have r6 : xv 6 = _ := hp.1
        have r17 : xv 17 = _ := hp.2.1
        clear hp
        simp only [putD, List.foldl_nil, List.foldl_cons, List.getD_cons_zero, List.getD_cons_succ, Act.put, List.setIfInBounds_toArray, List.set_cons_zero, List.set_cons_succ]
        exact OpGoal.no (by simp [yieldD, r6]) ⟨Ext.refl _, rfl⟩
      case last =>
        intro xv W hE hp
        have r0 : xv 0 = _ := hp.1
        have r1 : xv 1 = _ := hp.2.1
        have r2 : xv 2 = _ := hp.2.2.1
        have r3 : xv 3 = _ := hp.2.2.2.1
        have r4 : xv 4 = _ := hp.2.2.2.2.1
        have r5 : xv 5 = _ := hp.2.2.2.2.2.1
        have r6 : xv 6 = _ := hp.2.2.2.2.2.2.1
        have r7 : xv 7 = _ := hp.2.2.2.2.2.2.2.1
        have r8 : xv 8 = _ := hp.2.2.2.2.2.2.2.2.1
        have r9 : xv 9 = _ := hp.2.2.2.2.2.2.2.2.2.1
        have r10 : xv 10 = _ := hp.2.2.2.2.2.2.2.2.2.2.1
        have r11 : xv 11 = _ := hp.2.2.2.2.2.2.2.2.2.2.2.1
        have r12 : xv 12 = _ := hp.2.2.2.2.2.2.2.2.2.2.2.2.1
        have r13 : xv 13 = _ := hp.2.2.2.2.2.2.2.2.2.2.2.2.2.1
        have r14 : xv 14 = _ := hp.2.2.2.2.2.2.2.2.2.2.2.2.2.2.1
        have r15 : xv 15 = _ := hp.2.2.2.2.2.2.2.2.2.2.2.2.2.2.2.1
        have r16 : xv 16 = _ := hp.2.2.2.2.2.2.2.2.2.2.2.2.2.2.2.2.1
        have r17 : xv 17 = _ := hp.2.2.2.2.2.2.2.2.2.2.2.2.2.2.2.2.2.1
        have r18 : xv 18 = _ := hp.2.2.2.2.2.2.2.2.2.2.2.2.2.2.2.2.2.2.1
        clear hp
        simp only [putD, List.foldl_nil, List.foldl_cons, List.getD_cons_zero, List.getD_cons_succ, Act.put, List.length_cons, List.length_nil, List.range_succ, List.range_zero, List.nil_append, List.cons_append, List.setIfInBounds_toArray, List.set_cons_zero, List.set_cons_succ]
        have hDW := hD.ext ((Ext.drew w).trans hE)
        have hkW : KB [b] w W := KB.ext ((Ext.drew w).trans hE)
        obtain ⟨y0, _, _, _, _⟩ := hDW.cell
        go_wp2_with fail
        refine (recordsR_any d.text hlt W).mono ?_
        rintro e wz ⟨v, rfl, hOz, hEz⟩
        obtain ⟨A, c, rfl, _⟩ := hOz.form
        have hsz := hkW.size
        have hEzz := hEz.sz
        go_wp2_with fail
        go_ret2
        unfold OpenEnd
        rw [HO.out]
        exact ⟨(hDW.ext hEz).ext (Ext.alloc _ _), (hkW.trans (KB.ext hEz)).trans (KB.ext (Ext.alloc _ _)), .inr ⟨rfl, wz.heap.size, _, rfl, by omega, by simp, heap_alloc_new _ _, (hOz.base_ hsz).ext (Ext.alloc _ _)⟩⟩
    · obtain ⟨c, hlast⟩ : ∃ c, d.text.getLast? = some c := by
        match h : d.text.getLast? with
        | none => exact absurd (List.getLast?_eq_none_iff.1 h) he
        | some c => exact ⟨c, rfl⟩
      obtain ⟨a, ha⟩ := List.getLast?_eq_some_iff.1 hlast
      obtain ⟨m, hm⟩ : ∃ m, d.text.length = m + 1 := ⟨a.length, by rw [ha]; simp⟩
      have hb := ba_get d.text m
      have hcm : d.text.getD m 0 = c := by
        have : a.length = m := by rw [ha] at hm; simpa using hm
        rw [ha, ← this]; simp [List.getD]
      rw [hcm] at hb
      rw [hm] at hz1
      have hlt : d.text.length < 16777216 := by omega
      have HM := Lib.hid hm
      have hml : m < 8388608 := by omega
      clear hcm ha hm ht
      by_cases hc : c = 10
      · subst hc
        have ho : d.open_ = (true, d) := by unfold Dk.open_; rw [hoff, hlast]; simp
        have HO := Lib.hid ho
        clear ho hoff he hlast
        go_enter Tryz.func23, Tryz.ntmps23
        go_wp2_with fail
        apply wp_region_seq (l := [_, _, _, _, _, _, _, _, _, _, _, _, _, _, _, _, _, _, _]) (t := [_]) [some 14, some 15, some 16, some 17, some 18, some 19, some 20, some 21, some 22, some 23, some 24, some 25, some 26, some 27, some 28, some 29, some 30, some 31, some 32, some 33] [[], [0], [1], [2], [3], [4], [5], [6], [6, 7], [6, 8], [6, 9], [6], [6, 11], [6, 12], [6, 13], [6, 14], [6, 15], [6, 10, 16], [6, 17], [6, 18]] [1, 2, 3, 4, 5, 6, 19, 8, 9, 10, 17, 12, 13, 14, 15, 16, 17, 18, 19] [eqv _, eqv _, eqv _, eqv _, eqv _, eqv _, eqv _, eqv _, eqv _, eqv _, eqv _, eqv _, eqv _, eqv _, eqv _, eqv _, eqv _, eqv _, eqv _] (by kernel_rfl) (by kernel_rfl) ⟨?o0, ?o1, ?o2, ?o3, ?o4, ?o5, ?o6, ?o7, ?o8, ?o9, ?o10, ?o11, ?o12, ?o13, ?o14, ?o15, ?o16, ?o17, ?o18, trivial⟩ ?last
        case o0 => -- Op.move (Operand.tmp 0)
          intro xv W hE _
          simp only [putD, List.foldl_nil, List.getD_cons_zero]
          refine OpGoal.plain ?_
          go_wp2_with fail
          exact ⟨rfl, Ext.refl _, rfl⟩
        case o1 => -- Op.nilCheck (Operand.tmp 14)
          intro xv W hE hp
          have r0 : xv 0 = _ := hp.1
          clear hp
          simp only [putD, List.foldl_nil, List.foldl_cons, List.getD_cons_zero, List.getD_cons_succ, Act.put, List.setIfInBounds_toArray, List.set_cons_zero, List.set_cons_succ]
          refine OpGoal.plain ?_
          go_wp2_with fail
          exact ⟨rfl, Ext.refl _, rfl⟩
        case o2 => -- Op.fieldAddr 68 (Operand.tmp 15) 0
          intro xv W hE hp
          have r1 : xv 1 = _ := hp.1
          clear hp
          simp only [putD, List.foldl_nil, List.foldl_cons, List.getD_cons_zero, List.getD_cons_succ, Act.put, List.setIfInBounds_toArray, List.set_cons_zero, List.set_cons_succ]
          refine OpGoal.plain ?_
          go_wp2_with fail
          exact ⟨rfl, Ext.refl _, rfl⟩
        case o3 => -- Op.load 9 (Operand.tmp 16)
          intro xv W hE hp
          have r2 : xv 2 = _ := hp.1
          clear hp
          have k0 := ((Ext.drew w).trans hE).old (p := ⟨b, 0, none⟩) hD.lt |>.trans c0
          simp only [putD, List.foldl_nil, List.foldl_cons, List.getD_cons_zero, List.getD_cons_succ, Act.put, List.setIfInBounds_toArray, List.set_cons_zero, List.set_cons_succ]
          refine OpGoal.plain ?_
          go_wp2_with fail
          exact ⟨rfl, Ext.refl _, rfl⟩
        case o4 => -- Op.call { callee := Callee.builtin Builtin.len, args := #[Operand.tmp 17], argTy
          intro xv W hE hp
          have r3 : xv 3 = _ := hp.1
          clear hp
          simp only [putD, List.foldl_nil, List.foldl_cons, List.getD_cons_zero, List.getD_cons_succ, Act.put, List.setIfInBounds_toArray, List.set_cons_zero, List.set_cons_succ]
          refine OpGoal.plain ?_
          go_wp2_with fail
          exact ⟨rfl, Ext.refl _, rfl⟩
        case o5 => -- Op.binOp BinOp.gtr 3 (Operand.tmp 18) (Operand.const (Value.int IntKind.i64 0)) 
          intro xv W hE hp
          have r4 : xv 4 = _ := hp.1
          clear hp
          simp only [putD, List.foldl_nil, List.foldl_cons, List.getD_cons_zero, List.getD_cons_succ, Act.put, List.setIfInBounds_toArray, List.set_cons_zero, List.set_cons_succ]
          refine OpGoal.plain ?_
          go_wp2_with fail
          exact ⟨rfl, Ext.refl _, rfl⟩
        case o6 => -- Op.move (Operand.tmp 19)
          intro xv W hE hp
          have r5 : xv 5 = _ := hp.1
          clear hp
          simp only [putD, List.foldl_nil, List.foldl_cons, List.getD_cons_zero, List.getD_cons_succ, Act.put, List.setIfInBounds_toArray, List.set_cons_zero, List.set_cons_succ]
          refine OpGoal.plain ?_
          go_wp2_with fail
          exact ⟨rfl, Ext.refl _, rfl⟩
        case o7 => -- Op.move (Operand.tmp 0)  GUARD (6, 'true')
          intro xv W hE hp
          have r6 : xv 6 = _ := hp.1
          clear hp
          simp only [putD, List.foldl_nil, List.foldl_cons, List.getD_cons_zero, List.getD_cons_succ, Act.put, List.setIfInBounds_toArray, List.set_cons_zero, List.set_cons_succ]
          refine OpGoal.yes (by simp [yieldD, r6]) ?_
          go_wp2_with fail
          exact ⟨rfl, Ext.refl _, rfl⟩
        case o8 => -- Op.nilCheck (Operand.tmp 21)  GUARD (6, 'true')
          intro xv W hE hp
          have r6 : xv 6 = _ := hp.1
          have r7 : xv 7 = _ := hp.2.1
          clear hp
          simp only [putD, List.foldl_nil, List.foldl_cons, List.getD_cons_zero, List.getD_cons_succ, Act.put, List.setIfInBounds_toArray, List.set_cons_zero, List.set_cons_succ]
          refine OpGoal.yes (by simp [yieldD, r6]) ?_
          go_wp2_with fail
          exact ⟨rfl, Ext.refl _, rfl⟩
        case o9 => -- Op.fieldAddr 68 (Operand.tmp 22) 0  GUARD (6, 'true')
          intro xv W hE hp
          have r6 : xv 6 = _ := hp.1
          have r8 : xv 8 = _ := hp.2.1
          clear hp
          simp only [putD, List.foldl_nil, List.foldl_cons, List.getD_cons_zero, List.getD_cons_succ, Act.put, List.setIfInBounds_toArray, List.set_cons_zero, List.set_cons_succ]
          refine OpGoal.yes (by simp [yieldD, r6]) ?_
          go_wp2_with fail
          exact ⟨rfl, Ext.refl _, rfl⟩
        case o10 => -- Op.load 9 (Operand.tmp 23)  GUARD (6, 'true')
          intro xv W hE hp
          have r6 : xv 6 = _ := hp.1
          have r9 : xv 9 = _ := hp.2.1
          clear hp
          have k0 := ((Ext.drew w).trans hE).old (p := ⟨b, 0, none⟩) hD.lt |>.trans c0
          simp only [putD, List.foldl_nil, List.foldl_cons, List.getD_cons_zero, List.getD_cons_succ, Act.put, List.setIfInBounds_toArray, List.set_cons_zero, List.set_cons_succ]
          refine OpGoal.yes (by simp [yieldD, r6]) ?_
          go_wp2_with fail
          exact ⟨rfl, Ext.refl _, rfl⟩
        case o11 => -- Op.move (Operand.tmp 0)  GUARD (6, 'true')
          intro xv W hE hp
          have r6 : xv 6 = _ := hp.1
          clear hp
          simp only [putD, List.foldl_nil, List.foldl_cons, List.getD_cons_zero, List.getD_cons_succ, Act.put, List.setIfInBounds_toArray, List.set_cons_zero, List.set_cons_succ]
          refine OpGoal.yes (by simp [yieldD, r6]) ?_
          go_wp2_with fail
          exact ⟨rfl, Ext.refl _, rfl⟩
        case o12 => -- Op.nilCheck (Operand.tmp 25)  GUARD (6, 'true')
          intro xv W hE hp
          have r6 : xv 6 = _ := hp.1
          have r11 : xv 11 = _ := hp.2.1
          clear hp
          simp only [putD, List.foldl_nil, List.foldl_cons, List.getD_cons_zero, List.getD_cons_succ, Act.put, List.setIfInBounds_toArray, List.set_cons_zero, List.set_cons_succ]
          refine OpGoal.yes (by simp [yieldD, r6]) ?_
          go_wp2_with fail
          exact ⟨rfl, Ext.refl _, rfl⟩
        case o13 => -- Op.fieldAddr 68 (Operand.tmp 26) 0  GUARD (6, 'true')
          intro xv W hE hp
          have r6 : xv 6 = _ := hp.1
          have r12 : xv 12 = _ := hp.2.1
          clear hp
          simp only [putD, List.foldl_nil, List.foldl_cons, List.getD_cons_zero, List.getD_cons_succ, Act.put, List.setIfInBounds_toArray, List.set_cons_zero, List.set_cons_succ]
          refine OpGoal.yes (by simp [yieldD, r6]) ?_
          go_wp2_with fail
          exact ⟨rfl, Ext.refl _, rfl⟩
        case o14 => -- Op.load 9 (Operand.tmp 27)  GUARD (6, 'true')
          intro xv W hE hp
          have r6 : xv 6 = _ := hp.1
          have r13 : xv 13 = _ := hp.2.1
          clear hp
          have k0 := ((Ext.drew w).trans hE).old (p := ⟨b, 0, none⟩) hD.lt |>.trans c0
          simp only [putD, List.foldl_nil, List.foldl_cons, List.getD_cons_zero, List.getD_cons_succ, Act.put, List.setIfInBounds_toArray, List.set_cons_zero, List.set_cons_succ]
          refine OpGoal.yes (by simp [yieldD, r6]) ?_
          go_wp2_with fail
          exact ⟨rfl, Ext.refl _, rfl⟩
        case o15 => -- Op.call { callee := Callee.builtin Builtin.len, args := #[Operand.tmp 28], argTy
          intro xv W hE hp
          have r6 : xv 6 = _ := hp.1
          have r14 : xv 14 = _ := hp.2.1
          clear hp
          simp only [putD, List.foldl_nil, List.foldl_cons, List.getD_cons_zero, List.getD_cons_succ, Act.put, List.setIfInBounds_toArray, List.set_cons_zero, List.set_cons_succ]
          refine OpGoal.yes (by simp [yieldD, r6]) ?_
          go_wp2_with fail
          exact ⟨rfl, Ext.refl _, rfl⟩
        case o16 => -- Op.binOp BinOp.sub 3 (Operand.tmp 29) (Operand.const (Value.int IntKind.i64 1)) 
          intro xv W hE hp
          have r6 : xv 6 = _ := hp.1
          have r15 : xv 15 = _ := hp.2.1
          clear hp
          simp only [putD, List.foldl_nil, List.foldl_cons, List.getD_cons_zero, List.getD_cons_succ, Act.put, List.setIfInBounds_toArray, List.set_cons_zero, List.set_cons_succ]
          refine OpGoal.yes (by simp [yieldD, r6]) ?_
          go_wp2_with fail
          exact ⟨rfl, Ext.refl _, rfl⟩
        case o17 => -- Op.index 9 (Operand.tmp 24) (Operand.tmp 30)  GUARD (6, 'true')
          intro xv W hE hp
          have r6 : xv 6 = _ := hp.1
          have r10 : xv 10 = _ := hp.2.1
          have r16 : xv 16 = _ := hp.2.2.1
          clear hp
          simp only [putD, List.foldl_nil, List.foldl_cons, List.getD_cons_zero, List.getD_cons_succ, Act.put, List.setIfInBounds_toArray, List.set_cons_zero, List.set_cons_succ]
          refine OpGoal.yes (by simp [yieldD, r6]) ?_
          go_wp2_with fail
          exact ⟨rfl, Ext.refl _, rfl⟩
        case o18 => -- Op.binOp BinOp.neq 5 (Operand.tmp 31) (Operand.const (Value.int IntKind.u8 10)) 
          intro xv W hE hp
          have r6 : xv 6 = _ := hp.1
          have r17 : xv 17 = _ := hp.2.1
          clear hp
          simp only [putD, List.foldl_nil, List.foldl_cons, List.getD_cons_zero, List.getD_cons_succ, Act.put, List.setIfInBounds_toArray, List.set_cons_zero, List.set_cons_succ]
          refine OpGoal.yes (by simp [yieldD, r6]) ?_
          go_wp2_with fail
          exact ⟨rfl, Ext.refl _, rfl⟩
        case last =>
          intro xv W hE hp
          have r0 : xv 0 = _ := hp.1
          have r1 : xv 1 = _ := hp.2.1
          have r2 : xv 2 = _ := hp.2.2.1
          have r3 : xv 3 = _ := hp.2.2.2.1
          have r4 : xv 4 = _ := hp.2.2.2.2.1
          have r5 : xv 5 = _ := hp.2.2.2.2.2.1
          have r6 : xv 6 = _ := hp.2.2.2.2.2.2.1
          have r7 : xv 7 = _ := hp.2.2.2.2.2.2.2.1
          have r8 : xv 8 = _ := hp.2.2.2.2.2.2.2.2.1
          have r9 : xv 9 = _ := hp.2.2.2.2.2.2.2.2.2.1
          have r10 : xv 10 = _ := hp.2.2.2.2.2.2.2.2.2.2.1
          have r11 : xv 11 = _ := hp.2.2.2.2.2.2.2.2.2.2.2.1
          have r12 : xv 12 = _ := hp.2.2.2.2.2.2.2.2.2.2.2.2.1
          have r13 : xv 13 = _ := hp.2.2.2.2.2.2.2.2.2.2.2.2.2.1
          have r14 : xv 14 = _ := hp.2.2.2.2.2.2.2.2.2.2.2.2.2.2.1
          have r15 : xv 15 = _ := hp.2.2.2.2.2.2.2.2.2.2.2.2.2.2.2.1
          have r16 : xv 16 = _ := hp.2.2.2.2.2.2.2.2.2.2.2.2.2.2.2.2.1
          have r17 : xv 17 = _ := hp.2.2.2.2.2.2.2.2.2.2.2.2.2.2.2.2.2.1
          have r18 : xv 18 = _ := hp.2.2.2.2.2.2.2.2.2.2.2.2.2.2.2.2.2.2.1
          clear hp
          simp only [putD, List.foldl_nil, List.foldl_cons, List.getD_cons_zero, List.getD_cons_succ, Act.put, List.length_cons, List.length_nil, List.range_succ, List.range_zero, List.nil_append, List.cons_append, List.setIfInBounds_toArray, List.set_cons_zero, List.set_cons_succ]
          have hDW := hD.ext ((Ext.drew w).trans hE)
          have hkW : KB [b] w W := KB.ext ((Ext.drew w).trans hE)
          obtain ⟨y0, _, _, _, _⟩ := hDW.cell
          go_wp2_with fail
          refine (recordsR_any d.text hlt W).mono ?_
          rintro e wz ⟨v, rfl, hOz, hEz⟩
          obtain ⟨A, c, rfl, _⟩ := hOz.form
          have hsz := hkW.size
          have hEzz := hEz.sz
          go_wp2_with fail
          go_ret2
          unfold OpenEnd
          rw [HO.out]
          exact ⟨(hDW.ext hEz).ext (Ext.alloc _ _), (hkW.trans (KB.ext hEz)).trans (KB.ext (Ext.alloc _ _)), .inr ⟨rfl, wz.heap.size, _, rfl, by omega, by simp, heap_alloc_new _ _, (hOz.base_ hsz).ext (Ext.alloc _ _)⟩⟩
      · have t1 : ((c.toNat : Int) != 10) = true := by rw [bne_iff_ne]; intro e; exact hc (UInt8.toNat_inj.1 (by simpa using Int.ofNat_inj.1 e))
        have ho : d.open_ = d.put [10] := by
          unfold Dk.open_; rw [hoff, hlast]
          simp [he, hc]
        have hlt2 : d.text.length + 1 < 16777216 := by rw [HM.out]; omega
        have hwk := write_ok (s := [10]) hk (by simp; omega)
        obtain ⟨ok, d2, hw⟩ : ∃ ok d2, d.write [10] = (ok, d2) := ⟨_, _, rfl⟩
        unfold Dk.put at ho
        rw [hw] at ho hwk
        simp only at ho hwk
        have htx2 : d2.text.length ≤ d.text.length + 1 := by
          have := hw
          unfold Dk.write at this
          obtain ⟨t1, _, _⟩ := works_cases d
          split at this
          · injection this with _ h2; rw [← h2]; simp [t1]
          · injection this with _ h2; rw [← h2, t1]; omega
        have HWR := Lib.hid hw
        have HO := Lib.hid ho
        clear ho hoff he hlast hc hw
        go_enter Tryz.func23, Tryz.ntmps23
        go_wp2_with fail
        apply wp_region_seq (l := [_, _, _, _, _, _, _, _, _, _, _, _, _, _, _, _, _, _, _]) (t := [_]) [some 14, some 15, some 16, some 17, some 18, some 19, some 20, some 21, some 22, some 23, some 24, some 25, some 26, some 27, some 28, some 29, some 30, some 31, some 32, some 33] [[], [0], [1], [2], [3], [4], [5], [6], [6, 7], [6, 8], [6, 9], [6], [6, 11], [6, 12], [6, 13], [6, 14], [6, 15], [6, 10, 16], [6, 17], [6, 18]] [1, 2, 3, 4, 5, 6, 19, 8, 9, 10, 17, 12, 13, 14, 15, 16, 17, 18, 19] [eqv _, eqv _, eqv _, eqv _, eqv _, eqv _, eqv _, eqv _, eqv _, eqv _, eqv _, eqv _, eqv _, eqv _, eqv _, eqv _, eqv _, eqv _, eqv _] (by kernel_rfl) (by kernel_rfl) ⟨?o0, ?o1, ?o2, ?o3, ?o4, ?o5, ?o6, ?o7, ?o8, ?o9, ?o10, ?o11, ?o12, ?o13, ?o14, ?o15, ?o16, ?o17, ?o18, trivial⟩ ?last
        case o0 => -- Op.move (Operand.tmp 0)
          intro xv W hE _
          simp only [putD, List.foldl_nil, List.getD_cons_zero]
          refine OpGoal.plain ?_
          go_wp2_with fail
          exact ⟨rfl, Ext.refl _, rfl⟩
        case o1 => -- Op.nilCheck (Operand.tmp 14)
          intro xv W hE hp
          have r0 : xv 0 = _ := hp.1
          clear hp
          simp only [putD, List.foldl_nil, List.foldl_cons, List.getD_cons_zero, List.getD_cons_succ, Act.put, List.setIfInBounds_toArray, List.set_cons_zero, List.set_cons_succ]
          refine OpGoal.plain ?_
          go_wp2_with fail
          exact ⟨rfl, Ext.refl _, rfl⟩
        case o2 => -- Op.fieldAddr 68 (Operand.tmp 15) 0
          intro xv W hE hp
          have r1 : xv 1 = _ := hp.1
          clear hp
          simp only [putD, List.foldl_nil, List.foldl_cons, List.getD_cons_zero, List.getD_cons_succ, Act.put, List.setIfInBounds_toArray, List.set_cons_zero, List.set_cons_succ]
          refine OpGoal.plain ?_
          go_wp2_with fail
          exact ⟨rfl, Ext.refl _, rfl⟩
        case o3 => -- Op.load 9 (Operand.tmp 16)
          intro xv W hE hp
          have r2 : xv 2 = _ := hp.1
          clear hp
          have k0 := ((Ext.drew w).trans hE).old (p := ⟨b, 0, none⟩) hD.lt |>.trans c0
          simp only [putD, List.foldl_nil, List.foldl_cons, List.getD_cons_zero, List.getD_cons_succ, Act.put, List.setIfInBounds_toArray, List.set_cons_zero, List.set_cons_succ]
          refine OpGoal.plain ?_
          go_wp2_with fail
          exact ⟨rfl, Ext.refl _, rfl⟩
        case o4 => -- Op.call { callee := Callee.builtin Builtin.len, args := #[Operand.tmp 17], argTy
          intro xv W hE hp
          have r3 : xv 3 = _ := hp.1
          clear hp
          simp only [putD, List.foldl_nil, List.foldl_cons, List.getD_cons_zero, List.getD_cons_succ, Act.put, List.setIfInBounds_toArray, List.set_cons_zero, List.set_cons_succ]
          refine OpGoal.plain ?_
          go_wp2_with fail
          exact ⟨rfl, Ext.refl _, rfl⟩
        case o5 => -- Op.binOp BinOp.gtr 3 (Operand.tmp 18) (Operand.const (Value.int IntKind.i64 0)) 
          intro xv W hE hp
          have r4 : xv 4 = _ := hp.1
          clear hp
          simp only [putD, List.foldl_nil, List.foldl_cons, List.getD_cons_zero, List.getD_cons_succ, Act.put, List.setIfInBounds_toArray, List.set_cons_zero, List.set_cons_succ]
          refine OpGoal.plain ?_
          go_wp2_with fail
          exact ⟨rfl, Ext.refl _, rfl⟩
        case o6 => -- Op.move (Operand.tmp 19)
          intro xv W hE hp
          have r5 : xv 5 = _ := hp.1
          clear hp
          simp only [putD, List.foldl_nil, List.foldl_cons, List.getD_cons_zero, List.getD_cons_succ, Act.put, List.setIfInBounds_toArray, List.set_cons_zero, List.set_cons_succ]
          refine OpGoal.plain ?_
          go_wp2_with fail
          exact ⟨rfl, Ext.refl _, rfl⟩
        case o7 => -- Op.move (Operand.tmp 0)  GUARD (6, 'true')
          intro xv W hE hp
          have r6 : xv 6 = _ := hp.1
          clear hp
          simp only [putD, List.foldl_nil, List.foldl_cons, List.getD_cons_zero, List.getD_cons_succ, Act.put, List.setIfInBounds_toArray, List.set_cons_zero, List.set_cons_succ]
          refine OpGoal.yes (by simp [yieldD, r6]) ?_
          go_wp2_with fail
          exact ⟨rfl, Ext.refl _, rfl⟩
        case o8 => -- Op.nilCheck (Operand.tmp 21)  GUARD (6, 'true')
          intro xv W hE hp
          have r6 : xv 6 = _ := hp.1
          have r7 : xv 7 = _ := hp.2.1
          clear hp
          simp only [putD, List.foldl_nil, List.foldl_cons, List.getD_cons_zero, List.getD_cons_succ, Act.put, List.setIfInBounds_toArray, List.set_cons_zero, List.set_cons_succ]
          refine OpGoal.yes (by simp [yieldD, r6]) ?_
          go_wp2_with fail
          exact ⟨rfl, Ext.refl _, rfl⟩
        case o9 => -- Op.fieldAddr 68 (Operand.tmp 22) 0  GUARD (6, 'true')
          intro xv W hE hp
          have r6 : xv 6 = _ := hp.1
          have r8 : xv 8 = _ := hp.2.1
          clear hp
          simp only [putD, List.foldl_nil, List.foldl_cons, List.getD_cons_zero, List.getD_cons_succ, Act.put, List.setIfInBounds_toArray, List.set_cons_zero, List.set_cons_succ]
          refine OpGoal.yes (by simp [yieldD, r6]) ?_
          go_wp2_with fail
          exact ⟨rfl, Ext.refl _, rfl⟩
        case o10 => -- Op.load 9 (Operand.tmp 23)  GUARD (6, 'true')
          intro xv W hE hp
          have r6 : xv 6 = _ := hp.1
          have r9 : xv 9 = _ := hp.2.1
          clear hp
          have k0 := ((Ext.drew w).trans hE).old (p := ⟨b, 0, none⟩) hD.lt |>.trans c0
          simp only [putD, List.foldl_nil, List.foldl_cons, List.getD_cons_zero, List.getD_cons_succ, Act.put, List.setIfInBounds_toArray, List.set_cons_zero, List.set_cons_succ]
          refine OpGoal.yes (by simp [yieldD, r6]) ?_
          go_wp2_with fail
          exact ⟨rfl, Ext.refl _, rfl⟩
        case o11 => -- Op.move (Operand.tmp 0)  GUARD (6, 'true')
          intro xv W hE hp
          have r6 : xv 6 = _ := hp.1
          clear hp
          simp only [putD, List.foldl_nil, List.foldl_cons, List.getD_cons_zero, List.getD_cons_succ, Act.put, List.setIfInBounds_toArray, List.set_cons_zero, List.set_cons_succ]
          refine OpGoal.yes (by simp [yieldD, r6]) ?_
          go_wp2_with fail
          exact ⟨rfl, Ext.refl _, rfl⟩
        case o12 => -- Op.nilCheck (Operand.tmp 25)  GUARD (6, 'true')
          intro xv W hE hp
          have r6 : xv 6 = _ := hp.1
          have r11 : xv 11 = _ := hp.2.1
          clear hp
          simp only [putD, List.foldl_nil, List.foldl_cons, List.getD_cons_zero, List.getD_cons_succ, Act.put, List.setIfInBounds_toArray, List.set_cons_zero, List.set_cons_succ]
          refine OpGoal.yes (by simp [yieldD, r6]) ?_
          go_wp2_with fail
          exact ⟨rfl, Ext.refl _, rfl⟩
        case o13 => -- Op.fieldAddr 68 (Operand.tmp 26) 0  GUARD (6, 'true')
          intro xv W hE hp
          have r6 : xv 6 = _ := hp.1
          have r12 : xv 12 = _ := hp.2.1
          clear hp
          simp only [putD, List.foldl_nil, List.foldl_cons, List.getD_cons_zero, List.getD_cons_succ, Act.put, List.setIfInBounds_toArray, List.set_cons_zero, List.set_cons_succ]
          refine OpGoal.yes (by simp [yieldD, r6]) ?_
          go_wp2_with fail
          exact ⟨rfl, Ext.refl _, rfl⟩
        case o14 => -- Op.load 9 (Operand.tmp 27)  GUARD (6, 'true')
          intro xv W hE hp
          have r6 : xv 6 = _ := hp.1
          have r13 : xv 13 = _ := hp.2.1
          clear hp
          have k0 := ((Ext.drew w).trans hE).old (p := ⟨b, 0, none⟩) hD.lt |>.trans c0
          simp only [putD, List.foldl_nil, List.foldl_cons, List.getD_cons_zero, List.getD_cons_succ, Act.put, List.setIfInBounds_toArray, List.set_cons_zero, List.set_cons_succ]
          refine OpGoal.yes (by simp [yieldD, r6]) ?_
          go_wp2_with fail
          exact ⟨rfl, Ext.refl _, rfl⟩
        case o15 => -- Op.call { callee := Callee.builtin Builtin.len, args := #[Operand.tmp 28], argTy
          intro xv W hE hp
          have r6 : xv 6 = _ := hp.1
          have r14 : xv 14 = _ := hp.2.1
          clear hp
          simp only [putD, List.foldl_nil, List.foldl_cons, List.getD_cons_zero, List.getD_cons_succ, Act.put, List.setIfInBounds_toArray, List.set_cons_zero, List.set_cons_succ]
          refine OpGoal.yes (by simp [yieldD, r6]) ?_
          go_wp2_with fail
          exact ⟨rfl, Ext.refl _, rfl⟩
        case o16 => -- Op.binOp BinOp.sub 3 (Operand.tmp 29) (Operand.const (Value.int IntKind.i64 1)) 
          intro xv W hE hp
          have r6 : xv 6 = _ := hp.1
          have r15 : xv 15 = _ := hp.2.1
          clear hp
          simp only [putD, List.foldl_nil, List.foldl_cons, List.getD_cons_zero, List.getD_cons_succ, Act.put, List.setIfInBounds_toArray, List.set_cons_zero, List.set_cons_succ]
          refine OpGoal.yes (by simp [yieldD, r6]) ?_
          go_wp2_with fail
          exact ⟨rfl, Ext.refl _, rfl⟩
        case o17 => -- Op.index 9 (Operand.tmp 24) (Operand.tmp 30)  GUARD (6, 'true')
          intro xv W hE hp
          have r6 : xv 6 = _ := hp.1
          have r10 : xv 10 = _ := hp.2.1
          have r16 : xv 16 = _ := hp.2.2.1
          clear hp
          simp only [putD, List.foldl_nil, List.foldl_cons, List.getD_cons_zero, List.getD_cons_succ, Act.put, List.setIfInBounds_toArray, List.set_cons_zero, List.set_cons_succ]
          refine OpGoal.yes (by simp [yieldD, r6]) ?_
          go_wp2_with fail
          exact ⟨rfl, Ext.refl _, rfl⟩
        case o18 => -- Op.binOp BinOp.neq 5 (Operand.tmp 31) (Operand.const (Value.int IntKind.u8 10)) 
          intro xv W hE hp
          have r6 : xv 6 = _ := hp.1
          have r17 : xv 17 = _ := hp.2.1
          clear hp
          simp only [putD, List.foldl_nil, List.foldl_cons, List.getD_cons_zero, List.getD_cons_succ, Act.put, List.setIfInBounds_toArray, List.set_cons_zero, List.set_cons_succ]
          refine OpGoal.yes (by simp [yieldD, r6]) ?_
          go_wp2_with fail
          exact ⟨rfl, Ext.refl _, rfl⟩
        case last =>
          intro xv W hE hp
          have r0 : xv 0 = _ := hp.1
          have r1 : xv 1 = _ := hp.2.1
          have r2 : xv 2 = _ := hp.2.2.1
          have r3 : xv 3 = _ := hp.2.2.2.1
          have r4 : xv 4 = _ := hp.2.2.2.2.1
          have r5 : xv 5 = _ := hp.2.2.2.2.2.1
          have r6 : xv 6 = _ := hp.2.2.2.2.2.2.1
          have r7 : xv 7 = _ := hp.2.2.2.2.2.2.2.1
          have r8 : xv 8 = _ := hp.2.2.2.2.2.2.2.2.1
          have r9 : xv 9 = _ := hp.2.2.2.2.2.2.2.2.2.1
          have r10 : xv 10 = _ := hp.2.2.2.2.2.2.2.2.2.2.1
          have r11 : xv 11 = _ := hp.2.2.2.2.2.2.2.2.2.2.2.1
          have r12 : xv 12 = _ := hp.2.2.2.2.2.2.2.2.2.2.2.2.1
          have r13 : xv 13 = _ := hp.2.2.2.2.2.2.2.2.2.2.2.2.2.1
          have r14 : xv 14 = _ := hp.2.2.2.2.2.2.2.2.2.2.2.2.2.2.1
          have r15 : xv 15 = _ := hp.2.2.2.2.2.2.2.2.2.2.2.2.2.2.2.1
          have r16 : xv 16 = _ := hp.2.2.2.2.2.2.2.2.2.2.2.2.2.2.2.2.1
          have r17 : xv 17 = _ := hp.2.2.2.2.2.2.2.2.2.2.2.2.2.2.2.2.2.1
          have r18 : xv 18 = _ := hp.2.2.2.2.2.2.2.2.2.2.2.2.2.2.2.2.2.2.1
          clear hp
          simp only [putD, List.foldl_nil, List.foldl_cons, List.getD_cons_zero, List.getD_cons_succ, Act.put, List.length_cons, List.length_nil, List.range_succ, List.range_zero, List.nil_append, List.cons_append, List.setIfInBounds_toArray, List.set_cons_zero, List.set_cons_succ]
          have hDW := hD.ext ((Ext.drew w).trans hE)
          have hkW : KB [b] w W := KB.ext ((Ext.drew w).trans hE)
          have hwr := write_r b d [10] W hDW hk (by simp; omega)
          rw [HWR.out] at hwr
          simp only at hwr
          have HWC := Lib.hid hwr
          clear hwr HWR
          go_wp2_with fail
          refine HWC.out.mono ?_
          rintro e w2 ⟨rfl, hD2, hg2⟩
          have hk2 := hkW.trans (KB.grown hg2 (by simp))
          cases ok with
          | false =>
            go_wp2_with fail
            go_ret2
            unfold OpenEnd
            rw [HO.out]
            exact ⟨hD2, hk2, .inl ⟨rfl, rfl⟩⟩
          | true =>
            have ho := HO.out
            simp only [if_true] at ho
            have hsy := sync_r b d2 w2 hD2 hwk
            obtain ⟨ok3, d3, hs3⟩ : ∃ ok3 d3, d2.sync = (ok3, d3) := ⟨_, _, rfl⟩
            have htx3 : d3.text.length ≤ d.text.length + 1 := by
              have := hs3
              unfold Dk.sync at this
              obtain ⟨t1, _, _⟩ := works_cases d2
              split at this
              · injection this with _ h2; rw [← h2]; simp [t1]; exact htx2
              · injection this with _ h2; rw [← h2, t1]; exact htx2
            have hlt3 : d3.text.length < 16777216 := by omega
            rw [hs3] at hsy ho
            simp only at hsy
            have HS := Lib.hid hsy
            clear HO
            have HO := Lib.hid ho
            clear hsy ho hs3
            go_wp2_with fail
            refine HS.out.mono ?_
            rintro e w3 ⟨rfl, hD3, hg3⟩
            have hk3 := hk2.trans (KB.grown hg3 (by simp))
            cases ok3 with
            | false =>
              go_wp2_with fail
              go_ret2
              unfold OpenEnd
              rw [HO.out]
              exact ⟨hD3, hk3, .inl ⟨rfl, rfl⟩⟩
            | true =>
              obtain ⟨y0, _, _, _, _⟩ := hD3.cell
              go_wp2_with fail
              refine (recordsR_any d3.text hlt3 w3).mono ?_
              rintro e wz ⟨v, rfl, hOz, hEz⟩
              obtain ⟨A, c, rfl, _⟩ := hOz.form
              have hsz := hk3.size
              have hEzz := hEz.sz
              go_wp2_with fail
              go_ret2
              unfold OpenEnd
              rw [HO.out]
              exact ⟨(hD3.ext hEz).ext (Ext.alloc _ _), (hk3.trans (KB.ext hEz)).trans (KB.ext (Ext.alloc _ _)), .inr ⟨rfl, wz.heap.size, _, rfl, by omega, by simp, heap_alloc_new _ _, (hOz.base_ hsz).ext (Ext.alloc _ _)⟩⟩
end Go.Proofs.YthppcmejffdicaaGreatDoor
