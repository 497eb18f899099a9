/- slices.IndexFunc over the kinds; event.Parse$1 (printed by gen_gl.py). -/
import Derived.Deep.MidRow
import Derived.Test.YtompfgofaplffaaGreatDoorQGk
import Derived.Test.YtompfgofaplffaaGreatDoorQEj
import Derived.ArgAppend
set_option linter.unusedSimpArgs false
set_option linter.unusedVariables false
namespace Go.Proofs.YtompfgofaplffaaGreatDoor
open Go.RowKit Hach Num

theorem infoKd : (Tryz.prog.info? 53).map (·.size) = some 6 := by kernel_rfl
theorem load_Kd {ops : Array Oper} {rest : List Oper} {op : Oper} {a : Act} {w : World} {Q : Exit → Act → World → Prop} (hgd : op.guard = none) (x : Operand) (ho : op.op = .load 53 x) (b o : Nat) (cs : List Value) (hr : w.rangeAt b o cs) (h7 : cs.length = 6)
    (hx : a.eval x = .pointer (some ⟨b, o, none⟩)) (h : wpList Tryz.prog ops Q rest (a.put op.dst (.agg cs.toArray)) w) : wpList Tryz.prog ops Q (op :: rest) a w := by
  obtain ⟨i0, hi, hz1⟩ := info_siz infoKd
  exact wpList_load_mid hgd _ x ho b o hx cs _ hr Tryz.underlying53 rfl (by rw [hi]; simp [hz1, h7]) h
set_option maxHeartbeats 1000000 in
theorem ixKd_any (g : Nat) (lb : Array Value) (eg : ∀ args w, (callFunc g args).run Tryz.prog w = .ok (.enter g args) w) (A : Option Addr) (n c : Nat) (E : Nat → List Value) (p : Nat → Bool) (w : World) (hn : n < 9223372036854775808)
    (hE : ∀ j, j < n → (E j).length = 6) (hr : ∀ W, Ext w W → ∀ j, j < n → ∃ b o, A = some ⟨b, o, none⟩ ∧ W.rangeAt b (o + j * 6) (E j))
    (hp : ∀ W, Ext w W → ∀ j, j < n → Calls Tryz.prog g (#[.agg (E j).toArray] ++ lb) W fun e w' => e = .returned (.bool (p j)) ∧ Ext W w') :
    Calls Tryz.prog 22 #[.slice A n c, .func (.func g) #[] lb] w fun e w' => e = .returned (.int .i64 (idxF p n)) ∧ Ext w w' := by
  have HR := Lib.hid hr
  have HP := Lib.hid hp
  have HE := Lib.hid hE
  have HN := Lib.hid hn
  clear hr hp hE
  go_enter Tryz.func22, Tryz.ntmps22
  go_wp2_with fail
  go_loopw [8] (fun kv wr => ∃ k : Nat, k ≤ n ∧ kv = .int .i64 k ∧ Hid (∀ j, j < k → p j = false) ∧ Ext w wr) (fun kv _ => n - (intOf kv).toNat)
  case atStart => exact ⟨0, Nat.zero_le _, rfl, Lib.hid (fun j h => absurd h (Nat.not_lt_zero _)), Ext.refl _⟩
  case round =>
    obtain ⟨k, hk, rfl, HK, hE⟩ := hrel
    by_cases hlt : k < n
    · have t : decide (k < n) = true := by simpa using hlt
      obtain ⟨b, o, rfl, hr⟩ := HR.out wr hE k hlt
      have hcall := HP.out wr hE k hlt
      have hlen := HE.out k hlt
      cases hq : p k
      · rw [hq] at hcall
        have hk' : ∀ j, j < k + 1 → p j = false := fun j hj => by
          rcases Nat.lt_or_ge j k with h | h
          · exact HK.out j h
          · rw [show j = k by omega]; exact hq
        have HK' := Lib.hid hk'
        clear hq hk'
        go_wp2_with (first
          | (refine load_Kd rfl _ rfl b (o + k * 6) _ hr hlen rfl ?_)
          | (go_at_fn g; refine hcall.mono ?_; rintro e w' ⟨rfl, hE'⟩))
        go_roundw
        case rel => exact ⟨k + 1, by omega, by go_num, HK', Ext.trans hE hE'⟩
        case measure => simp [intOf]; omega
      · rw [hq] at hcall
        have HI := Lib.hid (idxF_some hlt hq HK.out)
        clear hq
        go_wp2_with (first
          | (refine load_Kd rfl _ rfl b (o + k * 6) _ hr hlen rfl ?_)
          | (go_at_fn g; refine hcall.mono ?_; rintro e w' ⟨rfl, hE'⟩))
        go_ret
        exact ⟨ret_i HI.out.symm, Ext.trans hE hE'⟩
    · have t : decide (k < n) = false := by simp; omega
      have HI := Lib.hid (idxF_none (p := p) (n := n) (fun j hj => HK.out j (by omega)))
      go_wp2_with fail
      go_ret
      exact ⟨ret_i HI.out.symm, hE⟩
set_option maxRecDepth 100000 in
set_option maxHeartbeats 2000000 in
theorem pk_0 (C g n c : Nat) (w0 : List UInt8) (W : World) (hn : 0 < n) (hC : W.cell? ⟨C, 0, none⟩ = some (.slice (some ⟨g, 0, none⟩) n c)) (hg : W.cell? ⟨g, 0, none⟩ = some (strV w0)) :
    Calls Tryz.prog 23 #[.agg x1K, .pointer (some ⟨C, 0, none⟩)] W fun e w' => e = .returned (.bool (decide ([100, 114, 111, 112] = w0))) ∧ Ext W w' := by
  have hB := cells_of (Go.heap_alloc_new W (.cells x1K 53)) 0 _ rfl
  have hEx := Ext.alloc W (.cells x1K 53)
  have HEX := Lib.hid hEx
  obtain ⟨V, hV⟩ : ∃ V, W.alloc (.cells x1K 53) = V := ⟨_, rfl⟩
  rw [hV] at hB hEx HEX
  obtain ⟨S, hS⟩ : ∃ S : ByteArray, ⟨w0.toArray⟩ = S := ⟨_, rfl⟩
  obtain ⟨Z, hZ⟩ : ∃ Z : ByteArray, ⟨[100, 114, 111, 112].toArray⟩ = Z := ⟨_, rfl⟩
  have hcmp : (Z.toList == S.toList) = decide ([100, 114, 111, 112] = w0) := by rw [← hS, ← hZ]; exact bytes_beq _ _
  unfold strV at hg
  rw [hS] at hg
  have hB' : V.cell? ⟨W.heap.size, 0, none⟩ = some (.string Z) := by rw [hB, ← hZ]; rfl
  have HQ := Lib.hid (fun U (h : Ext V.drew U) => And.intro (cell_ext (Ext.trans (Ext.drew V) h) hB') (And.intro (cell_ext (Ext.trans hEx (Ext.trans (Ext.drew V) h)) hC) (cell_ext (Ext.trans hEx (Ext.trans (Ext.drew V) h)) hg)))
  generalize decide ([100, 114, 111, 112] = w0) = q at *
  unfold x1K at hV ⊢
  have HV := Lib.hid hV
  have tn : 0 < n := hn
  clear hB hB' hEx hC hg hV hS hZ
  go_enter Tryz.func23, Tryz.ntmps23
  go_wp2_with fail
  rw [HV.out]
  apply wp_region_seq (l := [_, _, _, _, _, _]) (t := [_]) [some 4, some 5, some 6, some 7, some 8, some 9, some 3] [[], [0], [], [2], [3], [1, 4], [5]] [6, 6, 6, 6, 6, 6] [eqv _, (eqv (.string Z)), (eqv (.slice (some ⟨g, 0, none⟩) n c)), (eqv (.pointer (some ⟨g, 0, none⟩))), (eqv (.string S)), (eqv (.bool q))] (by kernel_rfl) (by kernel_rfl) ⟨?o0, ?o1, ?o2, ?o3, ?o4, ?o5, trivial⟩ ?last
  case o0 => -- Op.fieldAddr 53 (Operand.tmp 2) 0
    intro xv W1 hE _
    simp only [putD, List.foldl_nil, List.getD_cons_zero]
    refine OpGoal.plain ?_
    go_wp2_with fail
    exact ⟨rfl, Ext.refl _, rfl⟩
  case o1 => -- Op.load 9 (Operand.tmp 4)
    intro xv W1 hE hp
    have r0 : xv 0 = _ := hp.1
    clear hp
    obtain ⟨c0, c1, c2⟩ := HQ.out W1 hE
    simp only [putD, List.foldl_nil, List.foldl_cons, List.getD_cons_zero, List.getD_cons_succ, Act.put, List.setIfInBounds_toArray, List.set_cons_zero, List.set_cons_succ]
    refine OpGoal.plain ?_
    go_wp2_with fail
    exact ⟨rfl, Ext.refl _, rfl⟩
  case o2 => -- Op.load 31 (Operand.tmp 1)
    intro xv W1 hE _
    obtain ⟨c0, c1, c2⟩ := HQ.out W1 hE
    simp only [putD, List.foldl_nil, List.getD_cons_zero, List.getD_cons_succ]
    refine OpGoal.plain ?_
    go_wp2_with fail
    exact ⟨rfl, Ext.refl _, rfl⟩
  case o3 => -- Op.indexAddr 31 (Operand.tmp 6) (Operand.const (Value.int IntKind.i64 0))
    intro xv W1 hE hp
    have r2 : xv 2 = _ := hp.1
    clear hp
    simp only [putD, List.foldl_nil, List.foldl_cons, List.getD_cons_zero, List.getD_cons_succ, Act.put, List.setIfInBounds_toArray, List.set_cons_zero, List.set_cons_succ]
    refine OpGoal.plain ?_
    go_wp2_with fail
    exact ⟨rfl, Ext.refl _, rfl⟩
  case o4 => -- Op.load 9 (Operand.tmp 7)
    intro xv W1 hE hp
    have r3 : xv 3 = _ := hp.1
    clear hp
    obtain ⟨c0, c1, c2⟩ := HQ.out W1 hE
    simp only [putD, List.foldl_nil, List.foldl_cons, List.getD_cons_zero, List.getD_cons_succ, Act.put, List.setIfInBounds_toArray, List.set_cons_zero, List.set_cons_succ]
    refine OpGoal.plain ?_
    go_wp2_with fail
    exact ⟨rfl, Ext.refl _, rfl⟩
  case o5 => -- Op.binOp BinOp.eql 9 (Operand.tmp 5) (Operand.tmp 8) 9
    intro xv W1 hE hp
    have r1 : xv 1 = _ := hp.1
    have r4 : xv 4 = _ := hp.2.1
    clear hp
    simp only [putD, List.foldl_nil, List.foldl_cons, List.getD_cons_zero, List.getD_cons_succ, Act.put, List.setIfInBounds_toArray, List.set_cons_zero, List.set_cons_succ]
    refine OpGoal.plain ?_
    go_wp2_with fail
    exact ⟨rfl, Ext.refl _, rfl⟩
  case last =>
    intro xv W1 hE hp
    have r0 : xv 0 = _ := hp.1
    have r1 : xv 1 = _ := hp.2.1
    have r2 : xv 2 = _ := hp.2.2.1
    have r3 : xv 3 = _ := hp.2.2.2.1
    have r4 : xv 4 = _ := hp.2.2.2.2.1
    have r5 : xv 5 = _ := hp.2.2.2.2.2.1
    clear hp
    simp only [putD, List.foldl_nil, List.foldl_cons, List.getD_cons_zero, List.getD_cons_succ, Act.put, List.length_cons, List.length_nil, List.range_succ, List.range_zero, List.nil_append, List.cons_append, List.setIfInBounds_toArray, List.set_cons_zero, List.set_cons_succ]
    simp only [r5]
    go_wp2_with fail
    go_ret
    exact ⟨rfl, Ext.trans HEX.out (Ext.trans (Ext.drew V) hE)⟩
set_option maxRecDepth 100000 in
set_option maxHeartbeats 2000000 in
theorem pk_1 (C g n c : Nat) (w0 : List UInt8) (W : World) (hn : 0 < n) (hC : W.cell? ⟨C, 0, none⟩ = some (.slice (some ⟨g, 0, none⟩) n c)) (hg : W.cell? ⟨g, 0, none⟩ = some (strV w0)) :
    Calls Tryz.prog 23 #[.agg x2K, .pointer (some ⟨C, 0, none⟩)] W fun e w' => e = .returned (.bool (decide ([102, 117, 115, 101] = w0))) ∧ Ext W w' := by
  have hB := cells_of (Go.heap_alloc_new W (.cells x2K 53)) 0 _ rfl
  have hEx := Ext.alloc W (.cells x2K 53)
  have HEX := Lib.hid hEx
  obtain ⟨V, hV⟩ : ∃ V, W.alloc (.cells x2K 53) = V := ⟨_, rfl⟩
  rw [hV] at hB hEx HEX
  obtain ⟨S, hS⟩ : ∃ S : ByteArray, ⟨w0.toArray⟩ = S := ⟨_, rfl⟩
  obtain ⟨Z, hZ⟩ : ∃ Z : ByteArray, ⟨[102, 117, 115, 101].toArray⟩ = Z := ⟨_, rfl⟩
  have hcmp : (Z.toList == S.toList) = decide ([102, 117, 115, 101] = w0) := by rw [← hS, ← hZ]; exact bytes_beq _ _
  unfold strV at hg
  rw [hS] at hg
  have hB' : V.cell? ⟨W.heap.size, 0, none⟩ = some (.string Z) := by rw [hB, ← hZ]; rfl
  have HQ := Lib.hid (fun U (h : Ext V.drew U) => And.intro (cell_ext (Ext.trans (Ext.drew V) h) hB') (And.intro (cell_ext (Ext.trans hEx (Ext.trans (Ext.drew V) h)) hC) (cell_ext (Ext.trans hEx (Ext.trans (Ext.drew V) h)) hg)))
  generalize decide ([102, 117, 115, 101] = w0) = q at *
  unfold x2K at hV ⊢
  have HV := Lib.hid hV
  have tn : 0 < n := hn
  clear hB hB' hEx hC hg hV hS hZ
  go_enter Tryz.func23, Tryz.ntmps23
  go_wp2_with fail
  rw [HV.out]
  apply wp_region_seq (l := [_, _, _, _, _, _]) (t := [_]) [some 4, some 5, some 6, some 7, some 8, some 9, some 3] [[], [0], [], [2], [3], [1, 4], [5]] [6, 6, 6, 6, 6, 6] [eqv _, (eqv (.string Z)), (eqv (.slice (some ⟨g, 0, none⟩) n c)), (eqv (.pointer (some ⟨g, 0, none⟩))), (eqv (.string S)), (eqv (.bool q))] (by kernel_rfl) (by kernel_rfl) ⟨?o0, ?o1, ?o2, ?o3, ?o4, ?o5, trivial⟩ ?last
  case o0 => -- Op.fieldAddr 53 (Operand.tmp 2) 0
    intro xv W1 hE _
    simp only [putD, List.foldl_nil, List.getD_cons_zero]
    refine OpGoal.plain ?_
    go_wp2_with fail
    exact ⟨rfl, Ext.refl _, rfl⟩
  case o1 => -- Op.load 9 (Operand.tmp 4)
    intro xv W1 hE hp
    have r0 : xv 0 = _ := hp.1
    clear hp
    obtain ⟨c0, c1, c2⟩ := HQ.out W1 hE
    simp only [putD, List.foldl_nil, List.foldl_cons, List.getD_cons_zero, List.getD_cons_succ, Act.put, List.setIfInBounds_toArray, List.set_cons_zero, List.set_cons_succ]
    refine OpGoal.plain ?_
    go_wp2_with fail
    exact ⟨rfl, Ext.refl _, rfl⟩
  case o2 => -- Op.load 31 (Operand.tmp 1)
    intro xv W1 hE _
    obtain ⟨c0, c1, c2⟩ := HQ.out W1 hE
    simp only [putD, List.foldl_nil, List.getD_cons_zero, List.getD_cons_succ]
    refine OpGoal.plain ?_
    go_wp2_with fail
    exact ⟨rfl, Ext.refl _, rfl⟩
  case o3 => -- Op.indexAddr 31 (Operand.tmp 6) (Operand.const (Value.int IntKind.i64 0))
    intro xv W1 hE hp
    have r2 : xv 2 = _ := hp.1
    clear hp
    simp only [putD, List.foldl_nil, List.foldl_cons, List.getD_cons_zero, List.getD_cons_succ, Act.put, List.setIfInBounds_toArray, List.set_cons_zero, List.set_cons_succ]
    refine OpGoal.plain ?_
    go_wp2_with fail
    exact ⟨rfl, Ext.refl _, rfl⟩
  case o4 => -- Op.load 9 (Operand.tmp 7)
    intro xv W1 hE hp
    have r3 : xv 3 = _ := hp.1
    clear hp
    obtain ⟨c0, c1, c2⟩ := HQ.out W1 hE
    simp only [putD, List.foldl_nil, List.foldl_cons, List.getD_cons_zero, List.getD_cons_succ, Act.put, List.setIfInBounds_toArray, List.set_cons_zero, List.set_cons_succ]
    refine OpGoal.plain ?_
    go_wp2_with fail
    exact ⟨rfl, Ext.refl _, rfl⟩
  case o5 => -- Op.binOp BinOp.eql 9 (Operand.tmp 5) (Operand.tmp 8) 9
    intro xv W1 hE hp
    have r1 : xv 1 = _ := hp.1
    have r4 : xv 4 = _ := hp.2.1
    clear hp
    simp only [putD, List.foldl_nil, List.foldl_cons, List.getD_cons_zero, List.getD_cons_succ, Act.put, List.setIfInBounds_toArray, List.set_cons_zero, List.set_cons_succ]
    refine OpGoal.plain ?_
    go_wp2_with fail
    exact ⟨rfl, Ext.refl _, rfl⟩
  case last =>
    intro xv W1 hE hp
    have r0 : xv 0 = _ := hp.1
    have r1 : xv 1 = _ := hp.2.1
    have r2 : xv 2 = _ := hp.2.2.1
    have r3 : xv 3 = _ := hp.2.2.2.1
    have r4 : xv 4 = _ := hp.2.2.2.2.1
    have r5 : xv 5 = _ := hp.2.2.2.2.2.1
    clear hp
    simp only [putD, List.foldl_nil, List.foldl_cons, List.getD_cons_zero, List.getD_cons_succ, Act.put, List.length_cons, List.length_nil, List.range_succ, List.range_zero, List.nil_append, List.cons_append, List.setIfInBounds_toArray, List.set_cons_zero, List.set_cons_succ]
    simp only [r5]
    go_wp2_with fail
    go_ret
    exact ⟨rfl, Ext.trans HEX.out (Ext.trans (Ext.drew V) hE)⟩
set_option maxRecDepth 100000 in
set_option maxHeartbeats 2000000 in
theorem pk_2 (C g n c : Nat) (w0 : List UInt8) (W : World) (hn : 0 < n) (hC : W.cell? ⟨C, 0, none⟩ = some (.slice (some ⟨g, 0, none⟩) n c)) (hg : W.cell? ⟨g, 0, none⟩ = some (strV w0)) :
    Calls Tryz.prog 23 #[.agg x3K, .pointer (some ⟨C, 0, none⟩)] W fun e w' => e = .returned (.bool (decide ([116, 104, 105, 110] = w0))) ∧ Ext W w' := by
  have hB := cells_of (Go.heap_alloc_new W (.cells x3K 53)) 0 _ rfl
  have hEx := Ext.alloc W (.cells x3K 53)
  have HEX := Lib.hid hEx
  obtain ⟨V, hV⟩ : ∃ V, W.alloc (.cells x3K 53) = V := ⟨_, rfl⟩
  rw [hV] at hB hEx HEX
  obtain ⟨S, hS⟩ : ∃ S : ByteArray, ⟨w0.toArray⟩ = S := ⟨_, rfl⟩
  obtain ⟨Z, hZ⟩ : ∃ Z : ByteArray, ⟨[116, 104, 105, 110].toArray⟩ = Z := ⟨_, rfl⟩
  have hcmp : (Z.toList == S.toList) = decide ([116, 104, 105, 110] = w0) := by rw [← hS, ← hZ]; exact bytes_beq _ _
  unfold strV at hg
  rw [hS] at hg
  have hB' : V.cell? ⟨W.heap.size, 0, none⟩ = some (.string Z) := by rw [hB, ← hZ]; rfl
  have HQ := Lib.hid (fun U (h : Ext V.drew U) => And.intro (cell_ext (Ext.trans (Ext.drew V) h) hB') (And.intro (cell_ext (Ext.trans hEx (Ext.trans (Ext.drew V) h)) hC) (cell_ext (Ext.trans hEx (Ext.trans (Ext.drew V) h)) hg)))
  generalize decide ([116, 104, 105, 110] = w0) = q at *
  unfold x3K at hV ⊢
  have HV := Lib.hid hV
  have tn : 0 < n := hn
  clear hB hB' hEx hC hg hV hS hZ
  go_enter Tryz.func23, Tryz.ntmps23
  go_wp2_with fail
  rw [HV.out]
  apply wp_region_seq (l := [_, _, _, _, _, _]) (t := [_]) [some 4, some 5, some 6, some 7, some 8, some 9, some 3] [[], [0], [], [2], [3], [1, 4], [5]] [6, 6, 6, 6, 6, 6] [eqv _, (eqv (.string Z)), (eqv (.slice (some ⟨g, 0, none⟩) n c)), (eqv (.pointer (some ⟨g, 0, none⟩))), (eqv (.string S)), (eqv (.bool q))] (by kernel_rfl) (by kernel_rfl) ⟨?o0, ?o1, ?o2, ?o3, ?o4, ?o5, trivial⟩ ?last
  case o0 => -- Op.fieldAddr 53 (Operand.tmp 2) 0
    intro xv W1 hE _
    simp only [putD, List.foldl_nil, List.getD_cons_zero]
    refine OpGoal.plain ?_
    go_wp2_with fail
    exact ⟨rfl, Ext.refl _, rfl⟩
  case o1 => -- Op.load 9 (Operand.tmp 4)
    intro xv W1 hE hp
    have r0 : xv 0 = _ := hp.1
    clear hp
    obtain ⟨c0, c1, c2⟩ := HQ.out W1 hE
    simp only [putD, List.foldl_nil, List.foldl_cons, List.getD_cons_zero, List.getD_cons_succ, Act.put, List.setIfInBounds_toArray, List.set_cons_zero, List.set_cons_succ]
    refine OpGoal.plain ?_
    go_wp2_with fail
    exact ⟨rfl, Ext.refl _, rfl⟩
  case o2 => -- Op.load 31 (Operand.tmp 1)
    intro xv W1 hE _
    obtain ⟨c0, c1, c2⟩ := HQ.out W1 hE
    simp only [putD, List.foldl_nil, List.getD_cons_zero, List.getD_cons_succ]
    refine OpGoal.plain ?_
    go_wp2_with fail
    exact ⟨rfl, Ext.refl _, rfl⟩
  case o3 => -- Op.indexAddr 31 (Operand.tmp 6) (Operand.const (Value.int IntKind.i64 0))
    intro xv W1 hE hp
    have r2 : xv 2 = _ := hp.1
    clear hp
    simp only [putD, List.foldl_nil, List.foldl_cons, List.getD_cons_zero, List.getD_cons_succ, Act.put, List.setIfInBounds_toArray, List.set_cons_zero, List.set_cons_succ]
    refine OpGoal.plain ?_
    go_wp2_with fail
    exact ⟨rfl, Ext.refl _, rfl⟩
  case o4 => -- Op.load 9 (Operand.tmp 7)
    intro xv W1 hE hp
    have r3 : xv 3 = _ := hp.1
    clear hp
    obtain ⟨c0, c1, c2⟩ := HQ.out W1 hE
    simp only [putD, List.foldl_nil, List.foldl_cons, List.getD_cons_zero, List.getD_cons_succ, Act.put, List.setIfInBounds_toArray, List.set_cons_zero, List.set_cons_succ]
    refine OpGoal.plain ?_
    go_wp2_with fail
    exact ⟨rfl, Ext.refl _, rfl⟩
  case o5 => -- Op.binOp BinOp.eql 9 (Operand.tmp 5) (Operand.tmp 8) 9
    intro xv W1 hE hp
    have r1 : xv 1 = _ := hp.1
    have r4 : xv 4 = _ := hp.2.1
    clear hp
    simp only [putD, List.foldl_nil, List.foldl_cons, List.getD_cons_zero, List.getD_cons_succ, Act.put, List.setIfInBounds_toArray, List.set_cons_zero, List.set_cons_succ]
    refine OpGoal.plain ?_
    go_wp2_with fail
    exact ⟨rfl, Ext.refl _, rfl⟩
  case last =>
    intro xv W1 hE hp
    have r0 : xv 0 = _ := hp.1
    have r1 : xv 1 = _ := hp.2.1
    have r2 : xv 2 = _ := hp.2.2.1
    have r3 : xv 3 = _ := hp.2.2.2.1
    have r4 : xv 4 = _ := hp.2.2.2.2.1
    have r5 : xv 5 = _ := hp.2.2.2.2.2.1
    clear hp
    simp only [putD, List.foldl_nil, List.foldl_cons, List.getD_cons_zero, List.getD_cons_succ, Act.put, List.length_cons, List.length_nil, List.range_succ, List.range_zero, List.nil_append, List.cons_append, List.setIfInBounds_toArray, List.set_cons_zero, List.set_cons_succ]
    simp only [r5]
    go_wp2_with fail
    go_ret
    exact ⟨rfl, Ext.trans HEX.out (Ext.trans (Ext.drew V) hE)⟩
set_option maxRecDepth 100000 in
set_option maxHeartbeats 2000000 in
theorem pk_3 (C g n c : Nat) (w0 : List UInt8) (W : World) (hn : 0 < n) (hC : W.cell? ⟨C, 0, none⟩ = some (.slice (some ⟨g, 0, none⟩) n c)) (hg : W.cell? ⟨g, 0, none⟩ = some (strV w0)) :
    Calls Tryz.prog 23 #[.agg x4K, .pointer (some ⟨C, 0, none⟩)] W fun e w' => e = .returned (.bool (decide ([103, 97, 116, 104, 101, 114] = w0))) ∧ Ext W w' := by
  have hB := cells_of (Go.heap_alloc_new W (.cells x4K 53)) 0 _ rfl
  have hEx := Ext.alloc W (.cells x4K 53)
  have HEX := Lib.hid hEx
  obtain ⟨V, hV⟩ : ∃ V, W.alloc (.cells x4K 53) = V := ⟨_, rfl⟩
  rw [hV] at hB hEx HEX
  obtain ⟨S, hS⟩ : ∃ S : ByteArray, ⟨w0.toArray⟩ = S := ⟨_, rfl⟩
  obtain ⟨Z, hZ⟩ : ∃ Z : ByteArray, ⟨[103, 97, 116, 104, 101, 114].toArray⟩ = Z := ⟨_, rfl⟩
  have hcmp : (Z.toList == S.toList) = decide ([103, 97, 116, 104, 101, 114] = w0) := by rw [← hS, ← hZ]; exact bytes_beq _ _
  unfold strV at hg
  rw [hS] at hg
  have hB' : V.cell? ⟨W.heap.size, 0, none⟩ = some (.string Z) := by rw [hB, ← hZ]; rfl
  have HQ := Lib.hid (fun U (h : Ext V.drew U) => And.intro (cell_ext (Ext.trans (Ext.drew V) h) hB') (And.intro (cell_ext (Ext.trans hEx (Ext.trans (Ext.drew V) h)) hC) (cell_ext (Ext.trans hEx (Ext.trans (Ext.drew V) h)) hg)))
  generalize decide ([103, 97, 116, 104, 101, 114] = w0) = q at *
  unfold x4K at hV ⊢
  have HV := Lib.hid hV
  have tn : 0 < n := hn
  clear hB hB' hEx hC hg hV hS hZ
  go_enter Tryz.func23, Tryz.ntmps23
  go_wp2_with fail
  rw [HV.out]
  apply wp_region_seq (l := [_, _, _, _, _, _]) (t := [_]) [some 4, some 5, some 6, some 7, some 8, some 9, some 3] [[], [0], [], [2], [3], [1, 4], [5]] [6, 6, 6, 6, 6, 6] [eqv _, (eqv (.string Z)), (eqv (.slice (some ⟨g, 0, none⟩) n c)), (eqv (.pointer (some ⟨g, 0, none⟩))), (eqv (.string S)), (eqv (.bool q))] (by kernel_rfl) (by kernel_rfl) ⟨?o0, ?o1, ?o2, ?o3, ?o4, ?o5, trivial⟩ ?last
  case o0 => -- Op.fieldAddr 53 (Operand.tmp 2) 0
    intro xv W1 hE _
    simp only [putD, List.foldl_nil, List.getD_cons_zero]
    refine OpGoal.plain ?_
    go_wp2_with fail
    exact ⟨rfl, Ext.refl _, rfl⟩
  case o1 => -- Op.load 9 (Operand.tmp 4)
    intro xv W1 hE hp
    have r0 : xv 0 = _ := hp.1
    clear hp
    obtain ⟨c0, c1, c2⟩ := HQ.out W1 hE
    simp only [putD, List.foldl_nil, List.foldl_cons, List.getD_cons_zero, List.getD_cons_succ, Act.put, List.setIfInBounds_toArray, List.set_cons_zero, List.set_cons_succ]
    refine OpGoal.plain ?_
    go_wp2_with fail
    exact ⟨rfl, Ext.refl _, rfl⟩
  case o2 => -- Op.load 31 (Operand.tmp 1)
    intro xv W1 hE _
    obtain ⟨c0, c1, c2⟩ := HQ.out W1 hE
    simp only [putD, List.foldl_nil, List.getD_cons_zero, List.getD_cons_succ]
    refine OpGoal.plain ?_
    go_wp2_with fail
    exact ⟨rfl, Ext.refl _, rfl⟩
  case o3 => -- Op.indexAddr 31 (Operand.tmp 6) (Operand.const (Value.int IntKind.i64 0))
    intro xv W1 hE hp
    have r2 : xv 2 = _ := hp.1
    clear hp
    simp only [putD, List.foldl_nil, List.foldl_cons, List.getD_cons_zero, List.getD_cons_succ, Act.put, List.setIfInBounds_toArray, List.set_cons_zero, List.set_cons_succ]
    refine OpGoal.plain ?_
    go_wp2_with fail
    exact ⟨rfl, Ext.refl _, rfl⟩
  case o4 => -- Op.load 9 (Operand.tmp 7)
    intro xv W1 hE hp
    have r3 : xv 3 = _ := hp.1
    clear hp
    obtain ⟨c0, c1, c2⟩ := HQ.out W1 hE
    simp only [putD, List.foldl_nil, List.foldl_cons, List.getD_cons_zero, List.getD_cons_succ, Act.put, List.setIfInBounds_toArray, List.set_cons_zero, List.set_cons_succ]
    refine OpGoal.plain ?_
    go_wp2_with fail
    exact ⟨rfl, Ext.refl _, rfl⟩
  case o5 => -- Op.binOp BinOp.eql 9 (Operand.tmp 5) (Operand.tmp 8) 9
    intro xv W1 hE hp
    have r1 : xv 1 = _ := hp.1
    have r4 : xv 4 = _ := hp.2.1
    clear hp
    simp only [putD, List.foldl_nil, List.foldl_cons, List.getD_cons_zero, List.getD_cons_succ, Act.put, List.setIfInBounds_toArray, List.set_cons_zero, List.set_cons_succ]
    refine OpGoal.plain ?_
    go_wp2_with fail
    exact ⟨rfl, Ext.refl _, rfl⟩
  case last =>
    intro xv W1 hE hp
    have r0 : xv 0 = _ := hp.1
    have r1 : xv 1 = _ := hp.2.1
    have r2 : xv 2 = _ := hp.2.2.1
    have r3 : xv 3 = _ := hp.2.2.2.1
    have r4 : xv 4 = _ := hp.2.2.2.2.1
    have r5 : xv 5 = _ := hp.2.2.2.2.2.1
    clear hp
    simp only [putD, List.foldl_nil, List.foldl_cons, List.getD_cons_zero, List.getD_cons_succ, Act.put, List.length_cons, List.length_nil, List.range_succ, List.range_zero, List.nil_append, List.cons_append, List.setIfInBounds_toArray, List.set_cons_zero, List.set_cons_succ]
    simp only [r5]
    go_wp2_with fail
    go_ret
    exact ⟨rfl, Ext.trans HEX.out (Ext.trans (Ext.drew V) hE)⟩
def prK (w0 : List UInt8) (j : Nat) : Bool := decide (wordK ((j : Int) + 1) = w0)
theorem idx_kinds (w0 : List UInt8) : idxF (prK w0) 4 = match idxK w0 with | some k => k - 1 | none => -1 := by
  have e0 : wordK (((0 : Nat) : Int) + 1) = wDrop := rfl
  have e1 : wordK (((1 : Nat) : Int) + 1) = wFuse := rfl
  have e2 : wordK (((2 : Nat) : Int) + 1) = wThin := rfl
  have e3 : wordK (((3 : Nat) : Int) + 1) = wGath := rfl
  by_cases h0 : w0 = wDrop
  · subst h0; decide
  · by_cases h1 : w0 = wFuse
    · subst h1; decide
    · by_cases h2 : w0 = wThin
      · subst h2; decide
      · by_cases h3 : w0 = wGath
        · subst h3; decide
        · have hn : idxK w0 = none := by unfold idxK; rw [if_neg h0, if_neg h1, if_neg h2, if_neg h3]
          rw [hn]
          refine idxF_none fun j hj => ?_
          unfold prK
          obtain rfl | rfl | rfl | rfl : j = 0 ∨ j = 1 ∨ j = 2 ∨ j = 3 := by omega
          · rw [e0]; exact decide_eq_false (fun h => h0 h.symm)
          · rw [e1]; exact decide_eq_false (fun h => h1 h.symm)
          · rw [e2]; exact decide_eq_false (fun h => h2 h.symm)
          · rw [e3]; exact decide_eq_false (fun h => h3 h.symm)
theorem kind_idx (C g n c Kb : Nat) (w0 : List UInt8) (W : World) (hn : 0 < n) (hC : W.cell? ⟨C, 0, none⟩ = some (.slice (some ⟨g, 0, none⟩) n c)) (hg : W.cell? ⟨g, 0, none⟩ = some (strV w0)) (hK : W.heap[Kb]? = some kindsO) :
    Calls Tryz.prog 22 #[.slice (some ⟨Kb, 0, none⟩) 4 4, .func (.func 23) #[] #[.pointer (some ⟨C, 0, none⟩)]] W fun e w' => e = .returned (.int .i64 (match idxK w0 with | some k => k - 1 | none => -1)) ∧ Ext W w' := by
  rw [← idx_kinds w0]
  refine ixKd_any 23 #[.pointer (some ⟨C, 0, none⟩)] (fun args w => by go_simp) (some ⟨Kb, 0, none⟩) 4 4 kindC (prK w0) W (by decide) (fun j hj => ?_) (fun U h j hj => ⟨Kb, 0, rfl, fun i v hv => ?_⟩) (fun U h j hj => ?_)
  · obtain rfl | rfl | rfl | rfl : j = 0 ∨ j = 1 ∨ j = 2 ∨ j = 3 := by omega
    all_goals rfl
  · have hi : i < 6 := by
      have h2 := (List.getElem?_eq_some_iff.1 hv).1
      obtain rfl | rfl | rfl | rfl : j = 0 ∨ j = 1 ∨ j = 2 ∨ j = 3 := by omega
      all_goals exact h2
    rw [Nat.zero_add, kinds_cell (blk_ext hK h) j i hj hi]
    exact hv
  · obtain rfl | rfl | rfl | rfl : j = 0 ∨ j = 1 ∨ j = 2 ∨ j = 3 := by omega
    · exact pk_0 C g n c w0 U hn (cell_ext h hC) (cell_ext h hg)
    · exact pk_1 C g n c w0 U hn (cell_ext h hC) (cell_ext h hg)
    · exact pk_2 C g n c w0 U hn (cell_ext h hC) (cell_ext h hg)
    · exact pk_3 C g n c w0 U hn (cell_ext h hC) (cell_ext h hg)
end Go.Proofs.YtompfgofaplffaaGreatDoor

namespace Go.Proofs.YtompfgofaplffaaGreatDoor
open Go.RowKit Hach Num

/-- Below B nothing changes; from B on a block stays, or a row of n strings gets one more in place. -/
def ApS (B n : Nat) (Tl : List Value) (W W' : World) : Prop := Below B W W' ∧ ∀ k, B ≤ k → k < W.heap.size → W'.heap[k]? = W.heap[k]? ∨
  ∃ cur cur' : Array Value, W.heap[k]? = some (.cells cur 9 (0, 0)) ∧ W'.heap[k]? = some (.cells cur' 9 (0, 0)) ∧ cur'.size = cur.size ∧ n + 1 ≤ cur.size ∧ cur.toList.take n = Tl.take n ∧ cur'.toList.take (n + 1) = Tl
theorem ApS.refl (B n : Nat) (Tl : List Value) (W : World) : ApS B n Tl W W := ⟨Below.refl _ W, fun _ _ _ => .inl rfl⟩
theorem ApS.trans (B n : Nat) (Tl : List Value) {U V W : World} (h : ApS B n Tl U V) (k : ApS B n Tl V W) : ApS B n Tl U W := by
  refine ⟨Below.trans h.1 k.1, fun j hj hl => ?_⟩
  have h1 := h.2 j hj hl
  have h2 := k.2 j hj (Nat.lt_of_lt_of_le hl h.1.size)
  rcases h1 with h1 | ⟨c1, c1', a1, b1, s1, z1, p1, q1⟩ <;> rcases h2 with h2 | ⟨c2, c2', a2, b2, s2, z2, p2, q2⟩
  · exact .inl (h2.trans h1)
  · exact .inr ⟨c2, c2', h1 ▸ a2, b2, s2, z2, p2, q2⟩
  · exact .inr ⟨c1, c1', a1, h2.trans b1, s1, z1, p1, q1⟩
  · rw [b1] at a2
    simp only [Option.some.injEq, Obj.cells.injEq, and_true] at a2
    subst a2
    exact .inr ⟨c1, c2', a1, b2, s2.trans s1, z1, p1, q2⟩
theorem ApS.sz {B n : Nat} {Tl : List Value} {U V : World} (h : ApS B n Tl U V) : U.heap.size ≤ V.heap.size := h.1.size
theorem ApS.ext {B n : Nat} {Tl : List Value} {W W' : World} (h : Ext W W') (hB : B ≤ W.heap.size) : ApS B n Tl W W' :=
  ⟨below_rowE (grownE h none) hB (fun g e => by cases e), fun k _ hl => .inl (h.below.block k hl)⟩
def ownZ (B n : Nat) (Tl : List Value) (l : List (List UInt8)) (hn : l.length ≤ n + 1) (hf : l.map strV = Tl.take l.length) : SPl (ApS B n Tl) := ⟨[], fun _ v W => OwnS W B v l, fun h hE => by
  obtain ⟨h1, h2⟩ := h
  refine ⟨h1, ?_⟩
  rcases h2 with h2 | ⟨g, cap, cur, e, hb, hg, hnc, hcm, hcs, ht⟩
  · exact .inl h2
  · rcases hE.2 g hb (Array.getElem?_eq_some_iff.1 hg).1 with h | ⟨c1, c2, a1, b1, s1, z1, p1, q1⟩
    · exact .inr ⟨g, cap, cur, e, hb, h.trans hg, hnc, hcm, hcs, ht⟩
    · rw [hg] at a1
      simp only [Option.some.injEq, Obj.cells.injEq, and_true] at a1
      subst a1
      refine .inr ⟨g, cap, c2, e, hb, b1, hnc, hcm, s1.trans hcs, ?_⟩
      rw [hf, ← q1, List.take_take, Nat.mul_one, Nat.min_eq_left hn], fun _ h => h⟩
def oneZ (B n : Nat) (Tl : List Value) (hn : 1 ≤ n) (x : List UInt8) : SPl (ApS B n Tl) := ⟨[], fun _ v W => ∃ g, v = .slice (some ⟨g, 0, none⟩) 1 1 ∧ B ≤ g ∧ W.heap[g]? = some (.cells #[strV x] 9 (0, 0)), fun h hE => by
  obtain ⟨g, e, h1, h2⟩ := h
  refine ⟨g, e, h1, ?_⟩
  rcases hE.2 g h1 (Array.getElem?_eq_some_iff.1 h2).1 with h | ⟨c1, c2, a1, _, _, z1, _, _⟩
  · exact h.trans h2
  · exfalso
    rw [h2] at a1
    simp only [Option.some.injEq, Obj.cells.injEq, and_true] at a1
    subst a1
    have : (#[strV x] : Array Value).size = 1 := rfl
    omega, fun _ h => h⟩
theorem appZ {ops : Array Oper} {rest : List Oper} {o : Oper} {a : Act} {w : World} {Q : Exit → Act → World → Prop} (hgd : o.guard = none) (s x : Tmp)
    (ho : o.op = .call { callee := .builtin .append, args := #[.tmp s, .tmp x], argTypes := #[31, 31] }) (B : Nat) (v : Value) (l : List (List UInt8)) (hpos : 1 ≤ l.length) (hs : a.eval (.tmp s) = v) (hown : OwnS w B v l) (hB : B ≤ w.heap.size) (hsm : l.length ≤ 4)
    (g : Nat) (u : List UInt8) (hx : a.eval (.tmp x) = .slice (some ⟨g, 0, none⟩) 1 1) (hg : w.heap[g]? = some (.cells #[strV u] 9 (0, 0)))
    (h : ∀ v' w', OwnS w' B v' (l ++ [u]) → ApS B l.length (l.map strV ++ [strV u]) w w' → wpList Tryz.prog ops Q rest (a.put o.dst v') w') : wpList Tryz.prog ops Q (o :: rest) a w := by
  obtain ⟨i0, hi, hz0, hz1, hz2⟩ := info_parts infoS
  have hcu : ∀ j y, [strV u][j]? = some y → w.cell? ((⟨g, 0, none⟩ : Addr).add j) = some y := fun j y hj => by
    match j, hj with
    | 0, hj => simp at hj; subst hj; simpa [Addr.add] using cells_of hg 0 _ rfl
    | j + 1, hj => simp at hj
  have h1u : ∀ y ∈ [strV u], y.oneCell' = true := fun y hy => by simp at hy; subst hy; rfl
  rcases hown.form with ⟨h0, _⟩ | ⟨b, cap, rfl, hbb, hbs, hnc, hcm, hrow, hfz⟩
  · rw [h0] at hpos; simp at hpos
  by_cases hfull : cap < l.length + 1
  · refine wpList_append_grows w hgd _ _ _ ho 9 i0 _ 1 16 Tryz.underlying31 hi hz0 hz1 hz2 rfl (by decide) (some ⟨b, 0, none⟩) l.length cap (l.map strV) hs (fun h => by cases h) (by simp) (fun q hq j y hj => ?_) ⟨g, 0, none⟩ 1 1 [strV u] hx rfl hcu h1u (by simpa using hfull) ?_ ?_ ?_
    · simp only [Option.some.injEq] at hq
      subst hq
      have hj' : j < l.length := by have := (List.getElem?_eq_some_iff.1 hj).1; simpa using this
      have := hrow j hj'
      rw [List.getD_eq_getElem?_getD, List.getElem?_eq_getElem hj'] at this
      rw [List.getElem?_map, List.getElem?_eq_getElem hj'] at hj
      cases hj
      have e : (⟨b, 0, none⟩ : Addr).add j = ⟨b, j, none⟩ := by cases j <;> simp [Addr.add]
      rw [e]; exact this
    · simp only [maxLen]; omega
    · omega
    · intro v' w' h2 h3
      have hE : Ext w w' := Below.grown (Below.refl _ w) h3 (Nat.le_refl _) (by intro k hk; cases hk)
      have ho' : OwnS w' w.heap.size v' (l ++ [u]) := by
        unfold OwnS
        rw [List.map_append, List.length_append]
        exact h2
      refine h v' w' ⟨ho'.1, ?_⟩ (ApS.ext hE hB)
      rcases ho'.2 with hn | ⟨g, cap, cur, e, hg, r⟩
      · exact .inl hn
      · exact .inr ⟨g, cap, cur, e, Nat.le_trans hB hg, r⟩
  · refine wpList_append_fits w hgd _ _ _ ho B 9 i0 1 Tryz.underlying31 hi hz1 b l.length cap (l.map strV) hs hown ⟨g, 0, none⟩ 1 1 [strV u] hx rfl hcu h1u (by omega) ?_
    intro w' ho' hg'
    have ho2 : OwnS w' B (.slice (some ⟨b, 0, none⟩) (l.length + 1) cap) (l ++ [u]) := by
      unfold OwnS
      rw [List.map_append, List.length_append]
      exact ho'
    refine h _ w' ho2 ⟨below_rowE hg' hB (fun k e => by simp only [Option.some.injEq] at e; omega), fun k hk hl => ?_⟩
    by_cases e : k = b
    · subst e
      right
      obtain ⟨_, h2⟩ := hown
      obtain ⟨_, h3⟩ := ho2
      rcases h2 with ⟨h2, _⟩ | ⟨g1, cap1, cur1, e1, _, k1, _, _, s1, t1⟩
      · cases h2
      rcases h3 with ⟨h3, _⟩ | ⟨g2, cap2, cur2, e2, _, k2, n2, _, s2, t2⟩
      · cases h3
      simp only [Value.slice.injEq, Option.some.injEq, Addr.mk.injEq, and_true, true_and] at e1 e2
      obtain ⟨rfl, rfl⟩ := e1
      obtain ⟨rfl, e22, rfl⟩ := e2
      rw [List.length_append, List.length_singleton, Nat.mul_one] at t2
      rw [List.length_append, List.length_singleton] at n2
      refine ⟨cur1, cur2, k1, k2, s2.trans s1.symm, by rw [s1]; omega, ?_, ?_⟩
      · rw [Nat.mul_one] at t1
        rw [t1, List.take_append_of_le_length (by simp), List.take_of_length_le (by simp)]
      · rw [t2]; simp
    · exact .inl (hg'.block k hl (by simpa using e))
/-- A part of a row of words, copied. -/
theorem sclone_any (gW m : Nat) (ws : List (List UInt8)) (c : Nat) (W : World) (hr : StrRow W gW ws) (hm : 1 + m ≤ ws.length) (hw : ws.length ≤ 10) :
    Calls Tryz.prog 24 #[.slice (some ⟨gW, 1, none⟩) m c] W fun e w' => (∃ v, e = .returned v ∧ OwnS w' W.heap.size v ((ws.drop 1).take m)) ∧ Ext W w' := by
  have hlen : ((ws.drop 1).take m).length = m := by rw [List.length_take, List.length_drop]; omega
  refine (Tryz.slices_Clone_string gW 1 m c (((ws.drop 1).take m).map fun x => (⟨x.toArray⟩ : ByteArray)) W (by rw [List.length_map, hlen]; exact Nat.le_refl _) (by omega) (fun j hj => ?_)).mono ?_
  · rw [List.length_map, hlen] at hj
    have := hr (1 + j) (by omega)
    rw [this]
    unfold strV
    congr 2
    have h1 : 1 + j < ws.length := by omega
    rw [List.getD_eq_getElem?_getD, List.getD_eq_getElem?_getD, List.getElem?_map, List.getElem?_take, if_pos hj, List.getElem?_drop, List.getElem?_eq_getElem h1]
    rfl
  · rintro e w' ⟨v', rfl, h2, _, hE⟩
    refine ⟨⟨v', rfl, ?_⟩, hE⟩
    unfold OwnS
    rw [hlen]
    rw [List.take_of_length_le (by rw [List.length_map, hlen]; exact Nat.le_refl _), List.map_map] at h2
    exact h2
end Go.Proofs.YtompfgofaplffaaGreatDoor
