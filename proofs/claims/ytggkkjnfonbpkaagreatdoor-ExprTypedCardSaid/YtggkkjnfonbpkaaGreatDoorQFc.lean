/- The contracts of the reference's text and piece (printed by gen_fc.py). -/
import Derived.Test.YtggkkjnfonbpkaaGreatDoorQFb

set_option linter.unusedSimpArgs false
set_option linter.unusedVariables false
namespace Go.Proofs.YtggkkjnfonbpkaaGreatDoor
open Go.RowKit Hach

def rTextC (d : Nat) : Prop := ∀ (e : Ex) (t : Int) (A : Option Addr) (c : Nat) (w : World), Rt e t → ExB w w.heap.size d A e.l → e.size < 1048576 →
    Calls Tryz.prog 44 #[.agg (e.cells A c).toArray] w fun r w' => r = .returned (.string (sv e.text)) ∧ Ext w w'
theorem leaf_iff {e : Ex} {t : Int} (h : Rt e t) : e.l.isEmpty = (decide (e.op = 1) || decide (e.op = 2)) := by
  rcases h.inv5 with ⟨h6, hl, hr⟩ | ⟨h6, hl, hr⟩ | ⟨h6, a, _, hl, ha⟩ | ⟨h6, a, b, _, _, hl, ha, hb⟩ | ⟨h6, a, b, c', _, _, _, hl, ha, hb, hc⟩
  · simp [h6, hl]
  · simp [h6, hl]
  · simp [h6, hl]
  · rw [hl, decide_eq_false (by omega), decide_eq_false (by omega)]; rfl
  · simp [h6, hl]
set_option maxRecDepth 100000 in
set_option maxHeartbeats 2000000 in
theorem piece_of {d : Nat} (h : rTextC d) (e : Ex) (t : Int) (A : Option Addr) (c : Nat) (w : World) (hrt : Rt e t) (hX : ExB w w.heap.size d A e.l) (hsz : e.size < 1048576) :
    Calls Tryz.prog 62 #[.agg (e.cells A c).toArray] w fun r w' => r = .returned (.string (sv e.piece)) ∧ Ext w w' := by
  have HC := Lib.hid (fun (W : World) (hE : Ext w W) => h e t A c W hrt (hX.ext hE) hsz)
  obtain ⟨w0, hw0⟩ : ∃ w0, w.alloc (.cells (e.cells A c).toArray 29) = w0 := ⟨_, rfl⟩
  have hE0 : Ext w w0 := by rw [← hw0]; exact Ext.alloc _ _
  have hBx : Box w0 w.heap.size e A c := by rw [← hw0]; exact Box.new w e A c 29
  have hlf := leaf_iff hrt
  have HPC := Lib.hid (show e.piece = if e.l.isEmpty then e.text else 40 :: (e.text ++ [41]) from rfl)
  have hbs : (sv e.text).size < 1073741824 := by rw [sv_size]; have := text_len hrt; omega
  unfold Ex.cells at hw0 HC ⊢
  have HW := Lib.hid hw0
  obtain ⟨_, y0, y1, y2, y3, y4, y5, y6⟩ := hBx
  generalize hB : sv e.text = B at *
  have HB := Lib.hid hB
  have c1 : (⟨#[40]⟩ : ByteArray).size ≤ 1 := by decide
  have c2 : (⟨#[41]⟩ : ByteArray).size ≤ 1 := by decide
  clear hw0 hX hsz hrt h hB
  by_cases h1 : e.op = 1
  · have t1 : (e.op == 1) = true := by simp [h1]
    have HX := Lib.hid (show B = sv e.piece by rw [HPC.out, hlf, h1, ← HB.out]; rfl)
    clear h1 hlf
    go_enter Tryz.func62, Tryz.ntmps62
    go_upto_region 1 with fail
    rw [HW.out]
    go_wp2_with fail
    refine (HC.out _ hE0).mono ?_
    rintro r w1 ⟨rfl, hE1⟩
    go_wp2_with fail
    go_ret
    exact ⟨by rw [← HX.out]; rfl, hE0.trans hE1⟩
  · have t1 : (e.op == 1) = false := by simpa using h1
    by_cases h2 : e.op = 2
    · have t2 : (e.op == 2) = true := by simp [h2]
      have HX := Lib.hid (show B = sv e.piece by rw [HPC.out, hlf, h2, ← HB.out]; rfl)
      clear h1 h2 hlf
      go_enter Tryz.func62, Tryz.ntmps62
      go_upto_region 1 with fail
      rw [HW.out]
      go_wp2_with fail
      refine (HC.out _ hE0).mono ?_
      rintro r w1 ⟨rfl, hE1⟩
      go_wp2_with fail
      go_ret
      exact ⟨by rw [← HX.out]; rfl, hE0.trans hE1⟩
    · have t2 : (e.op == 2) = false := by simpa using h2
      have HX := Lib.hid (show (⟨#[40]⟩ ++ B ++ ⟨#[41]⟩ : ByteArray) = sv e.piece by
        rw [HPC.out, hlf, decide_eq_false h1, decide_eq_false h2, ← HB.out]
        show sv [40] ++ sv e.text ++ sv [41] = _
        rw [sv_app, sv_app]; rfl)
      clear h1 h2 hlf
      go_enter Tryz.func62, Tryz.ntmps62
      go_upto_region 1 with fail
      rw [HW.out]
      go_wp2_with fail
      refine (HC.out _ hE0).mono ?_
      rintro r w1 ⟨rfl, hE1⟩
      go_wp2_with fail
      go_ret
      exact ⟨by rw [← HX.out]; rfl, hE0.trans hE1⟩
set_option maxRecDepth 100000 in
set_option maxHeartbeats 8000000 in
theorem rText_any (d : Nat) : rTextC d := by
  induction d using Nat.strongRecOn with
  | _ d ih =>
    intro e t A c w hrt hX hsz
    have HRT := Lib.hid hrt
    have HSZ := Lib.hid hsz
    have hlen := hrt.len3
    have HV := Lib.hid e.text_eq
    obtain ⟨w0, hw0⟩ : ∃ w0, w.alloc (.cells (e.cells A c).toArray 29) = w0 := ⟨_, rfl⟩
    have hE0 : Ext w w0 := by rw [← hw0]; exact Ext.alloc _ _
    have hBx : Box w0 w.heap.size e A c := by rw [← hw0]; exact Box.new w e A c 29
    have HW := Lib.hid hw0
    have hlt0 := hBx.lt
    have HBx := Lib.hid hBx
    obtain ⟨_, y0, y1, y2, y3, y4, y5, y6⟩ := hBx
    have HIH : Hid (∀ (j : Nat) (hj : j < e.l.length) (B : ByteArray), sv (e.l[j]).piece = B → ∃ b o A' c', A = some ⟨b, o, none⟩ ∧ b < w.heap.size ∧ One w b (o + j * 7) (e.l[j]) A' c' ∧ ∀ W, Ext w W → Calls Tryz.prog 62 #[.agg ((e.l[j]).cells A' c').toArray] W fun r w' => r = .returned (.string B) ∧ Ext W w') := Lib.hid fun j hj B hB => by
      obtain ⟨b, o, A', c', d', hd, hA, hb, hX', hOne⟩ := hX.at_ hj
      obtain ⟨s, hs⟩ := HRT.out.kid hj
      subst hB
      exact ⟨b, o, A', c', hA, hb, hOne, fun W hW => piece_of (ih d' (by omega)) _ s A' c' W hs (hX'.ext hW) (Nat.lt_of_le_of_lt (Ex.kid_size hj) HSZ.out)⟩
    unfold Ex.cells
    unfold Ex.cells at HW
    clear hw0 hrt hsz hX ih
    go_enter Tryz.func44, Tryz.ntmps44
    go_upto_region 1 with fail
    rw [HW.out]
    have hiv := HRT.out.inv5
    rcases hiv with ⟨h6, hl, hr⟩ | ⟨h6, hl, hr⟩ | ⟨h6, a, _, hl, ha⟩ | ⟨h6, a, b, _, _, hl, ha, hb⟩ | ⟨h6, a, b, c', _, _, _, hl, ha, hb, hc⟩
    · have HT := Lib.hid (show e.text = tx 1 e.var e.vl [] by rw [HV.out, h6, hl]; rfl)
      have hty := right_ty hr
      rw [h6] at y0
      clear h6 hl
      rcases (by omega : e.vl.ty = 1 ∨ e.vl.ty = 2 ∨ e.vl.ty = 3) with h1 | h1 | h1
      · obtain ⟨n1, n2⟩ := right_int hr h1
        have HT2 := Lib.hid (show e.text = Lib.itoa e.n by rw [HT.out]; unfold tx; rw [if_pos rfl, if_pos h1]; rfl)
        rw [show e.ty = 1 from h1] at y2
        have n1' : -1073741824 ≤ e.n := n1
        have n2' : e.n ≤ 1073741824 := n2
        clear h1 hr HT hty n1 n2
        go_wp2_with fail
        refine (decimal_any e.n n1' n2' _).mono ?_
        rintro r w1 ⟨rfl, hE1⟩
        go_wp2_with fail
        go_ret
        exact ⟨by rw [HT2.out]; rfl, hE0.trans hE1⟩
      · have HT2 := Lib.hid (show e.text = if e.b = true then tTrue else tFalse by rw [HT.out]; unfold tx; rw [if_pos rfl, if_neg (by omega), if_pos h1]; rfl)
        rw [show e.ty = 2 from h1] at y2
        clear h1 hr HT hty
        generalize e.b = m at *
        cases m
        all_goals
          go_wp2_with fail
          go_ret
          exact ⟨by rw [HT2.out]; rfl, hE0⟩
      · have htt := right_txt hr h1
        have HT2 := Lib.hid (show sv e.text = sv [34] ++ sv e.s ++ sv [34] by rw [HT.out]; unfold tx; rw [if_pos rfl, if_neg (by omega), if_neg (by omega), sv_app, sv_app]; rfl)
        have hbs : (sv e.s).size ≤ 24 := by rw [sv_size]; exact htt.1
        rw [show e.ty = 3 from h1] at y2
        have y5b : w0.cell? ⟨w.heap.size, 5, none⟩ = some (.string (sv e.s)) := y5
        have c1 : (⟨#[34]⟩ : ByteArray).size ≤ 1 := by decide
        clear h1 hr HT hty htt y5
        generalize sv e.s = B at *
        go_wp2_with fail
        go_ret
        exact ⟨by rw [HT2.out]; rfl, hE0⟩
    · obtain ⟨j, hj⟩ : ∃ j : Nat, e.var = (j : Int) + 1 := ⟨(e.var - 1).toNat, by omega⟩
      have hj9 : j < 9 := by omega
      have HT := Lib.hid (show e.text = nmL.getD j [] by rw [HV.out, h6]; unfold tx; rw [if_neg (by omega), if_pos rfl, hj]; congr 1; omega)
      rw [h6] at y0
      rw [hj] at y1
      clear h6 hl hr hj
      go_wp2_with fail
      apply wp_region_seq (l := [_, _, _, _]) (t := [_, _, _]) [some 28, some 29, some 30, some 31, some 32, some 33, some 2] [[], [], [1], [2], [0, 3], [4], [5]] [4, 2, 3, 4] [(slS w0.heap.size nmL), eqv _, eqv _, eqv _] (by kernel_rfl) (by kernel_rfl) ⟨?o0, ?o1, ?o2, ?o3, trivial⟩ ?last
      case o0 => -- Op.call { callee := Callee.value (Operand.func 61), args := #[], argTypes := #[]
        intro xv W hE _
        simp only [putD, List.foldl_nil, List.getD_cons_zero]
        refine OpGoal.plain ?_
        go_wp2_with fail
        refine (rNames_any _).mono ?_
        rintro r w' ⟨rfl, hrow, hE5⟩
        go_wp2_with fail
        exact ⟨rfl, hE5, _, rfl, by have := hE.sz; simpa using this, hrow⟩
      case o1 => -- Op.fieldAddr 29 (Operand.tmp 1) 1
        intro xv W hE _
        simp only [putD, List.foldl_nil, List.getD_cons_zero, List.getD_cons_succ]
        refine OpGoal.plain ?_
        go_wp2_with fail
        exact ⟨rfl, Ext.refl _, rfl⟩
      case o2 => -- Op.load 3 (Operand.tmp 29)
        intro xv W hE hp
        have r1 : xv 1 = _ := hp.1
        clear hp
        have y1w := (((Ext.drew w0).trans hE).old (p := ⟨w.heap.size, 1, none⟩) hlt0).trans y1
        simp only [putD, List.foldl_nil, List.foldl_cons, List.getD_cons_zero, List.getD_cons_succ, Act.put, List.setIfInBounds_toArray, List.set_cons_zero, List.set_cons_succ]
        refine OpGoal.plain ?_
        go_wp2_with fail
        exact ⟨rfl, Ext.refl _, rfl⟩
      case o3 => -- Op.binOp BinOp.sub 3 (Operand.tmp 30) (Operand.const (Value.int IntKind.i64 1)) 
        intro xv W hE hp
        have r2 : xv 2 = _ := hp.1
        clear hp
        simp only [putD, List.foldl_nil, List.foldl_cons, List.getD_cons_zero, List.getD_cons_succ, Act.put, List.setIfInBounds_toArray, List.set_cons_zero, List.set_cons_succ]
        refine OpGoal.plain ?_
        go_wp2_with fail
        exact ⟨rfl, Ext.refl _, rfl⟩
      case last =>
        intro xv W hE hp
        have r0 := hp.1
        have r1 : xv 1 = _ := hp.2.1
        have r2 : xv 2 = _ := hp.2.2.1
        have r3 : xv 3 = _ := hp.2.2.2.1
        clear hp
        simp only [putD, List.foldl_nil, List.foldl_cons, List.getD_cons_zero, List.getD_cons_succ, Act.put, List.length_cons, List.length_nil, List.range_succ, List.range_zero, List.nil_append, List.cons_append, List.setIfInBounds_toArray, List.set_cons_zero, List.set_cons_succ]
        obtain ⟨g, e0, hg, hrow⟩ := r0
        have hEw : Ext w0 W := (Ext.drew w0).trans hE
        have z := hrow.2 j hj9
        rw [e0, r3]
        have h9 : nmL.length = 9 := rfl
        simp only [h9]
        clear r1 r2 r3 e0 hrow h9
        go_wp2_with fail
        go_ret
        exact ⟨by rw [HT.out]; rfl, hE0.trans hEw⟩
    · have h01 : 0 < e.l.length := by rw [hl]; simp
      have HT := Lib.hid (show sv e.text = sv (tNot ++ [32]) ++ sv (e.l[0]).piece by rw [HV.out, h6, sv_app]; unfold tx; rw [Ex.pieces_map]; simp [List.getD, h01])
      obtain ⟨s, hs⟩ := HRT.out.kid h01
      have hbs := kid_piece HSZ.out hs (List.getElem_mem h01)
      obtain ⟨B, hB⟩ : ∃ B, sv (e.l[0]).piece = B := ⟨_, rfl⟩
      rw [hB] at hbs HT
      obtain ⟨b, o, A', c', rfl, hb, hOne, hC⟩ := HIH.out 0 h01 B hB
      obtain ⟨q7, q8, q9, q10, q11, q12, q13⟩ := hOne.ext hb hE0
      simp only [Nat.zero_mul, Nat.one_mul, Nat.add_zero, Nat.reduceMul, Nat.add_assoc, Nat.reduceAdd] at q7 q8 q9 q10 q11 q12 q13
      simp only [Ex.cells] at hC
      have HC := Lib.hid hC
      have c1 : (⟨#[110, 111, 116, 32]⟩ : ByteArray).size ≤ 4 := by decide
      rw [h6] at y0
      clear hC hOne hb h6 hl ha hs hB
      generalize e.l[0] = y at *
      go_wp2_with fail
      refine (HC.out _ hE0).mono ?_
      rintro r w1 ⟨rfl, hE1⟩
      go_wp2_with fail
      go_ret
      exact ⟨by rw [HT.out]; rfl, hE0.trans hE1⟩
    · have h01 : 1 < e.l.length := by rw [hl]; simp
      obtain ⟨j, hj⟩ : ∃ j : Nat, e.op = (j : Int) + 4 := ⟨(e.op - 4).toNat, by omega⟩
      have hj9 : j < 9 := by omega
      have hj4 : (e.op - 4).toNat = j := by omega
      have h00 : 0 < e.l.length := by omega
      have HT := Lib.hid (show sv e.text = sv (e.l[0]).piece ++ sv [32] ++ sv (wdL.getD j []) ++ sv [32] ++ sv (e.l[1]).piece by
        rw [two_text h6 hl, hj4]
        simp [hl])
      have h6' := hj
      have e1 : (((j : Int) + 4) == 1) = false := int_ne (by omega)
      have e2 : (((j : Int) + 4) == 2) = false := int_ne (by omega)
      have e3 : (((j : Int) + 4) == 3) = false := int_ne (by omega)
      have e13 : (((j : Int) + 4) == 13) = false := int_ne (by omega)
      have h00 : 0 < e.l.length := by rw [hl]; simp
      obtain ⟨_, hs0⟩ := HRT.out.kid h00
      have s0 := kid_piece HSZ.out hs0 (List.getElem_mem h00)
      have h01 : 1 < e.l.length := by rw [hl]; simp
      obtain ⟨_, hs1⟩ := HRT.out.kid h01
      have s1 := kid_piece HSZ.out hs1 (List.getElem_mem h01)
      obtain ⟨B0, hB0⟩ : ∃ B, sv (e.l[0]).piece = B := ⟨_, rfl⟩
      rw [hB0] at s0 HT
      obtain ⟨b, o, A0, c0, hA, hb0, hO0, hC0⟩ := HIH.out 0 h00 B0 hB0
      simp only [Ex.cells] at hC0
      have HC0 := Lib.hid hC0
      have HO0 := Lib.hid hO0
      subst hA
      obtain ⟨B1, hB1⟩ : ∃ B, sv (e.l[1]).piece = B := ⟨_, rfl⟩
      rw [hB1] at s1 HT
      obtain ⟨b1, o1, A1, c1, hA1, hb1, hO1, hC1⟩ := HIH.out 1 h01 B1 hB1
      simp only [Ex.cells] at hC1
      have HC1 := Lib.hid hC1
      have HO1 := Lib.hid hO1
      obtain ⟨rfl, rfl⟩ : b = b1 ∧ o = o1 := by simpa using hA1
      rw [h6'] at y0
      have hbw : b < w.heap.size := hb0
      have hl0 : 0 < e.l.length := h00
      have hl1 : 1 < e.l.length := h01
      clear h6 hl ha hb hC0 hO0 hB0 hs0 hb0 hC1 hO1 hB1 hs1 hb1 hA1
      generalize e.l[0] = x0 at *
      generalize e.l[1] = x1 at *
      clear h6' hj hj4
      have sw : (sv (wdL.getD j [])).size ≤ 3 := by rw [sv_size]; exact wd_len j
      obtain ⟨Bw, hBw⟩ : ∃ Bw, sv (wdL.getD j []) = Bw := ⟨_, rfl⟩
      have HBw := Lib.hid hBw
      rw [hBw] at sw HT
      clear hBw
      have k1 : (⟨#[32]⟩ : ByteArray).size ≤ 1 := by decide
      go_wp2_with fail
      apply wp_region_seq (l := [_, _, _, _, _, _, _, _, _, _, _, _, _, _, _, _, _, _, _]) (t := [_, _]) [some 64, some 65, some 66, some 67, some 68, some 69, some 70, some 71, some 72, some 73, some 74, some 75, some 76, some 77, some 78, some 79, some 80, some 81, some 82, some 83, some 2] [[], [0], [1], [2], [3], [4], [], [], [7], [8], [6, 9], [10], [5, 11], [12], [], [14], [15], [16], [17], [13, 18], [19]] [1, 2, 3, 4, 6, 12, 18, 8, 9, 10, 11, 12, 13, 19, 15, 16, 17, 18, 19] [eqv _, eqv _, eqv _, eqv _, (eqv (.string B0)), eqv _, (slS w0.heap.size wdL), eqv _, eqv _, eqv _, (ptS Bw), eqv _, eqv _, eqv _, eqv _, eqv _, eqv _, eqv _, (eqv (.string B1))] (by kernel_rfl) (by kernel_rfl) ⟨?o0, ?o1, ?o2, ?o3, ?o4, ?o5, ?o6, ?o7, ?o8, ?o9, ?o10, ?o11, ?o12, ?o13, ?o14, ?o15, ?o16, ?o17, ?o18, trivial⟩ ?last
      case o0 => -- Op.fieldAddr 29 (Operand.tmp 1) 3
        intro xv W hE _
        simp only [putD, List.foldl_nil, List.getD_cons_zero]
        refine OpGoal.plain ?_
        go_wp2_with fail
        exact ⟨rfl, Ext.refl _, rfl⟩
      case o1 => -- Op.load 27 (Operand.tmp 64)
        intro xv W hE hp
        have r0 : xv 0 = _ := hp.1
        clear hp
        have hEw : Ext w0 W := (Ext.drew w0).trans hE
        have y0w := (hEw.old (p := ⟨w.heap.size, 0, none⟩) hlt0).trans y0
        have y6w := (hEw.old (p := ⟨w.heap.size, 6, none⟩) hlt0).trans y6
        obtain ⟨q00, q01, q02, q03, q04, q05, q06⟩ := HO0.out.ext hbw (hE0.trans hEw)
        simp only [Nat.zero_mul, Nat.one_mul, Nat.add_zero, Nat.reduceMul, Nat.add_assoc, Nat.reduceAdd] at q00 q01 q02 q03 q04 q05 q06
        obtain ⟨q10, q11, q12, q13, q14, q15, q16⟩ := HO1.out.ext hbw (hE0.trans hEw)
        simp only [Nat.zero_mul, Nat.one_mul, Nat.add_zero, Nat.reduceMul, Nat.add_assoc, Nat.reduceAdd] at q10 q11 q12 q13 q14 q15 q16
        simp only [putD, List.foldl_nil, List.foldl_cons, List.getD_cons_zero, List.getD_cons_succ, Act.put, List.setIfInBounds_toArray, List.set_cons_zero, List.set_cons_succ]
        refine OpGoal.plain ?_
        go_wp2_with fail
        exact ⟨rfl, Ext.refl _, rfl⟩
      case o2 => -- Op.indexAddr 27 (Operand.tmp 65) (Operand.const (Value.int IntKind.i64 0))
        intro xv W hE hp
        have r1 : xv 1 = _ := hp.1
        clear hp
        simp only [putD, List.foldl_nil, List.foldl_cons, List.getD_cons_zero, List.getD_cons_succ, Act.put, List.setIfInBounds_toArray, List.set_cons_zero, List.set_cons_succ]
        refine OpGoal.plain ?_
        go_wp2_with fail
        exact ⟨rfl, Ext.refl _, rfl⟩
      case o3 => -- Op.load 29 (Operand.tmp 66)
        intro xv W hE hp
        have r2 : xv 2 = _ := hp.1
        clear hp
        have hEw : Ext w0 W := (Ext.drew w0).trans hE
        have y0w := (hEw.old (p := ⟨w.heap.size, 0, none⟩) hlt0).trans y0
        have y6w := (hEw.old (p := ⟨w.heap.size, 6, none⟩) hlt0).trans y6
        obtain ⟨q00, q01, q02, q03, q04, q05, q06⟩ := HO0.out.ext hbw (hE0.trans hEw)
        simp only [Nat.zero_mul, Nat.one_mul, Nat.add_zero, Nat.reduceMul, Nat.add_assoc, Nat.reduceAdd] at q00 q01 q02 q03 q04 q05 q06
        obtain ⟨q10, q11, q12, q13, q14, q15, q16⟩ := HO1.out.ext hbw (hE0.trans hEw)
        simp only [Nat.zero_mul, Nat.one_mul, Nat.add_zero, Nat.reduceMul, Nat.add_assoc, Nat.reduceAdd] at q10 q11 q12 q13 q14 q15 q16
        simp only [putD, List.foldl_nil, List.foldl_cons, List.getD_cons_zero, List.getD_cons_succ, Act.put, List.setIfInBounds_toArray, List.set_cons_zero, List.set_cons_succ]
        refine OpGoal.plain ?_
        go_wp2_with fail
        exact ⟨rfl, Ext.refl _, rfl⟩
      case o4 => -- Op.call { callee := Callee.value (Operand.func 62), args := #[Operand.tmp 67], a
        intro xv W hE hp
        have r3 : xv 3 = _ := hp.1
        clear hp
        simp only [putD, List.foldl_nil, List.foldl_cons, List.getD_cons_zero, List.getD_cons_succ, Act.put, List.setIfInBounds_toArray, List.set_cons_zero, List.set_cons_succ]
        refine OpGoal.plain ?_
        go_wp2_with fail
        refine (HC0.out _ (hE0.trans ((Ext.drew w0).trans hE))).mono ?_
        rintro r w' ⟨rfl, hE5⟩
        go_wp2_with fail
        exact ⟨rfl, hE5, rfl⟩
      case o5 => -- Op.binOp BinOp.add 9 (Operand.tmp 68) (Operand.const (Value.string { data := #[3
        intro xv W hE hp
        have r4 : xv 4 = _ := hp.1
        clear hp
        simp only [putD, List.foldl_nil, List.foldl_cons, List.getD_cons_zero, List.getD_cons_succ, Act.put, List.setIfInBounds_toArray, List.set_cons_zero, List.set_cons_succ]
        refine OpGoal.plain ?_
        go_wp2_with fail
        exact ⟨rfl, Ext.refl _, rfl⟩
      case o6 => -- Op.call { callee := Callee.value (Operand.func 63), args := #[], argTypes := #[]
        intro xv W hE _
        simp only [putD, List.foldl_nil, List.getD_cons_zero, List.getD_cons_succ]
        refine OpGoal.plain ?_
        go_wp2_with fail
        refine (rOps_any _).mono ?_
        rintro r w' ⟨rfl, hrow, hE5⟩
        go_wp2_with fail
        exact ⟨rfl, hE5, _, rfl, by have := hE.sz; simpa using this, hrow⟩
      case o7 => -- Op.fieldAddr 29 (Operand.tmp 1) 0
        intro xv W hE _
        simp only [putD, List.foldl_nil, List.getD_cons_zero, List.getD_cons_succ]
        refine OpGoal.plain ?_
        go_wp2_with fail
        exact ⟨rfl, Ext.refl _, rfl⟩
      case o8 => -- Op.load 3 (Operand.tmp 71)
        intro xv W hE hp
        have r7 : xv 7 = _ := hp.1
        clear hp
        have hEw : Ext w0 W := (Ext.drew w0).trans hE
        have y0w := (hEw.old (p := ⟨w.heap.size, 0, none⟩) hlt0).trans y0
        have y6w := (hEw.old (p := ⟨w.heap.size, 6, none⟩) hlt0).trans y6
        obtain ⟨q00, q01, q02, q03, q04, q05, q06⟩ := HO0.out.ext hbw (hE0.trans hEw)
        simp only [Nat.zero_mul, Nat.one_mul, Nat.add_zero, Nat.reduceMul, Nat.add_assoc, Nat.reduceAdd] at q00 q01 q02 q03 q04 q05 q06
        obtain ⟨q10, q11, q12, q13, q14, q15, q16⟩ := HO1.out.ext hbw (hE0.trans hEw)
        simp only [Nat.zero_mul, Nat.one_mul, Nat.add_zero, Nat.reduceMul, Nat.add_assoc, Nat.reduceAdd] at q10 q11 q12 q13 q14 q15 q16
        simp only [putD, List.foldl_nil, List.foldl_cons, List.getD_cons_zero, List.getD_cons_succ, Act.put, List.setIfInBounds_toArray, List.set_cons_zero, List.set_cons_succ]
        refine OpGoal.plain ?_
        go_wp2_with fail
        exact ⟨rfl, Ext.refl _, rfl⟩
      case o9 => -- Op.binOp BinOp.sub 3 (Operand.tmp 72) (Operand.const (Value.int IntKind.i64 4)) 
        intro xv W hE hp
        have r8 : xv 8 = _ := hp.1
        clear hp
        simp only [putD, List.foldl_nil, List.foldl_cons, List.getD_cons_zero, List.getD_cons_succ, Act.put, List.setIfInBounds_toArray, List.set_cons_zero, List.set_cons_succ]
        refine OpGoal.plain ?_
        go_wp2_with fail
        exact ⟨rfl, Ext.refl _, rfl⟩
      case o10 => -- Op.indexAddr 53 (Operand.tmp 70) (Operand.tmp 73)
        intro xv W hE hp
        have r6 := hp.1
        have r9 : xv 9 = _ := hp.2.1
        clear hp
        obtain ⟨g, e6, hg, hrow⟩ := r6
        have hz := hrow.2 j hj9
        have hz1 := hrow.1
        have HZ := Lib.hid (show W.cell? ⟨g, j, none⟩ = some (.string Bw) by rw [← HBw.out]; exact hz)
        have h9 : wdL.length = 9 := rfl
        rw [h9] at e6
        clear hz hrow h9
        simp only [putD, List.foldl_nil, List.foldl_cons, List.getD_cons_zero, List.getD_cons_succ, Act.put, List.setIfInBounds_toArray, List.set_cons_zero, List.set_cons_succ]
        refine OpGoal.plain ?_
        go_wp2_with fail
        exact ⟨rfl, Ext.refl _, _, rfl, hz1, HZ.out⟩
      case o11 => -- Op.load 9 (Operand.tmp 74)
        intro xv W hE hp
        have r10 := hp.1
        clear hp
        have hEw : Ext w0 W := (Ext.drew w0).trans hE
        have y0w := (hEw.old (p := ⟨w.heap.size, 0, none⟩) hlt0).trans y0
        have y6w := (hEw.old (p := ⟨w.heap.size, 6, none⟩) hlt0).trans y6
        obtain ⟨q00, q01, q02, q03, q04, q05, q06⟩ := HO0.out.ext hbw (hE0.trans hEw)
        simp only [Nat.zero_mul, Nat.one_mul, Nat.add_zero, Nat.reduceMul, Nat.add_assoc, Nat.reduceAdd] at q00 q01 q02 q03 q04 q05 q06
        obtain ⟨q10, q11, q12, q13, q14, q15, q16⟩ := HO1.out.ext hbw (hE0.trans hEw)
        simp only [Nat.zero_mul, Nat.one_mul, Nat.add_zero, Nat.reduceMul, Nat.add_assoc, Nat.reduceAdd] at q10 q11 q12 q13 q14 q15 q16
        obtain ⟨ad, e10, hb8, hc8⟩ := r10
        simp only [putD, List.foldl_nil, List.foldl_cons, List.getD_cons_zero, List.getD_cons_succ, Act.put, List.setIfInBounds_toArray, List.set_cons_zero, List.set_cons_succ]
        refine OpGoal.plain ?_
        go_wp2_with fail
        exact ⟨rfl, Ext.refl _, rfl⟩
      case o12 => -- Op.binOp BinOp.add 9 (Operand.tmp 69) (Operand.tmp 75) 9
        intro xv W hE hp
        have r5 : xv 5 = _ := hp.1
        have r11 : xv 11 = _ := hp.2.1
        clear hp
        simp only [putD, List.foldl_nil, List.foldl_cons, List.getD_cons_zero, List.getD_cons_succ, Act.put, List.setIfInBounds_toArray, List.set_cons_zero, List.set_cons_succ]
        refine OpGoal.plain ?_
        go_wp2_with fail
        exact ⟨rfl, Ext.refl _, rfl⟩
      case o13 => -- Op.binOp BinOp.add 9 (Operand.tmp 76) (Operand.const (Value.string { data := #[3
        intro xv W hE hp
        have r12 : xv 12 = _ := hp.1
        clear hp
        simp only [putD, List.foldl_nil, List.foldl_cons, List.getD_cons_zero, List.getD_cons_succ, Act.put, List.setIfInBounds_toArray, List.set_cons_zero, List.set_cons_succ]
        refine OpGoal.plain ?_
        go_wp2_with fail
        exact ⟨rfl, Ext.refl _, rfl⟩
      case o14 => -- Op.fieldAddr 29 (Operand.tmp 1) 3
        intro xv W hE _
        simp only [putD, List.foldl_nil, List.getD_cons_zero, List.getD_cons_succ]
        refine OpGoal.plain ?_
        go_wp2_with fail
        exact ⟨rfl, Ext.refl _, rfl⟩
      case o15 => -- Op.load 27 (Operand.tmp 78)
        intro xv W hE hp
        have r14 : xv 14 = _ := hp.1
        clear hp
        have hEw : Ext w0 W := (Ext.drew w0).trans hE
        have y0w := (hEw.old (p := ⟨w.heap.size, 0, none⟩) hlt0).trans y0
        have y6w := (hEw.old (p := ⟨w.heap.size, 6, none⟩) hlt0).trans y6
        obtain ⟨q00, q01, q02, q03, q04, q05, q06⟩ := HO0.out.ext hbw (hE0.trans hEw)
        simp only [Nat.zero_mul, Nat.one_mul, Nat.add_zero, Nat.reduceMul, Nat.add_assoc, Nat.reduceAdd] at q00 q01 q02 q03 q04 q05 q06
        obtain ⟨q10, q11, q12, q13, q14, q15, q16⟩ := HO1.out.ext hbw (hE0.trans hEw)
        simp only [Nat.zero_mul, Nat.one_mul, Nat.add_zero, Nat.reduceMul, Nat.add_assoc, Nat.reduceAdd] at q10 q11 q12 q13 q14 q15 q16
        simp only [putD, List.foldl_nil, List.foldl_cons, List.getD_cons_zero, List.getD_cons_succ, Act.put, List.setIfInBounds_toArray, List.set_cons_zero, List.set_cons_succ]
        refine OpGoal.plain ?_
        go_wp2_with fail
        exact ⟨rfl, Ext.refl _, rfl⟩
      case o16 => -- Op.indexAddr 27 (Operand.tmp 79) (Operand.const (Value.int IntKind.i64 1))
        intro xv W hE hp
        have r15 : xv 15 = _ := hp.1
        clear hp
        simp only [putD, List.foldl_nil, List.foldl_cons, List.getD_cons_zero, List.getD_cons_succ, Act.put, List.setIfInBounds_toArray, List.set_cons_zero, List.set_cons_succ]
        refine OpGoal.plain ?_
        go_wp2_with fail
        exact ⟨rfl, Ext.refl _, rfl⟩
      case o17 => -- Op.load 29 (Operand.tmp 80)
        intro xv W hE hp
        have r16 : xv 16 = _ := hp.1
        clear hp
        have hEw : Ext w0 W := (Ext.drew w0).trans hE
        have y0w := (hEw.old (p := ⟨w.heap.size, 0, none⟩) hlt0).trans y0
        have y6w := (hEw.old (p := ⟨w.heap.size, 6, none⟩) hlt0).trans y6
        obtain ⟨q00, q01, q02, q03, q04, q05, q06⟩ := HO0.out.ext hbw (hE0.trans hEw)
        simp only [Nat.zero_mul, Nat.one_mul, Nat.add_zero, Nat.reduceMul, Nat.add_assoc, Nat.reduceAdd] at q00 q01 q02 q03 q04 q05 q06
        obtain ⟨q10, q11, q12, q13, q14, q15, q16⟩ := HO1.out.ext hbw (hE0.trans hEw)
        simp only [Nat.zero_mul, Nat.one_mul, Nat.add_zero, Nat.reduceMul, Nat.add_assoc, Nat.reduceAdd] at q10 q11 q12 q13 q14 q15 q16
        simp only [putD, List.foldl_nil, List.foldl_cons, List.getD_cons_zero, List.getD_cons_succ, Act.put, List.setIfInBounds_toArray, List.set_cons_zero, List.set_cons_succ]
        refine OpGoal.plain ?_
        go_wp2_with fail
        exact ⟨rfl, Ext.refl _, rfl⟩
      case o18 => -- Op.call { callee := Callee.value (Operand.func 62), args := #[Operand.tmp 81], a
        intro xv W hE hp
        have r17 : xv 17 = _ := hp.1
        clear hp
        simp only [putD, List.foldl_nil, List.foldl_cons, List.getD_cons_zero, List.getD_cons_succ, Act.put, List.setIfInBounds_toArray, List.set_cons_zero, List.set_cons_succ]
        refine OpGoal.plain ?_
        go_wp2_with fail
        refine (HC1.out _ (hE0.trans ((Ext.drew w0).trans hE))).mono ?_
        rintro r w' ⟨rfl, hE5⟩
        go_wp2_with fail
        exact ⟨rfl, hE5, rfl⟩
      case last =>
        intro xv W hE hp
        have r0 : xv 0 = _ := hp.1
        have r1 : xv 1 = _ := hp.2.1
        have r2 : xv 2 = _ := hp.2.2.1
        have r3 : xv 3 = _ := hp.2.2.2.1
        have r4 : xv 4 = _ := hp.2.2.2.2.1
        have r5 : xv 5 = _ := hp.2.2.2.2.2.1
        have r6 := hp.2.2.2.2.2.2.1
        have r7 : xv 7 = _ := hp.2.2.2.2.2.2.2.1
        have r8 : xv 8 = _ := hp.2.2.2.2.2.2.2.2.1
        have r9 : xv 9 = _ := hp.2.2.2.2.2.2.2.2.2.1
        have r10 := hp.2.2.2.2.2.2.2.2.2.2.1
        have r11 : xv 11 = _ := hp.2.2.2.2.2.2.2.2.2.2.2.1
        have r12 : xv 12 = _ := hp.2.2.2.2.2.2.2.2.2.2.2.2.1
        have r13 : xv 13 = _ := hp.2.2.2.2.2.2.2.2.2.2.2.2.2.1
        have r14 : xv 14 = _ := hp.2.2.2.2.2.2.2.2.2.2.2.2.2.2.1
        have r15 : xv 15 = _ := hp.2.2.2.2.2.2.2.2.2.2.2.2.2.2.2.1
        have r16 : xv 16 = _ := hp.2.2.2.2.2.2.2.2.2.2.2.2.2.2.2.2.1
        have r17 : xv 17 = _ := hp.2.2.2.2.2.2.2.2.2.2.2.2.2.2.2.2.2.1
        have r18 : xv 18 = _ := hp.2.2.2.2.2.2.2.2.2.2.2.2.2.2.2.2.2.2.1
        clear hp
        simp only [putD, List.foldl_nil, List.foldl_cons, List.getD_cons_zero, List.getD_cons_succ, Act.put, List.length_cons, List.length_nil, List.range_succ, List.range_zero, List.nil_append, List.cons_append, List.setIfInBounds_toArray, List.set_cons_zero, List.set_cons_succ]
        have hEw : Ext w0 W := (Ext.drew w0).trans hE
        rw [r13, r18]
        clear r0 r1 r2 r3 r4 r5 r6 r7 r8 r9 r10 r11 r12 r13 r14 r15 r16 r17 r18
        go_wp2_with fail
        go_ret
        exact ⟨by rw [HT.out]; rfl, hE0.trans hEw⟩
    · have h00 : 0 < e.l.length := by rw [hl]; simp
      have h01 : 1 < e.l.length := by rw [hl]; simp
      have h02 : 2 < e.l.length := by rw [hl]; simp
      have HT := Lib.hid (show sv e.text = sv (tIf ++ [32]) ++ sv (e.l[0]).piece ++ sv ([32] ++ tThen ++ [32]) ++ sv (e.l[1]).piece ++ sv ([32] ++ tElse ++ [32]) ++ sv (e.l[2]).piece by
        rw [HV.out, h6, sv_app, sv_app, sv_app, sv_app, sv_app]
        simp [tx, Ex.pieces_map, hl])
      have h6' := h6
      have h00 : 0 < e.l.length := by rw [hl]; simp
      obtain ⟨_, hs0⟩ := HRT.out.kid h00
      have s0 := kid_piece HSZ.out hs0 (List.getElem_mem h00)
      have h01 : 1 < e.l.length := by rw [hl]; simp
      obtain ⟨_, hs1⟩ := HRT.out.kid h01
      have s1 := kid_piece HSZ.out hs1 (List.getElem_mem h01)
      have h02 : 2 < e.l.length := by rw [hl]; simp
      obtain ⟨_, hs2⟩ := HRT.out.kid h02
      have s2 := kid_piece HSZ.out hs2 (List.getElem_mem h02)
      obtain ⟨B0, hB0⟩ : ∃ B, sv (e.l[0]).piece = B := ⟨_, rfl⟩
      rw [hB0] at s0 HT
      obtain ⟨b, o, A0, c0, hA, hb0, hO0, hC0⟩ := HIH.out 0 h00 B0 hB0
      simp only [Ex.cells] at hC0
      have HC0 := Lib.hid hC0
      have HO0 := Lib.hid hO0
      subst hA
      obtain ⟨B1, hB1⟩ : ∃ B, sv (e.l[1]).piece = B := ⟨_, rfl⟩
      rw [hB1] at s1 HT
      obtain ⟨b1, o1, A1, c1, hA1, hb1, hO1, hC1⟩ := HIH.out 1 h01 B1 hB1
      simp only [Ex.cells] at hC1
      have HC1 := Lib.hid hC1
      have HO1 := Lib.hid hO1
      obtain ⟨rfl, rfl⟩ : b = b1 ∧ o = o1 := by simpa using hA1
      obtain ⟨B2, hB2⟩ : ∃ B, sv (e.l[2]).piece = B := ⟨_, rfl⟩
      rw [hB2] at s2 HT
      obtain ⟨b2, o2, A2, c2, hA2, hb2, hO2, hC2⟩ := HIH.out 2 h02 B2 hB2
      simp only [Ex.cells] at hC2
      have HC2 := Lib.hid hC2
      have HO2 := Lib.hid hO2
      obtain ⟨rfl, rfl⟩ : b = b2 ∧ o = o2 := by simpa using hA2
      rw [h6'] at y0
      have hbw : b < w.heap.size := hb0
      have hl0 : 0 < e.l.length := h00
      have hl1 : 1 < e.l.length := h01
      have hl2 : 2 < e.l.length := h02
      clear h6 hl ha hb hc hC0 hO0 hB0 hs0 hb0 hC1 hO1 hB1 hs1 hb1 hC2 hO2 hB2 hs2 hb2 hA1 hA2
      generalize e.l[0] = x0 at *
      generalize e.l[1] = x1 at *
      generalize e.l[2] = x2 at *
      clear h6'
      have k1 : (⟨#[105, 102, 32]⟩ : ByteArray).size ≤ 3 := by decide
      have k2 : (⟨#[32, 116, 104, 101, 110, 32]⟩ : ByteArray).size ≤ 6 := by decide
      have k3 : (⟨#[32, 101, 108, 115, 101, 32]⟩ : ByteArray).size ≤ 6 := by decide
      go_wp2_with fail
      apply wp_region_seq (l := [_, _, _, _, _, _, _, _, _, _, _, _, _, _, _, _, _, _, _]) (t := [_, _]) [some 44, some 45, some 46, some 47, some 48, some 49, some 50, some 51, some 52, some 53, some 54, some 55, some 56, some 57, some 58, some 59, some 60, some 61, some 62, some 63, some 2] [[], [0], [1], [2], [3], [4], [5], [], [7], [8], [9], [10], [6, 11], [12], [], [14], [15], [16], [17], [13, 18], [19]] [1, 2, 3, 4, 11, 6, 12, 8, 9, 10, 11, 18, 13, 19, 15, 16, 17, 18, 19] [eqv _, eqv _, eqv _, eqv _, (eqv (.string B0)), eqv _, eqv _, eqv _, eqv _, eqv _, eqv _, (eqv (.string B1)), eqv _, eqv _, eqv _, eqv _, eqv _, eqv _, (eqv (.string B2))] (by kernel_rfl) (by kernel_rfl) ⟨?o0, ?o1, ?o2, ?o3, ?o4, ?o5, ?o6, ?o7, ?o8, ?o9, ?o10, ?o11, ?o12, ?o13, ?o14, ?o15, ?o16, ?o17, ?o18, trivial⟩ ?last
      case o0 => -- Op.fieldAddr 29 (Operand.tmp 1) 3
        intro xv W hE _
        simp only [putD, List.foldl_nil, List.getD_cons_zero]
        refine OpGoal.plain ?_
        go_wp2_with fail
        exact ⟨rfl, Ext.refl _, rfl⟩
      case o1 => -- Op.load 27 (Operand.tmp 44)
        intro xv W hE hp
        have r0 : xv 0 = _ := hp.1
        clear hp
        have hEw : Ext w0 W := (Ext.drew w0).trans hE
        have y0w := (hEw.old (p := ⟨w.heap.size, 0, none⟩) hlt0).trans y0
        have y6w := (hEw.old (p := ⟨w.heap.size, 6, none⟩) hlt0).trans y6
        obtain ⟨q00, q01, q02, q03, q04, q05, q06⟩ := HO0.out.ext hbw (hE0.trans hEw)
        simp only [Nat.zero_mul, Nat.one_mul, Nat.add_zero, Nat.reduceMul, Nat.add_assoc, Nat.reduceAdd] at q00 q01 q02 q03 q04 q05 q06
        obtain ⟨q10, q11, q12, q13, q14, q15, q16⟩ := HO1.out.ext hbw (hE0.trans hEw)
        simp only [Nat.zero_mul, Nat.one_mul, Nat.add_zero, Nat.reduceMul, Nat.add_assoc, Nat.reduceAdd] at q10 q11 q12 q13 q14 q15 q16
        obtain ⟨q20, q21, q22, q23, q24, q25, q26⟩ := HO2.out.ext hbw (hE0.trans hEw)
        simp only [Nat.zero_mul, Nat.one_mul, Nat.add_zero, Nat.reduceMul, Nat.add_assoc, Nat.reduceAdd] at q20 q21 q22 q23 q24 q25 q26
        simp only [putD, List.foldl_nil, List.foldl_cons, List.getD_cons_zero, List.getD_cons_succ, Act.put, List.setIfInBounds_toArray, List.set_cons_zero, List.set_cons_succ]
        refine OpGoal.plain ?_
        go_wp2_with fail
        exact ⟨rfl, Ext.refl _, rfl⟩
      case o2 => -- Op.indexAddr 27 (Operand.tmp 45) (Operand.const (Value.int IntKind.i64 0))
        intro xv W hE hp
        have r1 : xv 1 = _ := hp.1
        clear hp
        simp only [putD, List.foldl_nil, List.foldl_cons, List.getD_cons_zero, List.getD_cons_succ, Act.put, List.setIfInBounds_toArray, List.set_cons_zero, List.set_cons_succ]
        refine OpGoal.plain ?_
        go_wp2_with fail
        exact ⟨rfl, Ext.refl _, rfl⟩
      case o3 => -- Op.load 29 (Operand.tmp 46)
        intro xv W hE hp
        have r2 : xv 2 = _ := hp.1
        clear hp
        have hEw : Ext w0 W := (Ext.drew w0).trans hE
        have y0w := (hEw.old (p := ⟨w.heap.size, 0, none⟩) hlt0).trans y0
        have y6w := (hEw.old (p := ⟨w.heap.size, 6, none⟩) hlt0).trans y6
        obtain ⟨q00, q01, q02, q03, q04, q05, q06⟩ := HO0.out.ext hbw (hE0.trans hEw)
        simp only [Nat.zero_mul, Nat.one_mul, Nat.add_zero, Nat.reduceMul, Nat.add_assoc, Nat.reduceAdd] at q00 q01 q02 q03 q04 q05 q06
        obtain ⟨q10, q11, q12, q13, q14, q15, q16⟩ := HO1.out.ext hbw (hE0.trans hEw)
        simp only [Nat.zero_mul, Nat.one_mul, Nat.add_zero, Nat.reduceMul, Nat.add_assoc, Nat.reduceAdd] at q10 q11 q12 q13 q14 q15 q16
        obtain ⟨q20, q21, q22, q23, q24, q25, q26⟩ := HO2.out.ext hbw (hE0.trans hEw)
        simp only [Nat.zero_mul, Nat.one_mul, Nat.add_zero, Nat.reduceMul, Nat.add_assoc, Nat.reduceAdd] at q20 q21 q22 q23 q24 q25 q26
        simp only [putD, List.foldl_nil, List.foldl_cons, List.getD_cons_zero, List.getD_cons_succ, Act.put, List.setIfInBounds_toArray, List.set_cons_zero, List.set_cons_succ]
        refine OpGoal.plain ?_
        go_wp2_with fail
        exact ⟨rfl, Ext.refl _, rfl⟩
      case o4 => -- Op.call { callee := Callee.value (Operand.func 62), args := #[Operand.tmp 47], a
        intro xv W hE hp
        have r3 : xv 3 = _ := hp.1
        clear hp
        simp only [putD, List.foldl_nil, List.foldl_cons, List.getD_cons_zero, List.getD_cons_succ, Act.put, List.setIfInBounds_toArray, List.set_cons_zero, List.set_cons_succ]
        refine OpGoal.plain ?_
        go_wp2_with fail
        refine (HC0.out _ (hE0.trans ((Ext.drew w0).trans hE))).mono ?_
        rintro r w' ⟨rfl, hE5⟩
        go_wp2_with fail
        exact ⟨rfl, hE5, rfl⟩
      case o5 => -- Op.binOp BinOp.add 9 (Operand.const (Value.string { data := #[105, 102, 32] })) 
        intro xv W hE hp
        have r4 : xv 4 = _ := hp.1
        clear hp
        simp only [putD, List.foldl_nil, List.foldl_cons, List.getD_cons_zero, List.getD_cons_succ, Act.put, List.setIfInBounds_toArray, List.set_cons_zero, List.set_cons_succ]
        refine OpGoal.plain ?_
        go_wp2_with fail
        exact ⟨rfl, Ext.refl _, rfl⟩
      case o6 => -- Op.binOp BinOp.add 9 (Operand.tmp 49) (Operand.const (Value.string { data := #[3
        intro xv W hE hp
        have r5 : xv 5 = _ := hp.1
        clear hp
        simp only [putD, List.foldl_nil, List.foldl_cons, List.getD_cons_zero, List.getD_cons_succ, Act.put, List.setIfInBounds_toArray, List.set_cons_zero, List.set_cons_succ]
        refine OpGoal.plain ?_
        go_wp2_with fail
        exact ⟨rfl, Ext.refl _, rfl⟩
      case o7 => -- Op.fieldAddr 29 (Operand.tmp 1) 3
        intro xv W hE _
        simp only [putD, List.foldl_nil, List.getD_cons_zero, List.getD_cons_succ]
        refine OpGoal.plain ?_
        go_wp2_with fail
        exact ⟨rfl, Ext.refl _, rfl⟩
      case o8 => -- Op.load 27 (Operand.tmp 51)
        intro xv W hE hp
        have r7 : xv 7 = _ := hp.1
        clear hp
        have hEw : Ext w0 W := (Ext.drew w0).trans hE
        have y0w := (hEw.old (p := ⟨w.heap.size, 0, none⟩) hlt0).trans y0
        have y6w := (hEw.old (p := ⟨w.heap.size, 6, none⟩) hlt0).trans y6
        obtain ⟨q00, q01, q02, q03, q04, q05, q06⟩ := HO0.out.ext hbw (hE0.trans hEw)
        simp only [Nat.zero_mul, Nat.one_mul, Nat.add_zero, Nat.reduceMul, Nat.add_assoc, Nat.reduceAdd] at q00 q01 q02 q03 q04 q05 q06
        obtain ⟨q10, q11, q12, q13, q14, q15, q16⟩ := HO1.out.ext hbw (hE0.trans hEw)
        simp only [Nat.zero_mul, Nat.one_mul, Nat.add_zero, Nat.reduceMul, Nat.add_assoc, Nat.reduceAdd] at q10 q11 q12 q13 q14 q15 q16
        obtain ⟨q20, q21, q22, q23, q24, q25, q26⟩ := HO2.out.ext hbw (hE0.trans hEw)
        simp only [Nat.zero_mul, Nat.one_mul, Nat.add_zero, Nat.reduceMul, Nat.add_assoc, Nat.reduceAdd] at q20 q21 q22 q23 q24 q25 q26
        simp only [putD, List.foldl_nil, List.foldl_cons, List.getD_cons_zero, List.getD_cons_succ, Act.put, List.setIfInBounds_toArray, List.set_cons_zero, List.set_cons_succ]
        refine OpGoal.plain ?_
        go_wp2_with fail
        exact ⟨rfl, Ext.refl _, rfl⟩
      case o9 => -- Op.indexAddr 27 (Operand.tmp 52) (Operand.const (Value.int IntKind.i64 1))
        intro xv W hE hp
        have r8 : xv 8 = _ := hp.1
        clear hp
        simp only [putD, List.foldl_nil, List.foldl_cons, List.getD_cons_zero, List.getD_cons_succ, Act.put, List.setIfInBounds_toArray, List.set_cons_zero, List.set_cons_succ]
        refine OpGoal.plain ?_
        go_wp2_with fail
        exact ⟨rfl, Ext.refl _, rfl⟩
      case o10 => -- Op.load 29 (Operand.tmp 53)
        intro xv W hE hp
        have r9 : xv 9 = _ := hp.1
        clear hp
        have hEw : Ext w0 W := (Ext.drew w0).trans hE
        have y0w := (hEw.old (p := ⟨w.heap.size, 0, none⟩) hlt0).trans y0
        have y6w := (hEw.old (p := ⟨w.heap.size, 6, none⟩) hlt0).trans y6
        obtain ⟨q00, q01, q02, q03, q04, q05, q06⟩ := HO0.out.ext hbw (hE0.trans hEw)
        simp only [Nat.zero_mul, Nat.one_mul, Nat.add_zero, Nat.reduceMul, Nat.add_assoc, Nat.reduceAdd] at q00 q01 q02 q03 q04 q05 q06
        obtain ⟨q10, q11, q12, q13, q14, q15, q16⟩ := HO1.out.ext hbw (hE0.trans hEw)
        simp only [Nat.zero_mul, Nat.one_mul, Nat.add_zero, Nat.reduceMul, Nat.add_assoc, Nat.reduceAdd] at q10 q11 q12 q13 q14 q15 q16
        obtain ⟨q20, q21, q22, q23, q24, q25, q26⟩ := HO2.out.ext hbw (hE0.trans hEw)
        simp only [Nat.zero_mul, Nat.one_mul, Nat.add_zero, Nat.reduceMul, Nat.add_assoc, Nat.reduceAdd] at q20 q21 q22 q23 q24 q25 q26
        simp only [putD, List.foldl_nil, List.foldl_cons, List.getD_cons_zero, List.getD_cons_succ, Act.put, List.setIfInBounds_toArray, List.set_cons_zero, List.set_cons_succ]
        refine OpGoal.plain ?_
        go_wp2_with fail
        exact ⟨rfl, Ext.refl _, rfl⟩
      case o11 => -- Op.call { callee := Callee.value (Operand.func 62), args := #[Operand.tmp 54], a
        intro xv W hE hp
        have r10 : xv 10 = _ := hp.1
        clear hp
        simp only [putD, List.foldl_nil, List.foldl_cons, List.getD_cons_zero, List.getD_cons_succ, Act.put, List.setIfInBounds_toArray, List.set_cons_zero, List.set_cons_succ]
        refine OpGoal.plain ?_
        go_wp2_with fail
        refine (HC1.out _ (hE0.trans ((Ext.drew w0).trans hE))).mono ?_
        rintro r w' ⟨rfl, hE5⟩
        go_wp2_with fail
        exact ⟨rfl, hE5, rfl⟩
      case o12 => -- Op.binOp BinOp.add 9 (Operand.tmp 50) (Operand.tmp 55) 9
        intro xv W hE hp
        have r6 : xv 6 = _ := hp.1
        have r11 : xv 11 = _ := hp.2.1
        clear hp
        simp only [putD, List.foldl_nil, List.foldl_cons, List.getD_cons_zero, List.getD_cons_succ, Act.put, List.setIfInBounds_toArray, List.set_cons_zero, List.set_cons_succ]
        refine OpGoal.plain ?_
        go_wp2_with fail
        exact ⟨rfl, Ext.refl _, rfl⟩
      case o13 => -- Op.binOp BinOp.add 9 (Operand.tmp 56) (Operand.const (Value.string { data := #[3
        intro xv W hE hp
        have r12 : xv 12 = _ := hp.1
        clear hp
        simp only [putD, List.foldl_nil, List.foldl_cons, List.getD_cons_zero, List.getD_cons_succ, Act.put, List.setIfInBounds_toArray, List.set_cons_zero, List.set_cons_succ]
        refine OpGoal.plain ?_
        go_wp2_with fail
        exact ⟨rfl, Ext.refl _, rfl⟩
      case o14 => -- Op.fieldAddr 29 (Operand.tmp 1) 3
        intro xv W hE _
        simp only [putD, List.foldl_nil, List.getD_cons_zero, List.getD_cons_succ]
        refine OpGoal.plain ?_
        go_wp2_with fail
        exact ⟨rfl, Ext.refl _, rfl⟩
      case o15 => -- Op.load 27 (Operand.tmp 58)
        intro xv W hE hp
        have r14 : xv 14 = _ := hp.1
        clear hp
        have hEw : Ext w0 W := (Ext.drew w0).trans hE
        have y0w := (hEw.old (p := ⟨w.heap.size, 0, none⟩) hlt0).trans y0
        have y6w := (hEw.old (p := ⟨w.heap.size, 6, none⟩) hlt0).trans y6
        obtain ⟨q00, q01, q02, q03, q04, q05, q06⟩ := HO0.out.ext hbw (hE0.trans hEw)
        simp only [Nat.zero_mul, Nat.one_mul, Nat.add_zero, Nat.reduceMul, Nat.add_assoc, Nat.reduceAdd] at q00 q01 q02 q03 q04 q05 q06
        obtain ⟨q10, q11, q12, q13, q14, q15, q16⟩ := HO1.out.ext hbw (hE0.trans hEw)
        simp only [Nat.zero_mul, Nat.one_mul, Nat.add_zero, Nat.reduceMul, Nat.add_assoc, Nat.reduceAdd] at q10 q11 q12 q13 q14 q15 q16
        obtain ⟨q20, q21, q22, q23, q24, q25, q26⟩ := HO2.out.ext hbw (hE0.trans hEw)
        simp only [Nat.zero_mul, Nat.one_mul, Nat.add_zero, Nat.reduceMul, Nat.add_assoc, Nat.reduceAdd] at q20 q21 q22 q23 q24 q25 q26
        simp only [putD, List.foldl_nil, List.foldl_cons, List.getD_cons_zero, List.getD_cons_succ, Act.put, List.setIfInBounds_toArray, List.set_cons_zero, List.set_cons_succ]
        refine OpGoal.plain ?_
        go_wp2_with fail
        exact ⟨rfl, Ext.refl _, rfl⟩
      case o16 => -- Op.indexAddr 27 (Operand.tmp 59) (Operand.const (Value.int IntKind.i64 2))
        intro xv W hE hp
        have r15 : xv 15 = _ := hp.1
        clear hp
        simp only [putD, List.foldl_nil, List.foldl_cons, List.getD_cons_zero, List.getD_cons_succ, Act.put, List.setIfInBounds_toArray, List.set_cons_zero, List.set_cons_succ]
        refine OpGoal.plain ?_
        go_wp2_with fail
        exact ⟨rfl, Ext.refl _, rfl⟩
      case o17 => -- Op.load 29 (Operand.tmp 60)
        intro xv W hE hp
        have r16 : xv 16 = _ := hp.1
        clear hp
        have hEw : Ext w0 W := (Ext.drew w0).trans hE
        have y0w := (hEw.old (p := ⟨w.heap.size, 0, none⟩) hlt0).trans y0
        have y6w := (hEw.old (p := ⟨w.heap.size, 6, none⟩) hlt0).trans y6
        obtain ⟨q00, q01, q02, q03, q04, q05, q06⟩ := HO0.out.ext hbw (hE0.trans hEw)
        simp only [Nat.zero_mul, Nat.one_mul, Nat.add_zero, Nat.reduceMul, Nat.add_assoc, Nat.reduceAdd] at q00 q01 q02 q03 q04 q05 q06
        obtain ⟨q10, q11, q12, q13, q14, q15, q16⟩ := HO1.out.ext hbw (hE0.trans hEw)
        simp only [Nat.zero_mul, Nat.one_mul, Nat.add_zero, Nat.reduceMul, Nat.add_assoc, Nat.reduceAdd] at q10 q11 q12 q13 q14 q15 q16
        obtain ⟨q20, q21, q22, q23, q24, q25, q26⟩ := HO2.out.ext hbw (hE0.trans hEw)
        simp only [Nat.zero_mul, Nat.one_mul, Nat.add_zero, Nat.reduceMul, Nat.add_assoc, Nat.reduceAdd] at q20 q21 q22 q23 q24 q25 q26
        simp only [putD, List.foldl_nil, List.foldl_cons, List.getD_cons_zero, List.getD_cons_succ, Act.put, List.setIfInBounds_toArray, List.set_cons_zero, List.set_cons_succ]
        refine OpGoal.plain ?_
        go_wp2_with fail
        exact ⟨rfl, Ext.refl _, rfl⟩
      case o18 => -- Op.call { callee := Callee.value (Operand.func 62), args := #[Operand.tmp 61], a
        intro xv W hE hp
        have r17 : xv 17 = _ := hp.1
        clear hp
        simp only [putD, List.foldl_nil, List.foldl_cons, List.getD_cons_zero, List.getD_cons_succ, Act.put, List.setIfInBounds_toArray, List.set_cons_zero, List.set_cons_succ]
        refine OpGoal.plain ?_
        go_wp2_with fail
        refine (HC2.out _ (hE0.trans ((Ext.drew w0).trans hE))).mono ?_
        rintro r w' ⟨rfl, hE5⟩
        go_wp2_with fail
        exact ⟨rfl, hE5, rfl⟩
      case last =>
        intro xv W hE hp
        have r0 : xv 0 = _ := hp.1
        have r1 : xv 1 = _ := hp.2.1
        have r2 : xv 2 = _ := hp.2.2.1
        have r3 : xv 3 = _ := hp.2.2.2.1
        have r4 : xv 4 = _ := hp.2.2.2.2.1
        have r5 : xv 5 = _ := hp.2.2.2.2.2.1
        have r6 : xv 6 = _ := hp.2.2.2.2.2.2.1
        have r7 : xv 7 = _ := hp.2.2.2.2.2.2.2.1
        have r8 : xv 8 = _ := hp.2.2.2.2.2.2.2.2.1
        have r9 : xv 9 = _ := hp.2.2.2.2.2.2.2.2.2.1
        have r10 : xv 10 = _ := hp.2.2.2.2.2.2.2.2.2.2.1
        have r11 : xv 11 = _ := hp.2.2.2.2.2.2.2.2.2.2.2.1
        have r12 : xv 12 = _ := hp.2.2.2.2.2.2.2.2.2.2.2.2.1
        have r13 : xv 13 = _ := hp.2.2.2.2.2.2.2.2.2.2.2.2.2.1
        have r14 : xv 14 = _ := hp.2.2.2.2.2.2.2.2.2.2.2.2.2.2.1
        have r15 : xv 15 = _ := hp.2.2.2.2.2.2.2.2.2.2.2.2.2.2.2.1
        have r16 : xv 16 = _ := hp.2.2.2.2.2.2.2.2.2.2.2.2.2.2.2.2.1
        have r17 : xv 17 = _ := hp.2.2.2.2.2.2.2.2.2.2.2.2.2.2.2.2.2.1
        have r18 : xv 18 = _ := hp.2.2.2.2.2.2.2.2.2.2.2.2.2.2.2.2.2.2.1
        clear hp
        simp only [putD, List.foldl_nil, List.foldl_cons, List.getD_cons_zero, List.getD_cons_succ, Act.put, List.length_cons, List.length_nil, List.range_succ, List.range_zero, List.nil_append, List.cons_append, List.setIfInBounds_toArray, List.set_cons_zero, List.set_cons_succ]
        have hEw : Ext w0 W := (Ext.drew w0).trans hE
        rw [r13, r18]
        clear r0 r1 r2 r3 r4 r5 r6 r7 r8 r9 r10 r11 r12 r13 r14 r15 r16 r17 r18
        go_wp2_with fail
        go_ret
        exact ⟨by rw [HT.out]; rfl, hE0.trans hEw⟩
def txT (e : Ex) : List UInt8 := if chkE e = 0 then e.text else []
set_option maxRecDepth 100000 in
set_option maxHeartbeats 2000000 in
theorem TextC_any (e : Ex) (d : Nat) (A : Option Addr) (c : Nat) (w : World) (hX : ExB w w.heap.size d A e.l) (hsz : e.size < 1099511627776) (hok : e.ok) (htab : Tabs w) :
    Calls Tryz.prog 22 #[.agg (e.cells A c).toArray] w fun r w' => r = .returned (.tuple #[.string (sv (txT e)), .int .i64 (chkE e)]) ∧ Ext w w' := by
  obtain ⟨w0, hw0⟩ : ∃ w0, w.alloc (.cells (e.cells A c).toArray 29) = w0 := ⟨_, rfl⟩
  have hE0 : Ext w w0 := by rw [← hw0]; exact Ext.alloc _ _
  have hBx : Box w0 w.heap.size e A c := by rw [← hw0]; exact Box.new w e A c 29
  have HCK := Lib.hid (fun (W : World) (h : Ext w W) => Check_any e d A c W (hX.ext h) hsz hok)
  have HEV := Lib.hid (show txT e = if chkE e = 0 then e.text else [] from rfl)
  unfold Ex.cells at hw0 HCK
  have HW := Lib.hid hw0
  have HBx := Lib.hid hBx
  obtain ⟨_, y0, y1, y2, y3, y4, y5, y6⟩ := hBx
  clear hw0 hsz
  by_cases hc : chkE e = 0
  · have t1 : (chkE e != 0) = false := by simp [hc]
    have HVL := Lib.hid (fun (W : World) (h : Ext w W) => text_any d e (chkT e) A c W (chk_rt hc).1 (hX.ext h) hok (by have := (chk_rt hc).2; omega) (htab.ext h))
    have HEV2 := Lib.hid (show txT e = e.text by rw [HEV.out, if_pos hc])
    have HC0 := Lib.hid hc
    unfold Ex.cells at *
    clear hc hX hok HEV htab
    generalize hT : chkT e = T at *
    generalize hE' : chkE e = E at *
    clear hT hE'
    go_enter Tryz.func22, Tryz.ntmps22
    go_upto_region 1 with fail
    rw [HW.out]
    go_wp2_with fail
    refine (HCK.out _ hE0).mono ?_
    rintro r w1 ⟨rfl, hE1⟩
    obtain ⟨_, y0, y1, y2, y3, y4, y5, y6⟩ := HBx.out.ext hE1
    go_wp2_with fail
    refine (HVL.out _ (hE0.trans hE1)).mono ?_
    rintro r w2 ⟨rfl, hE2⟩
    go_wp2_with fail
    go_ret2
    exact ⟨by rw [HEV2.out, HC0.out]; rfl, (hE0.trans hE1).trans hE2⟩
  · have t1 : (chkE e != 0) = true := by simpa using hc
    have HEV2 := Lib.hid (show txT e = [] by rw [HEV.out, if_neg hc])
    clear hc hX hok HEV htab
    generalize hT : chkT e = T at *
    generalize hE' : chkE e = E at *
    clear hT hE'
    unfold Ex.cells
    go_enter Tryz.func22, Tryz.ntmps22
    go_upto_region 1 with fail
    rw [HW.out]
    go_wp2_with fail
    refine (HCK.out _ hE0).mono ?_
    rintro r w1 ⟨rfl, hE1⟩
    go_wp2_with fail
    go_ret2
    exact ⟨by rw [HEV2.out]; rfl, hE0.trans hE1⟩
set_option maxRecDepth 100000 in
set_option maxHeartbeats 2000000 in
theorem rTextC_any (e : Ex) (d : Nat) (A : Option Addr) (c : Nat) (w : World) (hX : ExB w w.heap.size d A e.l) (hsz : e.size < 1099511627776) (hok : e.ok) :
    Calls Tryz.prog 18 #[.agg (e.cells A c).toArray] w fun r w' => r = .returned (.tuple #[.string (sv (txT e)), .int .i64 (chkE e)]) ∧ Ext w w' := by
  obtain ⟨w0, hw0⟩ : ∃ w0, w.alloc (.cells (e.cells A c).toArray 29) = w0 := ⟨_, rfl⟩
  have hE0 : Ext w w0 := by rw [← hw0]; exact Ext.alloc _ _
  have hBx : Box w0 w.heap.size e A c := by rw [← hw0]; exact Box.new w e A c 29
  have HCK := Lib.hid (fun (W : World) (h : Ext w W) => rCheck_any e d A c W (hX.ext h) hsz hok)
  have HEV := Lib.hid (show txT e = if chkE e = 0 then e.text else [] from rfl)
  unfold Ex.cells at hw0 HCK
  have HW := Lib.hid hw0
  have HBx := Lib.hid hBx
  obtain ⟨_, y0, y1, y2, y3, y4, y5, y6⟩ := hBx
  clear hw0 hsz
  by_cases hc : chkE e = 0
  · have t1 : (chkE e != 0) = false := by simp [hc]
    have HVL := Lib.hid (fun (W : World) (h : Ext w W) => rText_any d e (chkT e) A c W (chk_rt hc).1 (hX.ext h) (by have := (chk_rt hc).2; omega))
    have HEV2 := Lib.hid (show txT e = e.text by rw [HEV.out, if_pos hc])
    have HC0 := Lib.hid hc
    unfold Ex.cells at *
    clear hc hX hok HEV
    generalize hT : chkT e = T at *
    generalize hE' : chkE e = E at *
    clear hT hE'
    go_enter Tryz.func18, Tryz.ntmps18
    go_upto_region 1 with fail
    rw [HW.out]
    go_wp2_with fail
    refine (HCK.out _ hE0).mono ?_
    rintro r w1 ⟨rfl, hE1⟩
    obtain ⟨_, y0, y1, y2, y3, y4, y5, y6⟩ := HBx.out.ext hE1
    go_wp2_with fail
    refine (HVL.out _ (hE0.trans hE1)).mono ?_
    rintro r w2 ⟨rfl, hE2⟩
    go_wp2_with fail
    go_ret2
    exact ⟨by rw [HEV2.out, HC0.out]; rfl, (hE0.trans hE1).trans hE2⟩
  · have t1 : (chkE e != 0) = true := by simpa using hc
    have HEV2 := Lib.hid (show txT e = [] by rw [HEV.out, if_neg hc])
    clear hc hX hok HEV
    generalize hT : chkT e = T at *
    generalize hE' : chkE e = E at *
    clear hT hE'
    unfold Ex.cells
    go_enter Tryz.func18, Tryz.ntmps18
    go_upto_region 1 with fail
    rw [HW.out]
    go_wp2_with fail
    refine (HCK.out _ hE0).mono ?_
    rintro r w1 ⟨rfl, hE1⟩
    go_wp2_with fail
    go_ret2
    exact ⟨by rw [HEV2.out]; rfl, hE0.trans hE1⟩
end Go.Proofs.YtggkkjnfonbpkaaGreatDoor
