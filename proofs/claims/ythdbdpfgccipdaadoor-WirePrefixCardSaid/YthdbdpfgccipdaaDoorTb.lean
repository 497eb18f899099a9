/- The walk of the statement WireTruncated: at every input the call returns true. -/
import Derived.Test.YthdbdpfgccipdaaDoorTa
namespace Go.Proofs.YthdbdpfgccipdaaDoor
open Go.RowKit Hach Num

/- a new block of four strings -/
def slFour (a b c d : ByteArray) : SP := ⟨fun v W => ∃ g, v = .slice (some ⟨g, 0, none⟩) 4 4 ∧ g < W.heap.size ∧ W.cell? ⟨g, 0, none⟩ = some (.string a) ∧ W.cell? ⟨g, 1, none⟩ = some (.string b) ∧ W.cell? ⟨g, 2, none⟩ = some (.string c) ∧ W.cell? ⟨g, 3, none⟩ = some (.string d), fun h hE => by
  obtain ⟨g, e, hg, h0, h1, h2, h3⟩ := h
  exact ⟨g, e, Nat.lt_of_lt_of_le hg hE.sz, (hE.old (p := ⟨g, 0, none⟩) hg).trans h0, (hE.old (p := ⟨g, 1, none⟩) hg).trans h1, (hE.old (p := ⟨g, 2, none⟩) hg).trans h2, (hE.old (p := ⟨g, 3, none⟩) hg).trans h3⟩⟩
theorem four_at {W : World} {g z : Nat} {n : Int} {s : List UInt8} {xs : List Int} {ts : List (List UInt8)} (hz : z < 4) (h0 : W.cell? ⟨g, 0, none⟩ = some (.string ⟨(wrInt n).toArray⟩)) (h1 : W.cell? ⟨g, 1, none⟩ = some (.string ⟨(wrText s).toArray⟩))
    (h2 : W.cell? ⟨g, 2, none⟩ = some (.string ⟨(wrList wrInt xs).toArray⟩)) (h3 : W.cell? ⟨g, 3, none⟩ = some (.string ⟨(wrList wrText ts).toArray⟩)) : W.cell? ⟨g, z, none⟩ = some (.string ⟨(ser z n s xs ts).toArray⟩) := by
  match z, hz with
  | 0, _ => exact h0
  | 1, _ => exact h1
  | 2, _ => exact h2
  | 3, _ => exact h3
theorem take_some (sb : ByteArray) (s : List UInt8) (h : sb.data.toList = s) : sb.extract 0 (min (sb.size : Int) 100).toNat = ⟨(s.take 100).toArray⟩ := by
  have e : sb = ⟨s.toArray⟩ := by rw [← h]
  have hz : sb.size = s.length := by rw [e]; exact toArr_size s
  rw [show (min (sb.size : Int) 100).toNat = min s.length 100 by omega, e]
  exact take_min s 100

set_option maxRecDepth 100000 in
set_option maxHeartbeats 2000000 in
theorem WireTruncated_any (c0 c1 c2 c3 c4 : Value) (z : Nat) (n : Int) (s : List UInt8) (xs : List Int) (ts : List (List UInt8)) (L : Nat) (w : World) (hT : Tabs w) (hP : Parts w c0 c1 c2 c3 c4 z n s xs ts) (hL : L < 65536) :
    Calls Tryd.prog 7 #[.agg #[c0, c1, c2, c3, c4], .int .u16 (L : Nat)] w fun e w' => e = .returned (.bool true) ∧ Ext w w' := by
  obtain ⟨⟨q, rfl, hq, hqz⟩, ⟨rfl, hn⟩, ⟨sb, rfl, hs, hsb⟩, ⟨A3, m3, d3, rfl, hX, hm3, hmc, hV⟩, ⟨A4, m4, d4, rfl, hY, hm4, hts⟩⟩ := hP
  have hz4 : z < 4 := by omega
  have e1 : (q : Int) % 4 = z := by rw [← hqz]; rfl
  have e2 : (q : Int).tmod 4 = z := by rw [← hqz]; rfl
  have hcut := take_some sb s hs
  have hsl : (s.take 100).length ≤ 100 := by simp; omega
  generalize s.take 100 = st at hcut hsl
  obtain ⟨k3, hk3, hkm, hk20⟩ : ∃ k3 : Nat, min (m3 : Int) 20 = k3 ∧ k3 ≤ m3 ∧ k3 ≤ 20 := ⟨min m3 20, by omega, by omega, by omega⟩
  have hkc : (k3 : Int) ≤ d3 := by omega
  have hX2 := hX.take hkm
  have hV2 : ∀ x ∈ xs.take k3, InI x := fun x hx => hV x (List.mem_of_mem_take hx)
  have hx2l : (xs.take k3).length = k3 := hX2.1
  generalize xs.take k3 = xs' at hX2 hV2 hx2l
  have HX2L := Lib.hid hx2l
  have hcl := cutL_len ts
  have hcs := cutL_small (ts := ts)
  have hsz := ser_len (z := z) (s := st) hn hsl (by omega : xs'.length ≤ 20) hV2 hcl hcs
  have hfail : ∀ k : Nat, k < (ser z n st xs' (cutL ts)).length → fails z (some ((ser z n st xs' (cutL ts)).take k)) := fun k hk => ser_cut hz4 hn hsl hV2 hcs hk
  have hne := ser_ne z n st xs' (cutL ts)
  have HF := Lib.hid hfail
  clear hX hV hs hqz hx2l hfail
  go_enter Tryd.func7, Tryd.ntmps7
  go_wp2_with fail
  obtain ⟨w0, hw0⟩ : ∃ w0, w.alloc (.cells #[.int .u8 q, .int .i64 n, .string sb, .slice A3 m3 d3, .slice A4 m4 d4] 45) = w0 := ⟨_, rfl⟩
  have hB : w0.heap[w.heap.size]? = some (.cells #[.int .u8 q, .int .i64 n, .string sb, .slice A3 m3 d3, .slice A4 m4 d4] 45 (0, 0)) := by rw [← hw0]; exact heap_alloc_new _ _
  have hE0 : Ext w w0 := by rw [← hw0]; exact Ext.alloc _ _
  rw [hw0]
  clear hw0
  refine (sanity_any w0 (hT.ext hE0)).mono ?_
  rintro e w1 ⟨rfl, hE1⟩
  have hE01 := hE0.trans hE1
  have hbl : w.heap.size < w1.heap.size := Nat.lt_of_lt_of_le (Array.getElem?_eq_some_iff.1 hB).1 hE1.sz
  have hB1 := (hE1.below.block w.heap.size (Array.getElem?_eq_some_iff.1 hB).1).trans hB
  have b0 : w1.cell? ⟨w.heap.size, 0, none⟩ = some (.int .u8 q) := by simp [World.cell?, hB1]
  have b1 : w1.cell? ⟨w.heap.size, 1, none⟩ = some (.int .i64 n) := by simp [World.cell?, hB1]
  have b2 : w1.cell? ⟨w.heap.size, 2, none⟩ = some (.string sb) := by simp [World.cell?, hB1]
  have b3 : w1.cell? ⟨w.heap.size, 3, none⟩ = some (.slice A3 m3 d3) := by simp [World.cell?, hB1]
  have b4 : w1.cell? ⟨w.heap.size, 4, none⟩ = some (.slice A4 m4 d4) := by simp [World.cell?, hB1]
  have hT1 := hT.ext hE01
  have hX1 := hX2.ext hE01
  have hY1 := hY.ext hE01
  have hbw : w.heap.size ≤ w1.heap.size := by omega
  clear hB hB1 hX2 hY
  generalize w.heap.size = b at hbl b0 b1 b2 b3 b4
  go_wp2_with fail
  apply wp_region_seq (l := [_, _, _, _, _, _, _, _, _, _, _, _, _, _, _, _, _, _, _, _, _, _, _, _, _, _, _]) (t := [_, _, _]) [some 10, some 11, some 12, some 13, some 14, some 15, some 16, some 17, some 18, some 19, some 20, some 21, some 22, some 23, some 24, some 25, some 26, some 27, some 28, some 29, some 30, some 31, some 32, some 33, some 34, some 35, some 36, some 37, some 38, some 6] [[], [0], [1], [], [3], [], [5], [6], [7], [4, 8], [9], [], [11], [], [13], [14], [15], [12, 16], [17], [], [19], [20], [21], [2, 10, 18, 22], [], [24], [25], [23, 26], [27], [28]] [1, 2, 23, 4, 9, 6, 7, 8, 9, 10, 23, 12, 17, 14, 15, 16, 17, 18, 23, 20, 21, 22, 23, 27, 25, 26, 27] [eqv _, eqv _, (eqv (.string ⟨(wrInt n).toArray⟩)), eqv _, eqv _, eqv _, eqv _, eqv _, eqv _, eqv _, (eqv (.string ⟨(wrText st).toArray⟩)), eqv _, eqv _, eqv _, eqv _, eqv _, eqv _, eqv _, (eqv (.string ⟨(wrList wrInt xs').toArray⟩)), eqv _, eqv _, (ownSPT w1.heap.size (cutL ts)), (eqv (.string ⟨(wrList wrText (cutL ts)).toArray⟩)), (slFour ⟨(wrInt n).toArray⟩ ⟨(wrText st).toArray⟩ ⟨(wrList wrInt xs').toArray⟩ ⟨(wrList wrText (cutL ts)).toArray⟩), eqv _, eqv _, eqv _] (by kernel_rfl) (by kernel_rfl) ⟨?o0, ?o1, ?o2, ?o3, ?o4, ?o5, ?o6, ?o7, ?o8, ?o9, ?o10, ?o11, ?o12, ?o13, ?o14, ?o15, ?o16, ?o17, ?o18, ?o19, ?o20, ?o21, ?o22, ?o23, ?o24, ?o25, ?o26, trivial⟩ ?last
  case o0 => -- Op.fieldAddr 45 (Operand.tmp 2) 1
    intro xv W hE _
    simp only [putD, List.foldl_nil, List.getD_cons_zero]
    refine OpGoal.plain ?_
    go_wp2_with fail
    exact ⟨rfl, Ext.refl _, rfl⟩
  case o1 => -- Op.load 3 (Operand.tmp 10)
    intro xv W hE hp
    have r0 : xv 0 = _ := hp.1
    clear hp
    have hW := (Ext.drew w1).trans hE
    have k0 := (hW.old (p := ⟨b, 0, none⟩) hbl).trans b0
    have k1 := (hW.old (p := ⟨b, 1, none⟩) hbl).trans b1
    have k2 := (hW.old (p := ⟨b, 2, none⟩) hbl).trans b2
    have k3 := (hW.old (p := ⟨b, 3, none⟩) hbl).trans b3
    have k4 := (hW.old (p := ⟨b, 4, none⟩) hbl).trans b4
    simp only [putD, List.foldl_nil, List.foldl_cons, List.getD_cons_zero, List.getD_cons_succ, Act.put, List.setIfInBounds_toArray, List.set_cons_zero, List.set_cons_succ]
    refine OpGoal.plain ?_
    go_wp2_with fail
    exact ⟨rfl, Ext.refl _, rfl⟩
  case o2 => -- Op.call { callee := Callee.value (Operand.func 12), args := #[Operand.tmp 11], a
    intro xv W hE hp
    have r1 : xv 1 = _ := hp.1
    clear hp
    simp only [putD, List.foldl_nil, List.foldl_cons, List.getD_cons_zero, List.getD_cons_succ, Act.put, List.setIfInBounds_toArray, List.set_cons_zero, List.set_cons_succ]
    refine OpGoal.plain ?_
    go_wp2_with fail
    refine (wInt_any n hn W (hT1.ext ((Ext.drew w1).trans hE))).mono ?_
    rintro e w' ⟨rfl, hE2⟩
    go_wp2_with fail
    exact ⟨rfl, hE2, rfl⟩
  case o3 => -- Op.fieldAddr 45 (Operand.tmp 2) 2
    intro xv W hE _
    simp only [putD, List.foldl_nil, List.getD_cons_zero, List.getD_cons_succ]
    refine OpGoal.plain ?_
    go_wp2_with fail
    exact ⟨rfl, Ext.refl _, rfl⟩
  case o4 => -- Op.load 9 (Operand.tmp 13)
    intro xv W hE hp
    have r3 : xv 3 = _ := hp.1
    clear hp
    have hW := (Ext.drew w1).trans hE
    have k0 := (hW.old (p := ⟨b, 0, none⟩) hbl).trans b0
    have k1 := (hW.old (p := ⟨b, 1, none⟩) hbl).trans b1
    have k2 := (hW.old (p := ⟨b, 2, none⟩) hbl).trans b2
    have k3 := (hW.old (p := ⟨b, 3, none⟩) hbl).trans b3
    have k4 := (hW.old (p := ⟨b, 4, none⟩) hbl).trans b4
    simp only [putD, List.foldl_nil, List.foldl_cons, List.getD_cons_zero, List.getD_cons_succ, Act.put, List.setIfInBounds_toArray, List.set_cons_zero, List.set_cons_succ]
    refine OpGoal.plain ?_
    go_wp2_with fail
    exact ⟨rfl, Ext.refl _, rfl⟩
  case o5 => -- Op.fieldAddr 45 (Operand.tmp 2) 2
    intro xv W hE _
    simp only [putD, List.foldl_nil, List.getD_cons_zero, List.getD_cons_succ]
    refine OpGoal.plain ?_
    go_wp2_with fail
    exact ⟨rfl, Ext.refl _, rfl⟩
  case o6 => -- Op.load 9 (Operand.tmp 15)
    intro xv W hE hp
    have r5 : xv 5 = _ := hp.1
    clear hp
    have hW := (Ext.drew w1).trans hE
    have k0 := (hW.old (p := ⟨b, 0, none⟩) hbl).trans b0
    have k1 := (hW.old (p := ⟨b, 1, none⟩) hbl).trans b1
    have k2 := (hW.old (p := ⟨b, 2, none⟩) hbl).trans b2
    have k3 := (hW.old (p := ⟨b, 3, none⟩) hbl).trans b3
    have k4 := (hW.old (p := ⟨b, 4, none⟩) hbl).trans b4
    simp only [putD, List.foldl_nil, List.foldl_cons, List.getD_cons_zero, List.getD_cons_succ, Act.put, List.setIfInBounds_toArray, List.set_cons_zero, List.set_cons_succ]
    refine OpGoal.plain ?_
    go_wp2_with fail
    exact ⟨rfl, Ext.refl _, rfl⟩
  case o7 => -- Op.call { callee := Callee.builtin Builtin.len, args := #[Operand.tmp 16], argTy
    intro xv W hE hp
    have r6 : xv 6 = _ := hp.1
    clear hp
    simp only [putD, List.foldl_nil, List.foldl_cons, List.getD_cons_zero, List.getD_cons_succ, Act.put, List.setIfInBounds_toArray, List.set_cons_zero, List.set_cons_succ]
    refine OpGoal.plain ?_
    go_wp2_with fail
    exact ⟨rfl, Ext.refl _, rfl⟩
  case o8 => -- Op.call { callee := Callee.builtin Builtin.min, args := #[Operand.tmp 17, Operan
    intro xv W hE hp
    have r7 : xv 7 = _ := hp.1
    clear hp
    simp only [putD, List.foldl_nil, List.foldl_cons, List.getD_cons_zero, List.getD_cons_succ, Act.put, List.setIfInBounds_toArray, List.set_cons_zero, List.set_cons_succ]
    refine OpGoal.plain ?_
    go_wp2_with fail
    exact ⟨rfl, Ext.refl _, rfl⟩
  case o9 => -- Op.slice 9 (Operand.tmp 14) none (some (Operand.tmp 18)) none
    intro xv W hE hp
    have r4 : xv 4 = _ := hp.1
    have r8 : xv 8 = _ := hp.2.1
    clear hp
    simp only [putD, List.foldl_nil, List.foldl_cons, List.getD_cons_zero, List.getD_cons_succ, Act.put, List.setIfInBounds_toArray, List.set_cons_zero, List.set_cons_succ]
    refine OpGoal.plain ?_
    go_wp2_with fail
    exact ⟨rfl, Ext.refl _, rfl⟩
  case o10 => -- Op.call { callee := Callee.value (Operand.func 14), args := #[Operand.tmp 19], a
    intro xv W hE hp
    have r9 : xv 9 = _ := hp.1
    clear hp
    simp only [putD, List.foldl_nil, List.foldl_cons, List.getD_cons_zero, List.getD_cons_succ, Act.put, List.setIfInBounds_toArray, List.set_cons_zero, List.set_cons_succ]
    refine OpGoal.plain ?_
    go_wp2_with fail
    refine (wText_any st (by omega) W (hT1.ext ((Ext.drew w1).trans hE))).mono ?_
    rintro e w' ⟨rfl, hE2⟩
    go_wp2_with fail
    exact ⟨rfl, hE2, rfl⟩
  case o11 => -- Op.fieldAddr 45 (Operand.tmp 2) 3
    intro xv W hE _
    simp only [putD, List.foldl_nil, List.getD_cons_zero, List.getD_cons_succ]
    refine OpGoal.plain ?_
    go_wp2_with fail
    exact ⟨rfl, Ext.refl _, rfl⟩
  case o12 => -- Op.load 22 (Operand.tmp 21)
    intro xv W hE hp
    have r11 : xv 11 = _ := hp.1
    clear hp
    have hW := (Ext.drew w1).trans hE
    have k0 := (hW.old (p := ⟨b, 0, none⟩) hbl).trans b0
    have k1 := (hW.old (p := ⟨b, 1, none⟩) hbl).trans b1
    have k2 := (hW.old (p := ⟨b, 2, none⟩) hbl).trans b2
    have k3 := (hW.old (p := ⟨b, 3, none⟩) hbl).trans b3
    have k4 := (hW.old (p := ⟨b, 4, none⟩) hbl).trans b4
    simp only [putD, List.foldl_nil, List.foldl_cons, List.getD_cons_zero, List.getD_cons_succ, Act.put, List.setIfInBounds_toArray, List.set_cons_zero, List.set_cons_succ]
    refine OpGoal.plain ?_
    go_wp2_with fail
    exact ⟨rfl, Ext.refl _, rfl⟩
  case o13 => -- Op.fieldAddr 45 (Operand.tmp 2) 3
    intro xv W hE _
    simp only [putD, List.foldl_nil, List.getD_cons_zero, List.getD_cons_succ]
    refine OpGoal.plain ?_
    go_wp2_with fail
    exact ⟨rfl, Ext.refl _, rfl⟩
  case o14 => -- Op.load 22 (Operand.tmp 23)
    intro xv W hE hp
    have r13 : xv 13 = _ := hp.1
    clear hp
    have hW := (Ext.drew w1).trans hE
    have k0 := (hW.old (p := ⟨b, 0, none⟩) hbl).trans b0
    have k1 := (hW.old (p := ⟨b, 1, none⟩) hbl).trans b1
    have k2 := (hW.old (p := ⟨b, 2, none⟩) hbl).trans b2
    have k3 := (hW.old (p := ⟨b, 3, none⟩) hbl).trans b3
    have k4 := (hW.old (p := ⟨b, 4, none⟩) hbl).trans b4
    simp only [putD, List.foldl_nil, List.foldl_cons, List.getD_cons_zero, List.getD_cons_succ, Act.put, List.setIfInBounds_toArray, List.set_cons_zero, List.set_cons_succ]
    refine OpGoal.plain ?_
    go_wp2_with fail
    exact ⟨rfl, Ext.refl _, rfl⟩
  case o15 => -- Op.call { callee := Callee.builtin Builtin.len, args := #[Operand.tmp 24], argTy
    intro xv W hE hp
    have r14 : xv 14 = _ := hp.1
    clear hp
    simp only [putD, List.foldl_nil, List.foldl_cons, List.getD_cons_zero, List.getD_cons_succ, Act.put, List.setIfInBounds_toArray, List.set_cons_zero, List.set_cons_succ]
    refine OpGoal.plain ?_
    go_wp2_with fail
    exact ⟨rfl, Ext.refl _, rfl⟩
  case o16 => -- Op.call { callee := Callee.builtin Builtin.min, args := #[Operand.tmp 25, Operan
    intro xv W hE hp
    have r15 : xv 15 = _ := hp.1
    clear hp
    simp only [putD, List.foldl_nil, List.foldl_cons, List.getD_cons_zero, List.getD_cons_succ, Act.put, List.setIfInBounds_toArray, List.set_cons_zero, List.set_cons_succ]
    refine OpGoal.plain ?_
    go_wp2_with fail
    exact ⟨rfl, Ext.refl _, rfl⟩
  case o17 => -- Op.slice 22 (Operand.tmp 22) none (some (Operand.tmp 26)) none
    intro xv W hE hp
    have r12 : xv 12 = _ := hp.1
    have r16 : xv 16 = _ := hp.2.1
    clear hp
    simp only [putD, List.foldl_nil, List.foldl_cons, List.getD_cons_zero, List.getD_cons_succ, Act.put, List.setIfInBounds_toArray, List.set_cons_zero, List.set_cons_succ]
    refine OpGoal.plain ?_
    go_wp2_with fail
    exact ⟨rfl, Ext.refl _, rfl⟩
  case o18 => -- Op.call { callee := Callee.value (Operand.func 16), args := #[Operand.tmp 27], a
    intro xv W hE hp
    have r17 : xv 17 = _ := hp.1
    clear hp
    simp only [putD, List.foldl_nil, List.foldl_cons, List.getD_cons_zero, List.getD_cons_succ, Act.put, List.setIfInBounds_toArray, List.set_cons_zero, List.set_cons_succ]
    refine OpGoal.plain ?_
    go_wp2_with fail
    refine (wlist_I A3 k3 d3 xs' W (hX1.ext ((Ext.drew w1).trans hE)) (by omega) hV2 (by have := flat_small wrInt 22 xs' (fun x hx => wrInt_len (hV2 x hx)); rw [HX2L.out] at this; omega) (hT1.ext ((Ext.drew w1).trans hE))).mono ?_
    rintro e w' ⟨rfl, hE2⟩
    go_wp2_with fail
    exact ⟨rfl, hE2, rfl⟩
  case o19 => -- Op.fieldAddr 45 (Operand.tmp 2) 4
    intro xv W hE _
    simp only [putD, List.foldl_nil, List.getD_cons_zero, List.getD_cons_succ]
    refine OpGoal.plain ?_
    go_wp2_with fail
    exact ⟨rfl, Ext.refl _, rfl⟩
  case o20 => -- Op.load 23 (Operand.tmp 29)
    intro xv W hE hp
    have r19 : xv 19 = _ := hp.1
    clear hp
    have hW := (Ext.drew w1).trans hE
    have k0 := (hW.old (p := ⟨b, 0, none⟩) hbl).trans b0
    have k1 := (hW.old (p := ⟨b, 1, none⟩) hbl).trans b1
    have k2 := (hW.old (p := ⟨b, 2, none⟩) hbl).trans b2
    have k3 := (hW.old (p := ⟨b, 3, none⟩) hbl).trans b3
    have k4 := (hW.old (p := ⟨b, 4, none⟩) hbl).trans b4
    simp only [putD, List.foldl_nil, List.foldl_cons, List.getD_cons_zero, List.getD_cons_succ, Act.put, List.setIfInBounds_toArray, List.set_cons_zero, List.set_cons_succ]
    refine OpGoal.plain ?_
    go_wp2_with fail
    exact ⟨rfl, Ext.refl _, rfl⟩
  case o21 => -- Op.call { callee := Callee.value (Operand.func 11), args := #[Operand.tmp 30], a
    intro xv W hE hp
    have r20 : xv 20 = _ := hp.1
    clear hp
    simp only [putD, List.foldl_nil, List.foldl_cons, List.getD_cons_zero, List.getD_cons_succ, Act.put, List.setIfInBounds_toArray, List.set_cons_zero, List.set_cons_succ]
    refine OpGoal.plain ?_
    go_wp2_with fail
    refine (cutl_any A4 m4 d4 ts W (hY1.ext ((Ext.drew w1).trans hE)) hm4 hts).mono ?_
    rintro e w' ⟨v, rfl, hO, hE2⟩
    go_wp2_with fail
    exact ⟨rfl, hE2, hO.base_ (by have := hE.sz; simp at this; omega)⟩
  case o22 => -- Op.call { callee := Callee.value (Operand.func 18), args := #[Operand.tmp 31], a
    intro xv W hE hp
    obtain r21 := hp.1
    clear hp
    have r21' : OwnT W w1.heap.size (xv 21) (cutL ts) := r21
    obtain ⟨B2, d2, e21, hR2⟩ := r21'.form
    clear r21' r21
    simp only [putD, List.foldl_nil, List.foldl_cons, List.getD_cons_zero, List.getD_cons_succ, Act.put, List.setIfInBounds_toArray, List.set_cons_zero, List.set_cons_succ]
    refine OpGoal.plain ?_
    go_wp2_with fail
    refine (wlist_T B2 _ d2 (cutL ts) W hR2 (by omega) (fun x hx => by have := hcs x hx; unfold ShortT; omega) (by have := flat_small wrText 122 (cutL ts) (fun x hx => wrText_len (hcs x hx)); omega) (hT1.ext ((Ext.drew w1).trans hE))).mono ?_
    rintro e w' ⟨rfl, hE2⟩
    go_wp2_with fail
    exact ⟨rfl, hE2, rfl⟩
  case o23 => -- Op.buildSlice 23 4 #[(0, Operand.tmp 12), (1, Operand.tmp 20), (2, Operand.tmp 2
    intro xv W hE hp
    have r2 : xv 2 = _ := hp.1
    have r10 : xv 10 = _ := hp.2.1
    have r18 : xv 18 = _ := hp.2.2.1
    have r22 : xv 22 = _ := hp.2.2.2.1
    clear hp
    simp only [putD, List.foldl_nil, List.foldl_cons, List.getD_cons_zero, List.getD_cons_succ, Act.put, List.setIfInBounds_toArray, List.set_cons_zero, List.set_cons_succ]
    refine OpGoal.plain ?_
    go_wp2_with fail
    exact ⟨rfl, Ext.alloc _ _, W.heap.size, rfl, by simp, by simp, by simp, by simp, by simp⟩
  case o24 => -- Op.fieldAddr 45 (Operand.tmp 2) 0
    intro xv W hE _
    simp only [putD, List.foldl_nil, List.getD_cons_zero, List.getD_cons_succ]
    refine OpGoal.plain ?_
    go_wp2_with fail
    exact ⟨rfl, Ext.refl _, rfl⟩
  case o25 => -- Op.load 5 (Operand.tmp 34)
    intro xv W hE hp
    have r24 : xv 24 = _ := hp.1
    clear hp
    have hW := (Ext.drew w1).trans hE
    have k0 := (hW.old (p := ⟨b, 0, none⟩) hbl).trans b0
    have k1 := (hW.old (p := ⟨b, 1, none⟩) hbl).trans b1
    have k2 := (hW.old (p := ⟨b, 2, none⟩) hbl).trans b2
    have k3 := (hW.old (p := ⟨b, 3, none⟩) hbl).trans b3
    have k4 := (hW.old (p := ⟨b, 4, none⟩) hbl).trans b4
    simp only [putD, List.foldl_nil, List.foldl_cons, List.getD_cons_zero, List.getD_cons_succ, Act.put, List.setIfInBounds_toArray, List.set_cons_zero, List.set_cons_succ]
    refine OpGoal.plain ?_
    go_wp2_with fail
    exact ⟨rfl, Ext.refl _, rfl⟩
  case o26 => -- Op.binOp BinOp.rem 5 (Operand.tmp 35) (Operand.const (Value.int IntKind.u8 4)) 5
    intro xv W hE hp
    have r25 : xv 25 = _ := hp.1
    clear hp
    simp only [putD, List.foldl_nil, List.foldl_cons, List.getD_cons_zero, List.getD_cons_succ, Act.put, List.setIfInBounds_toArray, List.set_cons_zero, List.set_cons_succ]
    refine OpGoal.plain ?_
    go_wp2_with fail
    exact ⟨rfl, Ext.refl _, rfl⟩
  case last =>
    intro xv W hE hp
    have r0 : xv 0 = _ := hp.1
    have r1 : xv 1 = _ := hp.2.1
    have r2 : xv 2 = _ := hp.2.2.1
    have r3 : xv 3 = _ := hp.2.2.2.1
    have r4 : xv 4 = _ := hp.2.2.2.2.1
    have r5 : xv 5 = _ := hp.2.2.2.2.2.1
    have r6 : xv 6 = _ := hp.2.2.2.2.2.2.1
    have r7 : xv 7 = _ := hp.2.2.2.2.2.2.2.1
    have r8 : xv 8 = _ := hp.2.2.2.2.2.2.2.2.1
    have r9 : xv 9 = _ := hp.2.2.2.2.2.2.2.2.2.1
    have r10 : xv 10 = _ := hp.2.2.2.2.2.2.2.2.2.2.1
    have r11 : xv 11 = _ := hp.2.2.2.2.2.2.2.2.2.2.2.1
    have r12 : xv 12 = _ := hp.2.2.2.2.2.2.2.2.2.2.2.2.1
    have r13 : xv 13 = _ := hp.2.2.2.2.2.2.2.2.2.2.2.2.2.1
    have r14 : xv 14 = _ := hp.2.2.2.2.2.2.2.2.2.2.2.2.2.2.1
    have r15 : xv 15 = _ := hp.2.2.2.2.2.2.2.2.2.2.2.2.2.2.2.1
    have r16 : xv 16 = _ := hp.2.2.2.2.2.2.2.2.2.2.2.2.2.2.2.2.1
    have r17 : xv 17 = _ := hp.2.2.2.2.2.2.2.2.2.2.2.2.2.2.2.2.2.1
    have r18 : xv 18 = _ := hp.2.2.2.2.2.2.2.2.2.2.2.2.2.2.2.2.2.2.1
    have r19 : xv 19 = _ := hp.2.2.2.2.2.2.2.2.2.2.2.2.2.2.2.2.2.2.2.1
    have r20 : xv 20 = _ := hp.2.2.2.2.2.2.2.2.2.2.2.2.2.2.2.2.2.2.2.2.1
    obtain r21 := hp.2.2.2.2.2.2.2.2.2.2.2.2.2.2.2.2.2.2.2.2.2.1
    have r22 : xv 22 = _ := hp.2.2.2.2.2.2.2.2.2.2.2.2.2.2.2.2.2.2.2.2.2.2.1
    obtain ⟨g, r23, hg, g0, g1, g2, g3⟩ := hp.2.2.2.2.2.2.2.2.2.2.2.2.2.2.2.2.2.2.2.2.2.2.2.1
    have r24 : xv 24 = _ := hp.2.2.2.2.2.2.2.2.2.2.2.2.2.2.2.2.2.2.2.2.2.2.2.2.1
    have r25 : xv 25 = _ := hp.2.2.2.2.2.2.2.2.2.2.2.2.2.2.2.2.2.2.2.2.2.2.2.2.2.1
    have r26 : xv 26 = _ := hp.2.2.2.2.2.2.2.2.2.2.2.2.2.2.2.2.2.2.2.2.2.2.2.2.2.2.1
    clear hp
    simp only [putD, List.foldl_nil, List.foldl_cons, List.getD_cons_zero, List.getD_cons_succ, Act.put, List.length_cons, List.length_nil, List.range_succ, List.range_zero, List.nil_append, List.cons_append, List.setIfInBounds_toArray, List.set_cons_zero, List.set_cons_succ]
    have hx := four_at hz4 g0 g1 g2 g3
    have hW := (Ext.drew w1).trans hE
    have k0 := (hW.old (p := ⟨b, 0, none⟩) hbl).trans b0
    clear g0 g1 g2 g3 hcut hk3
    generalize ser z n st xs' (cutL ts) = x at hx hsz hne HF
    obtain ⟨xb, hxb⟩ : ∃ xb : ByteArray, (⟨x.toArray⟩ : ByteArray) = xb := ⟨_, rfl⟩
    have hxz := toArr_size x
    rw [hxb] at hx hxz
    obtain ⟨r, hr, hrl⟩ : ∃ r, L % xb.size = r ∧ r < xb.size := ⟨_, rfl, Nat.mod_lt _ (by omega)⟩
    have e3 : (L : Int) % (xb.size : Int) = r := by rw [← hr]; rfl
    have e4 : (L : Int).tmod (xb.size : Int) = r := by rw [← hr]; rfl
    have hext : xb.extract 0 (xb.size - 1 - r) = ⟨(x.take (xb.size - 1 - r)).toArray⟩ := by rw [← ba_take, hxb]
    have hf := HF.out (xb.size - 1 - r) (by omega)
    have hxl : xb.size ≤ 3000 := by omega
    have hx0 : 0 < xb.size := by omega
    have hpl : (x.take (xb.size - 1 - r)).length ≤ 3000 := by rw [List.length_take]; omega
    generalize x.take (xb.size - 1 - r) = y at hext hf hpl
    clear hr hxb hxz hsz hne HF
    have hz5 : (z : Int) < 4 := by omega
    have hTW := hT1.ext hW
    have hEW := hE01.trans hW
    go_wp2_with fail
    refine (new_any ⟨y.toArray⟩ W).mono ?_
    rintro e w2 ⟨rfl, hR2, hE2⟩
    have hR2 : Rd w2 W.heap.size (some y) := hR2
    have q0 := (hE2.old (p := ⟨b, 0, none⟩) (Nat.lt_of_lt_of_le hbl hW.sz)).trans k0
    have hb4 : 4 ≤ W.heap.size := hTW.sz
    have hwW : w.heap.size ≤ W.heap.size := hEW.sz
    have hT2 := hTW.ext hE2
    have hE02 := hEW.trans hE2
    generalize W.heap.size = br at hR2 hb4 hwW
    go_wp2_with fail
    refine (decodes_none z br (some y) w2 hR2 hb4 hT2 (by simp only [Option.getD_some]; omega) hf).mono ?_
    rintro e w3 ⟨rfl, hR3, hg3⟩
    have hE3 := ext_own hE02 hg3 hwW
    go_wp2_with fail
    refine (bad_any br none w3 hR3).mono ?_
    rintro e w4 ⟨rfl, rfl⟩
    go_wp2_with fail
    go_loopw [8] (fun i wr => ∃ k : Nat, k ≤ 4 ∧ i = .int .i64 k ∧ Rd wr br none ∧ Ext w wr) (fun i _ => 4 - (intOf i).toNat)
    case atStart => exact ⟨0, Nat.zero_le _, rfl, hR3, hE3⟩
    case round =>
      obtain ⟨k, hk, rfl, hR, hE4⟩ := hrel
      have hTr := hT.ext hE4
      by_cases hlt : k < 4
      · go_wp2_with fail
        refine (decodes_none k br none wr hR hb4 hTr (by decide) (fails_bad _)).mono ?_
        rintro e w5 ⟨rfl, hR5, hg5⟩
        have hE5 := ext_own hE4 hg5 hwW
        go_wp2_with fail
        refine (bad_any br none w5 hR5).mono ?_
        rintro e w6 ⟨rfl, rfl⟩
        go_wp2_with fail
        refine (left_any br none w6 hR5).mono ?_
        rintro e w7 ⟨rfl, rfl⟩
        go_wp2_with fail
        go_roundw
        case rel => exact ⟨k + 1, by omega, by go_num, hR5, hE5⟩
        case measure => simp [intOf]; omega
      · obtain rfl : k = 4 := by omega
        go_wp2_with fail
        go_ret
        exact ⟨rfl, hE4⟩
end Go.Proofs.YthdbdpfgccipdaaDoor
