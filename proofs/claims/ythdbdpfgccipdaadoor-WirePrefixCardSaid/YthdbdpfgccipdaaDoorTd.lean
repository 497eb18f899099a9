/- The walk of the statement WirePrefix: at every input the call returns true. -/
import Derived.Test.YthdbdpfgccipdaaDoorTb
import Derived.Test.YthdbdpfgccipdaaDoorTc
namespace Go.Proofs.YthdbdpfgccipdaaDoor
open Go.RowKit Hach Num

theorem txt_beq (x y : List UInt8) : ((⟨x.toArray⟩ : ByteArray).toList == (⟨y.toArray⟩ : ByteArray).toList) = decide (x = y) := by
  by_cases h : x = y
  · subst h; simp
  · rw [decide_eq_false h, beq_eq_false_iff_ne]
    intro e
    exact h (txt_eq (eq_of_toList e))

set_option maxRecDepth 100000 in
set_option maxHeartbeats 8000000 in
theorem WirePrefix_any (a0 a1 a2 a3 a4 b0 b1 b2 b3 b4 : Value) (za zb : Nat) (na nb : Int) (sa sb : List UInt8) (xa xb : List Int) (ta tb : List (List UInt8)) (w : World) (hT : Tabs w) (hPa : Parts w a0 a1 a2 a3 a4 za na sa xa ta) (hPb : Parts w b0 b1 b2 b3 b4 zb nb sb xb tb) :
    Calls Tryd.prog 8 #[.agg #[a0, a1, a2, a3, a4], .agg #[b0, b1, b2, b3, b4]] w fun e w' => e = .returned (.bool true) ∧ Ext w w' := by
  obtain ⟨⟨qa, rfl, hqa, hqza⟩, ⟨rfl, hna⟩, ⟨bya, rfl, hsa, hsba⟩, ⟨A3a, m3a, d3a, rfl, hXa, hm3a, hmca, hVa⟩, ⟨A4a, m4a, d4a, rfl, hYa, hm4a, htsa⟩⟩ := hPa
  obtain ⟨⟨qb, rfl, hqb, hqzb⟩, ⟨rfl, hnb⟩, ⟨byb, rfl, hsb, hsbb⟩, ⟨A3b, m3b, d3b, rfl, hXb, hm3b, hmcb, hVb⟩, ⟨A4b, m4b, d4b, rfl, hYb, hm4b, htsb⟩⟩ := hPb
  have hz4 : za < 4 := by omega
  have e1 : (qa : Int) % 4 = za := by rw [← hqza]; rfl
  have e2 : (qa : Int).tmod 4 = za := by rw [← hqza]; rfl
  have hcuta := take_some bya sa hsa
  have hsla : (sa.take 100).length ≤ 100 := by simp; omega
  generalize sa.take 100 = sta at hcuta hsla
  obtain ⟨k3a, hk3a, hkma, hk20a⟩ : ∃ k3 : Nat, min (m3a : Int) 20 = k3 ∧ k3 ≤ m3a ∧ k3 ≤ 20 := ⟨min m3a 20, by omega, by omega, by omega⟩
  have hkca : (k3a : Int) ≤ d3a := by omega
  have hX2a := hXa.take hkma
  have hV2a : ∀ x ∈ xa.take k3a, InI x := fun x hx => hVa x (List.mem_of_mem_take hx)
  have hx2la : (xa.take k3a).length = k3a := hX2a.1
  generalize xa.take k3a = xa' at hX2a hV2a hx2la
  have HX2La := Lib.hid hx2la
  have hcla := cutL_len ta
  have hcsa := cutL_small (ts := ta)
  have hsza := ser_len (z := za) (s := sta) hna hsla (by omega : xa'.length ≤ 20) hV2a hcla hcsa
  have hcutb := take_some byb sb hsb
  have hslb : (sb.take 100).length ≤ 100 := by simp; omega
  generalize sb.take 100 = stb at hcutb hslb
  obtain ⟨k3b, hk3b, hkmb, hk20b⟩ : ∃ k3 : Nat, min (m3b : Int) 20 = k3 ∧ k3 ≤ m3b ∧ k3 ≤ 20 := ⟨min m3b 20, by omega, by omega, by omega⟩
  have hkcb : (k3b : Int) ≤ d3b := by omega
  have hX2b := hXb.take hkmb
  have hV2b : ∀ x ∈ xb.take k3b, InI x := fun x hx => hVb x (List.mem_of_mem_take hx)
  have hx2lb : (xb.take k3b).length = k3b := hX2b.1
  generalize xb.take k3b = xb' at hX2b hV2b hx2lb
  have HX2Lb := Lib.hid hx2lb
  have hclb := cutL_len tb
  have hcsb := cutL_small (ts := tb)
  have hszb := ser_len (z := za) (s := stb) hnb hslb (by omega : xb'.length ≤ 20) hV2b hclb hcsb
  obtain ⟨e, he0, he1, he2⟩ := ser_law hz4 hna hsla hV2a hcsa hnb hslb hV2b hcsb
  have HE0 := Lib.hid he0
  have HE1 := Lib.hid he1
  have HE2 := Lib.hid he2
  clear hXa hXb hVa hVb hsa hsb hqza hqzb hx2la hx2lb he0 he1 he2
  go_enter Tryd.func8, Tryd.ntmps8
  go_wp2_with fail
  obtain ⟨w0, hw0⟩ : ∃ w0, (w.alloc (.cells #[.int .u8 qa, .int .i64 na, .string bya, .slice A3a m3a d3a, .slice A4a m4a d4a] 45)).alloc (.cells #[.int .u8 qb, .int .i64 nb, .string byb, .slice A3b m3b d3b, .slice A4b m4b d4b] 45) = w0 := ⟨_, rfl⟩
  have hBa : w0.heap[w.heap.size]? = some (.cells #[.int .u8 qa, .int .i64 na, .string bya, .slice A3a m3a d3a, .slice A4a m4a d4a] 45 (0, 0)) := by rw [← hw0]; exact ((Ext.alloc _ _).below.block _ (by simp)).trans (heap_alloc_new _ _)
  have hBb : w0.heap[w.heap.size + 1]? = some (.cells #[.int .u8 qb, .int .i64 nb, .string byb, .slice A3b m3b d3b, .slice A4b m4b d4b] 45 (0, 0)) := by rw [← hw0]; have := heap_alloc_new (w.alloc (.cells #[.int .u8 qa, .int .i64 na, .string bya, .slice A3a m3a d3a, .slice A4a m4a d4a] 45)) (.cells #[.int .u8 qb, .int .i64 nb, .string byb, .slice A3b m3b d3b, .slice A4b m4b d4b] 45); simpa using this
  have hE0 : Ext w w0 := by rw [← hw0]; exact (Ext.alloc _ _).trans (Ext.alloc _ _)
  rw [hw0]
  clear hw0
  refine (sanity_any w0 (hT.ext hE0)).mono ?_
  rintro e' w1 ⟨rfl, hE1⟩
  have hE01 := hE0.trans hE1
  have hbla : w.heap.size < w1.heap.size := Nat.lt_of_lt_of_le (Array.getElem?_eq_some_iff.1 hBa).1 hE1.sz
  have hblb : w.heap.size + 1 < w1.heap.size := Nat.lt_of_lt_of_le (Array.getElem?_eq_some_iff.1 hBb).1 hE1.sz
  have hB1a := (hE1.below.block _ (Array.getElem?_eq_some_iff.1 hBa).1).trans hBa
  have hB1b := (hE1.below.block _ (Array.getElem?_eq_some_iff.1 hBb).1).trans hBb
  have ca0 : w1.cell? ⟨w.heap.size, 0, none⟩ = some (.int .u8 qa) := by simp [World.cell?, hB1a]
  have ca1 : w1.cell? ⟨w.heap.size, 1, none⟩ = some (.int .i64 na) := by simp [World.cell?, hB1a]
  have ca2 : w1.cell? ⟨w.heap.size, 2, none⟩ = some (.string bya) := by simp [World.cell?, hB1a]
  have ca3 : w1.cell? ⟨w.heap.size, 3, none⟩ = some (.slice A3a m3a d3a) := by simp [World.cell?, hB1a]
  have ca4 : w1.cell? ⟨w.heap.size, 4, none⟩ = some (.slice A4a m4a d4a) := by simp [World.cell?, hB1a]
  have cb0 : w1.cell? ⟨w.heap.size + 1, 0, none⟩ = some (.int .u8 qb) := by simp [World.cell?, hB1b]
  have cb1 : w1.cell? ⟨w.heap.size + 1, 1, none⟩ = some (.int .i64 nb) := by simp [World.cell?, hB1b]
  have cb2 : w1.cell? ⟨w.heap.size + 1, 2, none⟩ = some (.string byb) := by simp [World.cell?, hB1b]
  have cb3 : w1.cell? ⟨w.heap.size + 1, 3, none⟩ = some (.slice A3b m3b d3b) := by simp [World.cell?, hB1b]
  have cb4 : w1.cell? ⟨w.heap.size + 1, 4, none⟩ = some (.slice A4b m4b d4b) := by simp [World.cell?, hB1b]
  have hT1 := hT.ext hE01
  have hX1a := hX2a.ext hE01
  have hY1a := hYa.ext hE01
  have hX1b := hX2b.ext hE01
  have hY1b := hYb.ext hE01
  have hbw : w.heap.size ≤ w1.heap.size := by omega
  clear hBa hBb hB1a hB1b hX2a hYa hX2b hYb
  generalize w.heap.size = ba at hbla hblb ca0 ca1 ca2 ca3 ca4 cb0 cb1 cb2 cb3 cb4
  obtain ⟨bb, hbb⟩ : ∃ bb, ba + 1 = bb := ⟨_, rfl⟩
  rw [hbb] at hblb cb0 cb1 cb2 cb3 cb4
  rw [hbb]
  clear hbb
  go_wp2_with fail
  apply wp_region_seq (l := [_, _, _, _, _, _, _, _, _, _, _, _, _, _, _, _, _, _, _, _, _, _, _, _, _, _, _, _, _, _, _, _, _, _, _, _, _, _, _, _, _, _, _, _, _, _, _, _, _, _, _, _, _, _, _, _, _, _, _]) (t := [_]) [some 11, some 12, some 13, some 14, some 15, some 16, some 17, some 18, some 19, some 20, some 21, some 22, some 23, some 24, some 25, some 26, some 27, some 28, some 29, some 30, some 31, some 32, some 33, some 34, some 35, some 36, some 37, some 38, some 39, some 40, some 41, some 42, some 43, some 44, some 45, some 46, some 47, some 48, some 49, some 50, some 51, some 52, some 53, some 54, some 55, some 56, some 57, some 58, some 59, some 60, some 61, some 62, some 63, some 64, some 65, some 66, some 67, some 68, some 6, some 7] [[], [0], [1], [], [3], [], [5], [6], [7], [4, 8], [9], [], [11], [], [13], [14], [15], [12, 16], [17], [], [19], [20], [21], [2, 10, 18, 22], [], [24], [25], [23, 26], [27], [], [29], [30], [], [32], [], [34], [35], [36], [33, 37], [38], [], [40], [], [42], [43], [44], [41, 45], [46], [], [48], [49], [50], [31, 39, 47, 51], [], [53], [54], [52, 55], [56], [28], [57]] [59, 59, 59, 59, 59, 59, 59, 59, 59, 59, 59, 59, 59, 59, 59, 59, 59, 59, 59, 59, 59, 59, 59, 59, 59, 59, 59, 59, 59, 59, 59, 59, 59, 59, 59, 59, 59, 59, 59, 59, 59, 59, 59, 59, 59, 59, 59, 59, 59, 59, 59, 59, 59, 59, 59, 59, 59, 59, 59] [eqv _, eqv _, (eqv (.string ⟨(wrInt na).toArray⟩)), eqv _, eqv _, eqv _, eqv _, eqv _, eqv _, eqv _, (eqv (.string ⟨(wrText sta).toArray⟩)), eqv _, eqv _, eqv _, eqv _, eqv _, eqv _, eqv _, (eqv (.string ⟨(wrList wrInt xa').toArray⟩)), eqv _, eqv _, (ownSPT w1.heap.size (cutL ta)), (eqv (.string ⟨(wrList wrText (cutL ta)).toArray⟩)), (slFour ⟨(wrInt na).toArray⟩ ⟨(wrText sta).toArray⟩ ⟨(wrList wrInt xa').toArray⟩ ⟨(wrList wrText (cutL ta)).toArray⟩), eqv _, eqv _, eqv _, (adAt za ⟨(ser za na sta xa' (cutL ta)).toArray⟩), (eqv (.string ⟨(ser za na sta xa' (cutL ta)).toArray⟩)), eqv _, eqv _, (eqv (.string ⟨(wrInt nb).toArray⟩)), eqv _, eqv _, eqv _, eqv _, eqv _, eqv _, eqv _, (eqv (.string ⟨(wrText stb).toArray⟩)), eqv _, eqv _, eqv _, eqv _, eqv _, eqv _, eqv _, (eqv (.string ⟨(wrList wrInt xb').toArray⟩)), eqv _, eqv _, (ownSPT w1.heap.size (cutL tb)), (eqv (.string ⟨(wrList wrText (cutL tb)).toArray⟩)), (slFour ⟨(wrInt nb).toArray⟩ ⟨(wrText stb).toArray⟩ ⟨(wrList wrInt xb').toArray⟩ ⟨(wrList wrText (cutL tb)).toArray⟩), eqv _, eqv _, eqv _, (adAt za ⟨(ser za nb stb xb' (cutL tb)).toArray⟩), (eqv (.string ⟨(ser za nb stb xb' (cutL tb)).toArray⟩)), eqv _] (by kernel_rfl) (by kernel_rfl) ⟨?o0, ?o1, ?o2, ?o3, ?o4, ?o5, ?o6, ?o7, ?o8, ?o9, ?o10, ?o11, ?o12, ?o13, ?o14, ?o15, ?o16, ?o17, ?o18, ?o19, ?o20, ?o21, ?o22, ?o23, ?o24, ?o25, ?o26, ?o27, ?o28, ?o29, ?o30, ?o31, ?o32, ?o33, ?o34, ?o35, ?o36, ?o37, ?o38, ?o39, ?o40, ?o41, ?o42, ?o43, ?o44, ?o45, ?o46, ?o47, ?o48, ?o49, ?o50, ?o51, ?o52, ?o53, ?o54, ?o55, ?o56, ?o57, ?o58, trivial⟩ ?last
  case o0 => -- Op.fieldAddr 45 (Operand.tmp 2) 1
    intro xv W hE _
    simp only [putD, List.foldl_nil, List.getD_cons_zero]
    refine OpGoal.plain ?_
    go_wp2_with fail
    exact ⟨rfl, Ext.refl _, rfl⟩
  case o1 => -- Op.load 3 (Operand.tmp 11)
    intro xv W hE hp
    have r0 : xv 0 = _ := hp.1
    clear hp
    have hW := (Ext.drew w1).trans hE
    have ka0 := (hW.old (p := ⟨ba, 0, none⟩) hbla).trans ca0
    have ka1 := (hW.old (p := ⟨ba, 1, none⟩) hbla).trans ca1
    have ka2 := (hW.old (p := ⟨ba, 2, none⟩) hbla).trans ca2
    have ka3 := (hW.old (p := ⟨ba, 3, none⟩) hbla).trans ca3
    have ka4 := (hW.old (p := ⟨ba, 4, none⟩) hbla).trans ca4
    have kb0 := (hW.old (p := ⟨bb, 0, none⟩) hblb).trans cb0
    have kb1 := (hW.old (p := ⟨bb, 1, none⟩) hblb).trans cb1
    have kb2 := (hW.old (p := ⟨bb, 2, none⟩) hblb).trans cb2
    have kb3 := (hW.old (p := ⟨bb, 3, none⟩) hblb).trans cb3
    have kb4 := (hW.old (p := ⟨bb, 4, none⟩) hblb).trans cb4
    simp only [putD, List.foldl_nil, List.foldl_cons, List.getD_cons_zero, List.getD_cons_succ, Act.put, List.setIfInBounds_toArray, List.set_cons_zero, List.set_cons_succ]
    refine OpGoal.plain ?_
    go_wp2_with fail
    exact ⟨rfl, Ext.refl _, rfl⟩
  case o2 => -- Op.call { callee := Callee.value (Operand.func 12), args := #[Operand.tmp 12], a
    intro xv W hE hp
    have r1 : xv 1 = _ := hp.1
    clear hp
    simp only [putD, List.foldl_nil, List.foldl_cons, List.getD_cons_zero, List.getD_cons_succ, Act.put, List.setIfInBounds_toArray, List.set_cons_zero, List.set_cons_succ]
    refine OpGoal.plain ?_
    go_wp2_with fail
    refine (wInt_any na hna W (hT1.ext ((Ext.drew w1).trans hE))).mono ?_
    rintro e' w' ⟨rfl, hE2⟩
    go_wp2_with fail
    exact ⟨rfl, hE2, rfl⟩
  case o3 => -- Op.fieldAddr 45 (Operand.tmp 2) 2
    intro xv W hE _
    simp only [putD, List.foldl_nil, List.getD_cons_zero, List.getD_cons_succ]
    refine OpGoal.plain ?_
    go_wp2_with fail
    exact ⟨rfl, Ext.refl _, rfl⟩
  case o4 => -- Op.load 9 (Operand.tmp 14)
    intro xv W hE hp
    have r3 : xv 3 = _ := hp.1
    clear hp
    have hW := (Ext.drew w1).trans hE
    have ka0 := (hW.old (p := ⟨ba, 0, none⟩) hbla).trans ca0
    have ka1 := (hW.old (p := ⟨ba, 1, none⟩) hbla).trans ca1
    have ka2 := (hW.old (p := ⟨ba, 2, none⟩) hbla).trans ca2
    have ka3 := (hW.old (p := ⟨ba, 3, none⟩) hbla).trans ca3
    have ka4 := (hW.old (p := ⟨ba, 4, none⟩) hbla).trans ca4
    have kb0 := (hW.old (p := ⟨bb, 0, none⟩) hblb).trans cb0
    have kb1 := (hW.old (p := ⟨bb, 1, none⟩) hblb).trans cb1
    have kb2 := (hW.old (p := ⟨bb, 2, none⟩) hblb).trans cb2
    have kb3 := (hW.old (p := ⟨bb, 3, none⟩) hblb).trans cb3
    have kb4 := (hW.old (p := ⟨bb, 4, none⟩) hblb).trans cb4
    simp only [putD, List.foldl_nil, List.foldl_cons, List.getD_cons_zero, List.getD_cons_succ, Act.put, List.setIfInBounds_toArray, List.set_cons_zero, List.set_cons_succ]
    refine OpGoal.plain ?_
    go_wp2_with fail
    exact ⟨rfl, Ext.refl _, rfl⟩
  case o5 => -- Op.fieldAddr 45 (Operand.tmp 2) 2
    intro xv W hE _
    simp only [putD, List.foldl_nil, List.getD_cons_zero, List.getD_cons_succ]
    refine OpGoal.plain ?_
    go_wp2_with fail
    exact ⟨rfl, Ext.refl _, rfl⟩
  case o6 => -- Op.load 9 (Operand.tmp 16)
    intro xv W hE hp
    have r5 : xv 5 = _ := hp.1
    clear hp
    have hW := (Ext.drew w1).trans hE
    have ka0 := (hW.old (p := ⟨ba, 0, none⟩) hbla).trans ca0
    have ka1 := (hW.old (p := ⟨ba, 1, none⟩) hbla).trans ca1
    have ka2 := (hW.old (p := ⟨ba, 2, none⟩) hbla).trans ca2
    have ka3 := (hW.old (p := ⟨ba, 3, none⟩) hbla).trans ca3
    have ka4 := (hW.old (p := ⟨ba, 4, none⟩) hbla).trans ca4
    have kb0 := (hW.old (p := ⟨bb, 0, none⟩) hblb).trans cb0
    have kb1 := (hW.old (p := ⟨bb, 1, none⟩) hblb).trans cb1
    have kb2 := (hW.old (p := ⟨bb, 2, none⟩) hblb).trans cb2
    have kb3 := (hW.old (p := ⟨bb, 3, none⟩) hblb).trans cb3
    have kb4 := (hW.old (p := ⟨bb, 4, none⟩) hblb).trans cb4
    simp only [putD, List.foldl_nil, List.foldl_cons, List.getD_cons_zero, List.getD_cons_succ, Act.put, List.setIfInBounds_toArray, List.set_cons_zero, List.set_cons_succ]
    refine OpGoal.plain ?_
    go_wp2_with fail
    exact ⟨rfl, Ext.refl _, rfl⟩
  case o7 => -- Op.call { callee := Callee.builtin Builtin.len, args := #[Operand.tmp 17], argTy
    intro xv W hE hp
    have r6 : xv 6 = _ := hp.1
    clear hp
    simp only [putD, List.foldl_nil, List.foldl_cons, List.getD_cons_zero, List.getD_cons_succ, Act.put, List.setIfInBounds_toArray, List.set_cons_zero, List.set_cons_succ]
    refine OpGoal.plain ?_
    go_wp2_with fail
    exact ⟨rfl, Ext.refl _, rfl⟩
  case o8 => -- Op.call { callee := Callee.builtin Builtin.min, args := #[Operand.tmp 18, Operan
    intro xv W hE hp
    have r7 : xv 7 = _ := hp.1
    clear hp
    simp only [putD, List.foldl_nil, List.foldl_cons, List.getD_cons_zero, List.getD_cons_succ, Act.put, List.setIfInBounds_toArray, List.set_cons_zero, List.set_cons_succ]
    refine OpGoal.plain ?_
    go_wp2_with fail
    exact ⟨rfl, Ext.refl _, rfl⟩
  case o9 => -- Op.slice 9 (Operand.tmp 15) none (some (Operand.tmp 19)) none
    intro xv W hE hp
    have r4 : xv 4 = _ := hp.1
    have r8 : xv 8 = _ := hp.2.1
    clear hp
    simp only [putD, List.foldl_nil, List.foldl_cons, List.getD_cons_zero, List.getD_cons_succ, Act.put, List.setIfInBounds_toArray, List.set_cons_zero, List.set_cons_succ]
    refine OpGoal.plain ?_
    go_wp2_with fail
    exact ⟨rfl, Ext.refl _, rfl⟩
  case o10 => -- Op.call { callee := Callee.value (Operand.func 14), args := #[Operand.tmp 20], a
    intro xv W hE hp
    have r9 : xv 9 = _ := hp.1
    clear hp
    simp only [putD, List.foldl_nil, List.foldl_cons, List.getD_cons_zero, List.getD_cons_succ, Act.put, List.setIfInBounds_toArray, List.set_cons_zero, List.set_cons_succ]
    refine OpGoal.plain ?_
    go_wp2_with fail
    refine (wText_any sta (by omega) W (hT1.ext ((Ext.drew w1).trans hE))).mono ?_
    rintro e' w' ⟨rfl, hE2⟩
    go_wp2_with fail
    exact ⟨rfl, hE2, rfl⟩
  case o11 => -- Op.fieldAddr 45 (Operand.tmp 2) 3
    intro xv W hE _
    simp only [putD, List.foldl_nil, List.getD_cons_zero, List.getD_cons_succ]
    refine OpGoal.plain ?_
    go_wp2_with fail
    exact ⟨rfl, Ext.refl _, rfl⟩
  case o12 => -- Op.load 22 (Operand.tmp 22)
    intro xv W hE hp
    have r11 : xv 11 = _ := hp.1
    clear hp
    have hW := (Ext.drew w1).trans hE
    have ka0 := (hW.old (p := ⟨ba, 0, none⟩) hbla).trans ca0
    have ka1 := (hW.old (p := ⟨ba, 1, none⟩) hbla).trans ca1
    have ka2 := (hW.old (p := ⟨ba, 2, none⟩) hbla).trans ca2
    have ka3 := (hW.old (p := ⟨ba, 3, none⟩) hbla).trans ca3
    have ka4 := (hW.old (p := ⟨ba, 4, none⟩) hbla).trans ca4
    have kb0 := (hW.old (p := ⟨bb, 0, none⟩) hblb).trans cb0
    have kb1 := (hW.old (p := ⟨bb, 1, none⟩) hblb).trans cb1
    have kb2 := (hW.old (p := ⟨bb, 2, none⟩) hblb).trans cb2
    have kb3 := (hW.old (p := ⟨bb, 3, none⟩) hblb).trans cb3
    have kb4 := (hW.old (p := ⟨bb, 4, none⟩) hblb).trans cb4
    simp only [putD, List.foldl_nil, List.foldl_cons, List.getD_cons_zero, List.getD_cons_succ, Act.put, List.setIfInBounds_toArray, List.set_cons_zero, List.set_cons_succ]
    refine OpGoal.plain ?_
    go_wp2_with fail
    exact ⟨rfl, Ext.refl _, rfl⟩
  case o13 => -- Op.fieldAddr 45 (Operand.tmp 2) 3
    intro xv W hE _
    simp only [putD, List.foldl_nil, List.getD_cons_zero, List.getD_cons_succ]
    refine OpGoal.plain ?_
    go_wp2_with fail
    exact ⟨rfl, Ext.refl _, rfl⟩
  case o14 => -- Op.load 22 (Operand.tmp 24)
    intro xv W hE hp
    have r13 : xv 13 = _ := hp.1
    clear hp
    have hW := (Ext.drew w1).trans hE
    have ka0 := (hW.old (p := ⟨ba, 0, none⟩) hbla).trans ca0
    have ka1 := (hW.old (p := ⟨ba, 1, none⟩) hbla).trans ca1
    have ka2 := (hW.old (p := ⟨ba, 2, none⟩) hbla).trans ca2
    have ka3 := (hW.old (p := ⟨ba, 3, none⟩) hbla).trans ca3
    have ka4 := (hW.old (p := ⟨ba, 4, none⟩) hbla).trans ca4
    have kb0 := (hW.old (p := ⟨bb, 0, none⟩) hblb).trans cb0
    have kb1 := (hW.old (p := ⟨bb, 1, none⟩) hblb).trans cb1
    have kb2 := (hW.old (p := ⟨bb, 2, none⟩) hblb).trans cb2
    have kb3 := (hW.old (p := ⟨bb, 3, none⟩) hblb).trans cb3
    have kb4 := (hW.old (p := ⟨bb, 4, none⟩) hblb).trans cb4
    simp only [putD, List.foldl_nil, List.foldl_cons, List.getD_cons_zero, List.getD_cons_succ, Act.put, List.setIfInBounds_toArray, List.set_cons_zero, List.set_cons_succ]
    refine OpGoal.plain ?_
    go_wp2_with fail
    exact ⟨rfl, Ext.refl _, rfl⟩
  case o15 => -- Op.call { callee := Callee.builtin Builtin.len, args := #[Operand.tmp 25], argTy
    intro xv W hE hp
    have r14 : xv 14 = _ := hp.1
    clear hp
    simp only [putD, List.foldl_nil, List.foldl_cons, List.getD_cons_zero, List.getD_cons_succ, Act.put, List.setIfInBounds_toArray, List.set_cons_zero, List.set_cons_succ]
    refine OpGoal.plain ?_
    go_wp2_with fail
    exact ⟨rfl, Ext.refl _, rfl⟩
  case o16 => -- Op.call { callee := Callee.builtin Builtin.min, args := #[Operand.tmp 26, Operan
    intro xv W hE hp
    have r15 : xv 15 = _ := hp.1
    clear hp
    simp only [putD, List.foldl_nil, List.foldl_cons, List.getD_cons_zero, List.getD_cons_succ, Act.put, List.setIfInBounds_toArray, List.set_cons_zero, List.set_cons_succ]
    refine OpGoal.plain ?_
    go_wp2_with fail
    exact ⟨rfl, Ext.refl _, rfl⟩
  case o17 => -- Op.slice 22 (Operand.tmp 23) none (some (Operand.tmp 27)) none
    intro xv W hE hp
    have r12 : xv 12 = _ := hp.1
    have r16 : xv 16 = _ := hp.2.1
    clear hp
    simp only [putD, List.foldl_nil, List.foldl_cons, List.getD_cons_zero, List.getD_cons_succ, Act.put, List.setIfInBounds_toArray, List.set_cons_zero, List.set_cons_succ]
    refine OpGoal.plain ?_
    go_wp2_with fail
    exact ⟨rfl, Ext.refl _, rfl⟩
  case o18 => -- Op.call { callee := Callee.value (Operand.func 16), args := #[Operand.tmp 28], a
    intro xv W hE hp
    have r17 : xv 17 = _ := hp.1
    clear hp
    simp only [putD, List.foldl_nil, List.foldl_cons, List.getD_cons_zero, List.getD_cons_succ, Act.put, List.setIfInBounds_toArray, List.set_cons_zero, List.set_cons_succ]
    refine OpGoal.plain ?_
    go_wp2_with fail
    refine (wlist_I A3a k3a d3a xa' W (hX1a.ext ((Ext.drew w1).trans hE)) (by omega) hV2a (by have := flat_small wrInt 22 xa' (fun x hx => wrInt_len (hV2a x hx)); rw [HX2La.out] at this; omega) (hT1.ext ((Ext.drew w1).trans hE))).mono ?_
    rintro e' w' ⟨rfl, hE2⟩
    go_wp2_with fail
    exact ⟨rfl, hE2, rfl⟩
  case o19 => -- Op.fieldAddr 45 (Operand.tmp 2) 4
    intro xv W hE _
    simp only [putD, List.foldl_nil, List.getD_cons_zero, List.getD_cons_succ]
    refine OpGoal.plain ?_
    go_wp2_with fail
    exact ⟨rfl, Ext.refl _, rfl⟩
  case o20 => -- Op.load 23 (Operand.tmp 30)
    intro xv W hE hp
    have r19 : xv 19 = _ := hp.1
    clear hp
    have hW := (Ext.drew w1).trans hE
    have ka0 := (hW.old (p := ⟨ba, 0, none⟩) hbla).trans ca0
    have ka1 := (hW.old (p := ⟨ba, 1, none⟩) hbla).trans ca1
    have ka2 := (hW.old (p := ⟨ba, 2, none⟩) hbla).trans ca2
    have ka3 := (hW.old (p := ⟨ba, 3, none⟩) hbla).trans ca3
    have ka4 := (hW.old (p := ⟨ba, 4, none⟩) hbla).trans ca4
    have kb0 := (hW.old (p := ⟨bb, 0, none⟩) hblb).trans cb0
    have kb1 := (hW.old (p := ⟨bb, 1, none⟩) hblb).trans cb1
    have kb2 := (hW.old (p := ⟨bb, 2, none⟩) hblb).trans cb2
    have kb3 := (hW.old (p := ⟨bb, 3, none⟩) hblb).trans cb3
    have kb4 := (hW.old (p := ⟨bb, 4, none⟩) hblb).trans cb4
    simp only [putD, List.foldl_nil, List.foldl_cons, List.getD_cons_zero, List.getD_cons_succ, Act.put, List.setIfInBounds_toArray, List.set_cons_zero, List.set_cons_succ]
    refine OpGoal.plain ?_
    go_wp2_with fail
    exact ⟨rfl, Ext.refl _, rfl⟩
  case o21 => -- Op.call { callee := Callee.value (Operand.func 11), args := #[Operand.tmp 31], a
    intro xv W hE hp
    have r20 : xv 20 = _ := hp.1
    clear hp
    simp only [putD, List.foldl_nil, List.foldl_cons, List.getD_cons_zero, List.getD_cons_succ, Act.put, List.setIfInBounds_toArray, List.set_cons_zero, List.set_cons_succ]
    refine OpGoal.plain ?_
    go_wp2_with fail
    refine (cutl_any A4a m4a d4a ta W (hY1a.ext ((Ext.drew w1).trans hE)) hm4a htsa).mono ?_
    rintro e' w' ⟨v, rfl, hO, hE2⟩
    go_wp2_with fail
    exact ⟨rfl, hE2, hO.base_ (by have := hE.sz; simp at this; omega)⟩
  case o22 => -- Op.call { callee := Callee.value (Operand.func 18), args := #[Operand.tmp 32], a
    intro xv W hE hp
    obtain r21 := hp.1
    clear hp
    have r21' : OwnT W w1.heap.size (xv 21) (cutL ta) := r21
    obtain ⟨B2, d2, e21, hR2⟩ := r21'.form
    clear r21' r21
    simp only [putD, List.foldl_nil, List.foldl_cons, List.getD_cons_zero, List.getD_cons_succ, Act.put, List.setIfInBounds_toArray, List.set_cons_zero, List.set_cons_succ]
    refine OpGoal.plain ?_
    go_wp2_with fail
    refine (wlist_T B2 _ d2 (cutL ta) W hR2 (by omega) (fun x hx => by have := hcsa x hx; unfold ShortT; omega) (by have := flat_small wrText 122 (cutL ta) (fun x hx => wrText_len (hcsa x hx)); omega) (hT1.ext ((Ext.drew w1).trans hE))).mono ?_
    rintro e' w' ⟨rfl, hE2⟩
    go_wp2_with fail
    exact ⟨rfl, hE2, rfl⟩
  case o23 => -- Op.buildSlice 23 4 #[(0, Operand.tmp 13), (1, Operand.tmp 21), (2, Operand.tmp 2
    intro xv W hE hp
    have r2 : xv 2 = _ := hp.1
    have r10 : xv 10 = _ := hp.2.1
    have r18 : xv 18 = _ := hp.2.2.1
    have r22 : xv 22 = _ := hp.2.2.2.1
    clear hp
    simp only [putD, List.foldl_nil, List.foldl_cons, List.getD_cons_zero, List.getD_cons_succ, Act.put, List.setIfInBounds_toArray, List.set_cons_zero, List.set_cons_succ]
    refine OpGoal.plain ?_
    go_wp2_with fail
    exact ⟨rfl, Ext.alloc _ _, W.heap.size, rfl, by simp, by simp, by simp, by simp, by simp⟩
  case o24 => -- Op.fieldAddr 45 (Operand.tmp 2) 0
    intro xv W hE _
    simp only [putD, List.foldl_nil, List.getD_cons_zero, List.getD_cons_succ]
    refine OpGoal.plain ?_
    go_wp2_with fail
    exact ⟨rfl, Ext.refl _, rfl⟩
  case o25 => -- Op.load 5 (Operand.tmp 35)
    intro xv W hE hp
    have r24 : xv 24 = _ := hp.1
    clear hp
    have hW := (Ext.drew w1).trans hE
    have ka0 := (hW.old (p := ⟨ba, 0, none⟩) hbla).trans ca0
    have ka1 := (hW.old (p := ⟨ba, 1, none⟩) hbla).trans ca1
    have ka2 := (hW.old (p := ⟨ba, 2, none⟩) hbla).trans ca2
    have ka3 := (hW.old (p := ⟨ba, 3, none⟩) hbla).trans ca3
    have ka4 := (hW.old (p := ⟨ba, 4, none⟩) hbla).trans ca4
    have kb0 := (hW.old (p := ⟨bb, 0, none⟩) hblb).trans cb0
    have kb1 := (hW.old (p := ⟨bb, 1, none⟩) hblb).trans cb1
    have kb2 := (hW.old (p := ⟨bb, 2, none⟩) hblb).trans cb2
    have kb3 := (hW.old (p := ⟨bb, 3, none⟩) hblb).trans cb3
    have kb4 := (hW.old (p := ⟨bb, 4, none⟩) hblb).trans cb4
    simp only [putD, List.foldl_nil, List.foldl_cons, List.getD_cons_zero, List.getD_cons_succ, Act.put, List.setIfInBounds_toArray, List.set_cons_zero, List.set_cons_succ]
    refine OpGoal.plain ?_
    go_wp2_with fail
    exact ⟨rfl, Ext.refl _, rfl⟩
  case o26 => -- Op.binOp BinOp.rem 5 (Operand.tmp 36) (Operand.const (Value.int IntKind.u8 4)) 5
    intro xv W hE hp
    have r25 : xv 25 = _ := hp.1
    clear hp
    simp only [putD, List.foldl_nil, List.foldl_cons, List.getD_cons_zero, List.getD_cons_succ, Act.put, List.setIfInBounds_toArray, List.set_cons_zero, List.set_cons_succ]
    refine OpGoal.plain ?_
    go_wp2_with fail
    exact ⟨rfl, Ext.refl _, rfl⟩
  case o27 => -- Op.indexAddr 23 (Operand.tmp 34) (Operand.tmp 37)
    intro xv W hE hp
    obtain ⟨g, r23, hg, g0, g1, g2, g3⟩ := hp.1
    have r26 : xv 26 = _ := hp.2.1
    clear hp
    simp only [putD, List.foldl_nil, List.foldl_cons, List.getD_cons_zero, List.getD_cons_succ, Act.put, List.setIfInBounds_toArray, List.set_cons_zero, List.set_cons_succ]
    refine OpGoal.plain ?_
    go_wp2_with fail
    exact ⟨rfl, Ext.refl _, g, rfl, hg, four_at hz4 g0 g1 g2 g3⟩
  case o28 => -- Op.load 9 (Operand.tmp 38)
    intro xv W hE hp
    obtain ⟨g, r27, hg, hx⟩ := hp.1
    clear hp
    have hW := (Ext.drew w1).trans hE
    have ka0 := (hW.old (p := ⟨ba, 0, none⟩) hbla).trans ca0
    have ka1 := (hW.old (p := ⟨ba, 1, none⟩) hbla).trans ca1
    have ka2 := (hW.old (p := ⟨ba, 2, none⟩) hbla).trans ca2
    have ka3 := (hW.old (p := ⟨ba, 3, none⟩) hbla).trans ca3
    have ka4 := (hW.old (p := ⟨ba, 4, none⟩) hbla).trans ca4
    have kb0 := (hW.old (p := ⟨bb, 0, none⟩) hblb).trans cb0
    have kb1 := (hW.old (p := ⟨bb, 1, none⟩) hblb).trans cb1
    have kb2 := (hW.old (p := ⟨bb, 2, none⟩) hblb).trans cb2
    have kb3 := (hW.old (p := ⟨bb, 3, none⟩) hblb).trans cb3
    have kb4 := (hW.old (p := ⟨bb, 4, none⟩) hblb).trans cb4
    simp only [putD, List.foldl_nil, List.foldl_cons, List.getD_cons_zero, List.getD_cons_succ, Act.put, List.setIfInBounds_toArray, List.set_cons_zero, List.set_cons_succ]
    refine OpGoal.plain ?_
    go_wp2_with fail
    exact ⟨rfl, Ext.refl _, rfl⟩
  case o29 => -- Op.fieldAddr 45 (Operand.tmp 3) 1
    intro xv W hE _
    simp only [putD, List.foldl_nil, List.getD_cons_zero, List.getD_cons_succ]
    refine OpGoal.plain ?_
    go_wp2_with fail
    exact ⟨rfl, Ext.refl _, rfl⟩
  case o30 => -- Op.load 3 (Operand.tmp 40)
    intro xv W hE hp
    have r29 : xv 29 = _ := hp.1
    clear hp
    have hW := (Ext.drew w1).trans hE
    have ka0 := (hW.old (p := ⟨ba, 0, none⟩) hbla).trans ca0
    have ka1 := (hW.old (p := ⟨ba, 1, none⟩) hbla).trans ca1
    have ka2 := (hW.old (p := ⟨ba, 2, none⟩) hbla).trans ca2
    have ka3 := (hW.old (p := ⟨ba, 3, none⟩) hbla).trans ca3
    have ka4 := (hW.old (p := ⟨ba, 4, none⟩) hbla).trans ca4
    have kb0 := (hW.old (p := ⟨bb, 0, none⟩) hblb).trans cb0
    have kb1 := (hW.old (p := ⟨bb, 1, none⟩) hblb).trans cb1
    have kb2 := (hW.old (p := ⟨bb, 2, none⟩) hblb).trans cb2
    have kb3 := (hW.old (p := ⟨bb, 3, none⟩) hblb).trans cb3
    have kb4 := (hW.old (p := ⟨bb, 4, none⟩) hblb).trans cb4
    simp only [putD, List.foldl_nil, List.foldl_cons, List.getD_cons_zero, List.getD_cons_succ, Act.put, List.setIfInBounds_toArray, List.set_cons_zero, List.set_cons_succ]
    refine OpGoal.plain ?_
    go_wp2_with fail
    exact ⟨rfl, Ext.refl _, rfl⟩
  case o31 => -- Op.call { callee := Callee.value (Operand.func 12), args := #[Operand.tmp 41], a
    intro xv W hE hp
    have r30 : xv 30 = _ := hp.1
    clear hp
    simp only [putD, List.foldl_nil, List.foldl_cons, List.getD_cons_zero, List.getD_cons_succ, Act.put, List.setIfInBounds_toArray, List.set_cons_zero, List.set_cons_succ]
    refine OpGoal.plain ?_
    go_wp2_with fail
    refine (wInt_any nb hnb W (hT1.ext ((Ext.drew w1).trans hE))).mono ?_
    rintro e' w' ⟨rfl, hE2⟩
    go_wp2_with fail
    exact ⟨rfl, hE2, rfl⟩
  case o32 => -- Op.fieldAddr 45 (Operand.tmp 3) 2
    intro xv W hE _
    simp only [putD, List.foldl_nil, List.getD_cons_zero, List.getD_cons_succ]
    refine OpGoal.plain ?_
    go_wp2_with fail
    exact ⟨rfl, Ext.refl _, rfl⟩
  case o33 => -- Op.load 9 (Operand.tmp 43)
    intro xv W hE hp
    have r32 : xv 32 = _ := hp.1
    clear hp
    have hW := (Ext.drew w1).trans hE
    have ka0 := (hW.old (p := ⟨ba, 0, none⟩) hbla).trans ca0
    have ka1 := (hW.old (p := ⟨ba, 1, none⟩) hbla).trans ca1
    have ka2 := (hW.old (p := ⟨ba, 2, none⟩) hbla).trans ca2
    have ka3 := (hW.old (p := ⟨ba, 3, none⟩) hbla).trans ca3
    have ka4 := (hW.old (p := ⟨ba, 4, none⟩) hbla).trans ca4
    have kb0 := (hW.old (p := ⟨bb, 0, none⟩) hblb).trans cb0
    have kb1 := (hW.old (p := ⟨bb, 1, none⟩) hblb).trans cb1
    have kb2 := (hW.old (p := ⟨bb, 2, none⟩) hblb).trans cb2
    have kb3 := (hW.old (p := ⟨bb, 3, none⟩) hblb).trans cb3
    have kb4 := (hW.old (p := ⟨bb, 4, none⟩) hblb).trans cb4
    simp only [putD, List.foldl_nil, List.foldl_cons, List.getD_cons_zero, List.getD_cons_succ, Act.put, List.setIfInBounds_toArray, List.set_cons_zero, List.set_cons_succ]
    refine OpGoal.plain ?_
    go_wp2_with fail
    exact ⟨rfl, Ext.refl _, rfl⟩
  case o34 => -- Op.fieldAddr 45 (Operand.tmp 3) 2
    intro xv W hE _
    simp only [putD, List.foldl_nil, List.getD_cons_zero, List.getD_cons_succ]
    refine OpGoal.plain ?_
    go_wp2_with fail
    exact ⟨rfl, Ext.refl _, rfl⟩
  case o35 => -- Op.load 9 (Operand.tmp 45)
    intro xv W hE hp
    have r34 : xv 34 = _ := hp.1
    clear hp
    have hW := (Ext.drew w1).trans hE
    have ka0 := (hW.old (p := ⟨ba, 0, none⟩) hbla).trans ca0
    have ka1 := (hW.old (p := ⟨ba, 1, none⟩) hbla).trans ca1
    have ka2 := (hW.old (p := ⟨ba, 2, none⟩) hbla).trans ca2
    have ka3 := (hW.old (p := ⟨ba, 3, none⟩) hbla).trans ca3
    have ka4 := (hW.old (p := ⟨ba, 4, none⟩) hbla).trans ca4
    have kb0 := (hW.old (p := ⟨bb, 0, none⟩) hblb).trans cb0
    have kb1 := (hW.old (p := ⟨bb, 1, none⟩) hblb).trans cb1
    have kb2 := (hW.old (p := ⟨bb, 2, none⟩) hblb).trans cb2
    have kb3 := (hW.old (p := ⟨bb, 3, none⟩) hblb).trans cb3
    have kb4 := (hW.old (p := ⟨bb, 4, none⟩) hblb).trans cb4
    simp only [putD, List.foldl_nil, List.foldl_cons, List.getD_cons_zero, List.getD_cons_succ, Act.put, List.setIfInBounds_toArray, List.set_cons_zero, List.set_cons_succ]
    refine OpGoal.plain ?_
    go_wp2_with fail
    exact ⟨rfl, Ext.refl _, rfl⟩
  case o36 => -- Op.call { callee := Callee.builtin Builtin.len, args := #[Operand.tmp 46], argTy
    intro xv W hE hp
    have r35 : xv 35 = _ := hp.1
    clear hp
    simp only [putD, List.foldl_nil, List.foldl_cons, List.getD_cons_zero, List.getD_cons_succ, Act.put, List.setIfInBounds_toArray, List.set_cons_zero, List.set_cons_succ]
    refine OpGoal.plain ?_
    go_wp2_with fail
    exact ⟨rfl, Ext.refl _, rfl⟩
  case o37 => -- Op.call { callee := Callee.builtin Builtin.min, args := #[Operand.tmp 47, Operan
    intro xv W hE hp
    have r36 : xv 36 = _ := hp.1
    clear hp
    simp only [putD, List.foldl_nil, List.foldl_cons, List.getD_cons_zero, List.getD_cons_succ, Act.put, List.setIfInBounds_toArray, List.set_cons_zero, List.set_cons_succ]
    refine OpGoal.plain ?_
    go_wp2_with fail
    exact ⟨rfl, Ext.refl _, rfl⟩
  case o38 => -- Op.slice 9 (Operand.tmp 44) none (some (Operand.tmp 48)) none
    intro xv W hE hp
    have r33 : xv 33 = _ := hp.1
    have r37 : xv 37 = _ := hp.2.1
    clear hp
    simp only [putD, List.foldl_nil, List.foldl_cons, List.getD_cons_zero, List.getD_cons_succ, Act.put, List.setIfInBounds_toArray, List.set_cons_zero, List.set_cons_succ]
    refine OpGoal.plain ?_
    go_wp2_with fail
    exact ⟨rfl, Ext.refl _, rfl⟩
  case o39 => -- Op.call { callee := Callee.value (Operand.func 14), args := #[Operand.tmp 49], a
    intro xv W hE hp
    have r38 : xv 38 = _ := hp.1
    clear hp
    simp only [putD, List.foldl_nil, List.foldl_cons, List.getD_cons_zero, List.getD_cons_succ, Act.put, List.setIfInBounds_toArray, List.set_cons_zero, List.set_cons_succ]
    refine OpGoal.plain ?_
    go_wp2_with fail
    refine (wText_any stb (by omega) W (hT1.ext ((Ext.drew w1).trans hE))).mono ?_
    rintro e' w' ⟨rfl, hE2⟩
    go_wp2_with fail
    exact ⟨rfl, hE2, rfl⟩
  case o40 => -- Op.fieldAddr 45 (Operand.tmp 3) 3
    intro xv W hE _
    simp only [putD, List.foldl_nil, List.getD_cons_zero, List.getD_cons_succ]
    refine OpGoal.plain ?_
    go_wp2_with fail
    exact ⟨rfl, Ext.refl _, rfl⟩
  case o41 => -- Op.load 22 (Operand.tmp 51)
    intro xv W hE hp
    have r40 : xv 40 = _ := hp.1
    clear hp
    have hW := (Ext.drew w1).trans hE
    have ka0 := (hW.old (p := ⟨ba, 0, none⟩) hbla).trans ca0
    have ka1 := (hW.old (p := ⟨ba, 1, none⟩) hbla).trans ca1
    have ka2 := (hW.old (p := ⟨ba, 2, none⟩) hbla).trans ca2
    have ka3 := (hW.old (p := ⟨ba, 3, none⟩) hbla).trans ca3
    have ka4 := (hW.old (p := ⟨ba, 4, none⟩) hbla).trans ca4
    have kb0 := (hW.old (p := ⟨bb, 0, none⟩) hblb).trans cb0
    have kb1 := (hW.old (p := ⟨bb, 1, none⟩) hblb).trans cb1
    have kb2 := (hW.old (p := ⟨bb, 2, none⟩) hblb).trans cb2
    have kb3 := (hW.old (p := ⟨bb, 3, none⟩) hblb).trans cb3
    have kb4 := (hW.old (p := ⟨bb, 4, none⟩) hblb).trans cb4
    simp only [putD, List.foldl_nil, List.foldl_cons, List.getD_cons_zero, List.getD_cons_succ, Act.put, List.setIfInBounds_toArray, List.set_cons_zero, List.set_cons_succ]
    refine OpGoal.plain ?_
    go_wp2_with fail
    exact ⟨rfl, Ext.refl _, rfl⟩
  case o42 => -- Op.fieldAddr 45 (Operand.tmp 3) 3
    intro xv W hE _
    simp only [putD, List.foldl_nil, List.getD_cons_zero, List.getD_cons_succ]
    refine OpGoal.plain ?_
    go_wp2_with fail
    exact ⟨rfl, Ext.refl _, rfl⟩
  case o43 => -- Op.load 22 (Operand.tmp 53)
    intro xv W hE hp
    have r42 : xv 42 = _ := hp.1
    clear hp
    have hW := (Ext.drew w1).trans hE
    have ka0 := (hW.old (p := ⟨ba, 0, none⟩) hbla).trans ca0
    have ka1 := (hW.old (p := ⟨ba, 1, none⟩) hbla).trans ca1
    have ka2 := (hW.old (p := ⟨ba, 2, none⟩) hbla).trans ca2
    have ka3 := (hW.old (p := ⟨ba, 3, none⟩) hbla).trans ca3
    have ka4 := (hW.old (p := ⟨ba, 4, none⟩) hbla).trans ca4
    have kb0 := (hW.old (p := ⟨bb, 0, none⟩) hblb).trans cb0
    have kb1 := (hW.old (p := ⟨bb, 1, none⟩) hblb).trans cb1
    have kb2 := (hW.old (p := ⟨bb, 2, none⟩) hblb).trans cb2
    have kb3 := (hW.old (p := ⟨bb, 3, none⟩) hblb).trans cb3
    have kb4 := (hW.old (p := ⟨bb, 4, none⟩) hblb).trans cb4
    simp only [putD, List.foldl_nil, List.foldl_cons, List.getD_cons_zero, List.getD_cons_succ, Act.put, List.setIfInBounds_toArray, List.set_cons_zero, List.set_cons_succ]
    refine OpGoal.plain ?_
    go_wp2_with fail
    exact ⟨rfl, Ext.refl _, rfl⟩
  case o44 => -- Op.call { callee := Callee.builtin Builtin.len, args := #[Operand.tmp 54], argTy
    intro xv W hE hp
    have r43 : xv 43 = _ := hp.1
    clear hp
    simp only [putD, List.foldl_nil, List.foldl_cons, List.getD_cons_zero, List.getD_cons_succ, Act.put, List.setIfInBounds_toArray, List.set_cons_zero, List.set_cons_succ]
    refine OpGoal.plain ?_
    go_wp2_with fail
    exact ⟨rfl, Ext.refl _, rfl⟩
  case o45 => -- Op.call { callee := Callee.builtin Builtin.min, args := #[Operand.tmp 55, Operan
    intro xv W hE hp
    have r44 : xv 44 = _ := hp.1
    clear hp
    simp only [putD, List.foldl_nil, List.foldl_cons, List.getD_cons_zero, List.getD_cons_succ, Act.put, List.setIfInBounds_toArray, List.set_cons_zero, List.set_cons_succ]
    refine OpGoal.plain ?_
    go_wp2_with fail
    exact ⟨rfl, Ext.refl _, rfl⟩
  case o46 => -- Op.slice 22 (Operand.tmp 52) none (some (Operand.tmp 56)) none
    intro xv W hE hp
    have r41 : xv 41 = _ := hp.1
    have r45 : xv 45 = _ := hp.2.1
    clear hp
    simp only [putD, List.foldl_nil, List.foldl_cons, List.getD_cons_zero, List.getD_cons_succ, Act.put, List.setIfInBounds_toArray, List.set_cons_zero, List.set_cons_succ]
    refine OpGoal.plain ?_
    go_wp2_with fail
    exact ⟨rfl, Ext.refl _, rfl⟩
  case o47 => -- Op.call { callee := Callee.value (Operand.func 16), args := #[Operand.tmp 57], a
    intro xv W hE hp
    have r46 : xv 46 = _ := hp.1
    clear hp
    simp only [putD, List.foldl_nil, List.foldl_cons, List.getD_cons_zero, List.getD_cons_succ, Act.put, List.setIfInBounds_toArray, List.set_cons_zero, List.set_cons_succ]
    refine OpGoal.plain ?_
    go_wp2_with fail
    refine (wlist_I A3b k3b d3b xb' W (hX1b.ext ((Ext.drew w1).trans hE)) (by omega) hV2b (by have := flat_small wrInt 22 xb' (fun x hx => wrInt_len (hV2b x hx)); rw [HX2Lb.out] at this; omega) (hT1.ext ((Ext.drew w1).trans hE))).mono ?_
    rintro e' w' ⟨rfl, hE2⟩
    go_wp2_with fail
    exact ⟨rfl, hE2, rfl⟩
  case o48 => -- Op.fieldAddr 45 (Operand.tmp 3) 4
    intro xv W hE _
    simp only [putD, List.foldl_nil, List.getD_cons_zero, List.getD_cons_succ]
    refine OpGoal.plain ?_
    go_wp2_with fail
    exact ⟨rfl, Ext.refl _, rfl⟩
  case o49 => -- Op.load 23 (Operand.tmp 59)
    intro xv W hE hp
    have r48 : xv 48 = _ := hp.1
    clear hp
    have hW := (Ext.drew w1).trans hE
    have ka0 := (hW.old (p := ⟨ba, 0, none⟩) hbla).trans ca0
    have ka1 := (hW.old (p := ⟨ba, 1, none⟩) hbla).trans ca1
    have ka2 := (hW.old (p := ⟨ba, 2, none⟩) hbla).trans ca2
    have ka3 := (hW.old (p := ⟨ba, 3, none⟩) hbla).trans ca3
    have ka4 := (hW.old (p := ⟨ba, 4, none⟩) hbla).trans ca4
    have kb0 := (hW.old (p := ⟨bb, 0, none⟩) hblb).trans cb0
    have kb1 := (hW.old (p := ⟨bb, 1, none⟩) hblb).trans cb1
    have kb2 := (hW.old (p := ⟨bb, 2, none⟩) hblb).trans cb2
    have kb3 := (hW.old (p := ⟨bb, 3, none⟩) hblb).trans cb3
    have kb4 := (hW.old (p := ⟨bb, 4, none⟩) hblb).trans cb4
    simp only [putD, List.foldl_nil, List.foldl_cons, List.getD_cons_zero, List.getD_cons_succ, Act.put, List.setIfInBounds_toArray, List.set_cons_zero, List.set_cons_succ]
    refine OpGoal.plain ?_
    go_wp2_with fail
    exact ⟨rfl, Ext.refl _, rfl⟩
  case o50 => -- Op.call { callee := Callee.value (Operand.func 11), args := #[Operand.tmp 60], a
    intro xv W hE hp
    have r49 : xv 49 = _ := hp.1
    clear hp
    simp only [putD, List.foldl_nil, List.foldl_cons, List.getD_cons_zero, List.getD_cons_succ, Act.put, List.setIfInBounds_toArray, List.set_cons_zero, List.set_cons_succ]
    refine OpGoal.plain ?_
    go_wp2_with fail
    refine (cutl_any A4b m4b d4b tb W (hY1b.ext ((Ext.drew w1).trans hE)) hm4b htsb).mono ?_
    rintro e' w' ⟨v, rfl, hO, hE2⟩
    go_wp2_with fail
    exact ⟨rfl, hE2, hO.base_ (by have := hE.sz; simp at this; omega)⟩
  case o51 => -- Op.call { callee := Callee.value (Operand.func 18), args := #[Operand.tmp 61], a
    intro xv W hE hp
    obtain r50 := hp.1
    clear hp
    have r21' : OwnT W w1.heap.size (xv 50) (cutL tb) := r50
    obtain ⟨B2, d2, e21, hR2⟩ := r21'.form
    clear r21' r50
    simp only [putD, List.foldl_nil, List.foldl_cons, List.getD_cons_zero, List.getD_cons_succ, Act.put, List.setIfInBounds_toArray, List.set_cons_zero, List.set_cons_succ]
    refine OpGoal.plain ?_
    go_wp2_with fail
    refine (wlist_T B2 _ d2 (cutL tb) W hR2 (by omega) (fun x hx => by have := hcsb x hx; unfold ShortT; omega) (by have := flat_small wrText 122 (cutL tb) (fun x hx => wrText_len (hcsb x hx)); omega) (hT1.ext ((Ext.drew w1).trans hE))).mono ?_
    rintro e' w' ⟨rfl, hE2⟩
    go_wp2_with fail
    exact ⟨rfl, hE2, rfl⟩
  case o52 => -- Op.buildSlice 23 4 #[(0, Operand.tmp 42), (1, Operand.tmp 50), (2, Operand.tmp 5
    intro xv W hE hp
    have r31 : xv 31 = _ := hp.1
    have r39 : xv 39 = _ := hp.2.1
    have r47 : xv 47 = _ := hp.2.2.1
    have r51 : xv 51 = _ := hp.2.2.2.1
    clear hp
    simp only [putD, List.foldl_nil, List.foldl_cons, List.getD_cons_zero, List.getD_cons_succ, Act.put, List.setIfInBounds_toArray, List.set_cons_zero, List.set_cons_succ]
    refine OpGoal.plain ?_
    go_wp2_with fail
    exact ⟨rfl, Ext.alloc _ _, W.heap.size, rfl, by simp, by simp, by simp, by simp, by simp⟩
  case o53 => -- Op.fieldAddr 45 (Operand.tmp 2) 0
    intro xv W hE _
    simp only [putD, List.foldl_nil, List.getD_cons_zero, List.getD_cons_succ]
    refine OpGoal.plain ?_
    go_wp2_with fail
    exact ⟨rfl, Ext.refl _, rfl⟩
  case o54 => -- Op.load 5 (Operand.tmp 64)
    intro xv W hE hp
    have r53 : xv 53 = _ := hp.1
    clear hp
    have hW := (Ext.drew w1).trans hE
    have ka0 := (hW.old (p := ⟨ba, 0, none⟩) hbla).trans ca0
    have ka1 := (hW.old (p := ⟨ba, 1, none⟩) hbla).trans ca1
    have ka2 := (hW.old (p := ⟨ba, 2, none⟩) hbla).trans ca2
    have ka3 := (hW.old (p := ⟨ba, 3, none⟩) hbla).trans ca3
    have ka4 := (hW.old (p := ⟨ba, 4, none⟩) hbla).trans ca4
    have kb0 := (hW.old (p := ⟨bb, 0, none⟩) hblb).trans cb0
    have kb1 := (hW.old (p := ⟨bb, 1, none⟩) hblb).trans cb1
    have kb2 := (hW.old (p := ⟨bb, 2, none⟩) hblb).trans cb2
    have kb3 := (hW.old (p := ⟨bb, 3, none⟩) hblb).trans cb3
    have kb4 := (hW.old (p := ⟨bb, 4, none⟩) hblb).trans cb4
    simp only [putD, List.foldl_nil, List.foldl_cons, List.getD_cons_zero, List.getD_cons_succ, Act.put, List.setIfInBounds_toArray, List.set_cons_zero, List.set_cons_succ]
    refine OpGoal.plain ?_
    go_wp2_with fail
    exact ⟨rfl, Ext.refl _, rfl⟩
  case o55 => -- Op.binOp BinOp.rem 5 (Operand.tmp 65) (Operand.const (Value.int IntKind.u8 4)) 5
    intro xv W hE hp
    have r54 : xv 54 = _ := hp.1
    clear hp
    simp only [putD, List.foldl_nil, List.foldl_cons, List.getD_cons_zero, List.getD_cons_succ, Act.put, List.setIfInBounds_toArray, List.set_cons_zero, List.set_cons_succ]
    refine OpGoal.plain ?_
    go_wp2_with fail
    exact ⟨rfl, Ext.refl _, rfl⟩
  case o56 => -- Op.indexAddr 23 (Operand.tmp 63) (Operand.tmp 66)
    intro xv W hE hp
    obtain ⟨g, r52, hg, g0, g1, g2, g3⟩ := hp.1
    have r55 : xv 55 = _ := hp.2.1
    clear hp
    simp only [putD, List.foldl_nil, List.foldl_cons, List.getD_cons_zero, List.getD_cons_succ, Act.put, List.setIfInBounds_toArray, List.set_cons_zero, List.set_cons_succ]
    refine OpGoal.plain ?_
    go_wp2_with fail
    exact ⟨rfl, Ext.refl _, g, rfl, hg, four_at hz4 g0 g1 g2 g3⟩
  case o57 => -- Op.load 9 (Operand.tmp 67)
    intro xv W hE hp
    obtain ⟨g, r56, hg, hx⟩ := hp.1
    clear hp
    have hW := (Ext.drew w1).trans hE
    have ka0 := (hW.old (p := ⟨ba, 0, none⟩) hbla).trans ca0
    have ka1 := (hW.old (p := ⟨ba, 1, none⟩) hbla).trans ca1
    have ka2 := (hW.old (p := ⟨ba, 2, none⟩) hbla).trans ca2
    have ka3 := (hW.old (p := ⟨ba, 3, none⟩) hbla).trans ca3
    have ka4 := (hW.old (p := ⟨ba, 4, none⟩) hbla).trans ca4
    have kb0 := (hW.old (p := ⟨bb, 0, none⟩) hblb).trans cb0
    have kb1 := (hW.old (p := ⟨bb, 1, none⟩) hblb).trans cb1
    have kb2 := (hW.old (p := ⟨bb, 2, none⟩) hblb).trans cb2
    have kb3 := (hW.old (p := ⟨bb, 3, none⟩) hblb).trans cb3
    have kb4 := (hW.old (p := ⟨bb, 4, none⟩) hblb).trans cb4
    simp only [putD, List.foldl_nil, List.foldl_cons, List.getD_cons_zero, List.getD_cons_succ, Act.put, List.setIfInBounds_toArray, List.set_cons_zero, List.set_cons_succ]
    refine OpGoal.plain ?_
    go_wp2_with fail
    exact ⟨rfl, Ext.refl _, rfl⟩
  case o58 => -- Op.assign (Operand.tmp 39)
    intro xv W hE hp
    have r28 : xv 28 = _ := hp.1
    clear hp
    simp only [putD, List.foldl_nil, List.foldl_cons, List.getD_cons_zero, List.getD_cons_succ, Act.put, List.setIfInBounds_toArray, List.set_cons_zero, List.set_cons_succ]
    refine OpGoal.plain ?_
    go_wp2_with fail
    exact ⟨rfl, Ext.refl _, rfl⟩
  case last =>
    intro xv W hE hp
    have r0 : xv 0 = _ := hp.1
    have r1 : xv 1 = _ := hp.2.1
    have r2 : xv 2 = _ := hp.2.2.1
    have r3 : xv 3 = _ := hp.2.2.2.1
    have r4 : xv 4 = _ := hp.2.2.2.2.1
    have r5 : xv 5 = _ := hp.2.2.2.2.2.1
    have r6 : xv 6 = _ := hp.2.2.2.2.2.2.1
    have r7 : xv 7 = _ := hp.2.2.2.2.2.2.2.1
    have r8 : xv 8 = _ := hp.2.2.2.2.2.2.2.2.1
    have r9 : xv 9 = _ := hp.2.2.2.2.2.2.2.2.2.1
    have r10 : xv 10 = _ := hp.2.2.2.2.2.2.2.2.2.2.1
    have r11 : xv 11 = _ := hp.2.2.2.2.2.2.2.2.2.2.2.1
    have r12 : xv 12 = _ := hp.2.2.2.2.2.2.2.2.2.2.2.2.1
    have r13 : xv 13 = _ := hp.2.2.2.2.2.2.2.2.2.2.2.2.2.1
    have r14 : xv 14 = _ := hp.2.2.2.2.2.2.2.2.2.2.2.2.2.2.1
    have r15 : xv 15 = _ := hp.2.2.2.2.2.2.2.2.2.2.2.2.2.2.2.1
    have r16 : xv 16 = _ := hp.2.2.2.2.2.2.2.2.2.2.2.2.2.2.2.2.1
    have r17 : xv 17 = _ := hp.2.2.2.2.2.2.2.2.2.2.2.2.2.2.2.2.2.1
    have r18 : xv 18 = _ := hp.2.2.2.2.2.2.2.2.2.2.2.2.2.2.2.2.2.2.1
    have r19 : xv 19 = _ := hp.2.2.2.2.2.2.2.2.2.2.2.2.2.2.2.2.2.2.2.1
    have r20 : xv 20 = _ := hp.2.2.2.2.2.2.2.2.2.2.2.2.2.2.2.2.2.2.2.2.1
    obtain r21 := hp.2.2.2.2.2.2.2.2.2.2.2.2.2.2.2.2.2.2.2.2.2.1
    have r22 : xv 22 = _ := hp.2.2.2.2.2.2.2.2.2.2.2.2.2.2.2.2.2.2.2.2.2.2.1
    obtain ⟨g, r23, hg, g0, g1, g2, g3⟩ := hp.2.2.2.2.2.2.2.2.2.2.2.2.2.2.2.2.2.2.2.2.2.2.2.1
    have r24 : xv 24 = _ := hp.2.2.2.2.2.2.2.2.2.2.2.2.2.2.2.2.2.2.2.2.2.2.2.2.1
    have r25 : xv 25 = _ := hp.2.2.2.2.2.2.2.2.2.2.2.2.2.2.2.2.2.2.2.2.2.2.2.2.2.1
    have r26 : xv 26 = _ := hp.2.2.2.2.2.2.2.2.2.2.2.2.2.2.2.2.2.2.2.2.2.2.2.2.2.2.1
    obtain ⟨g, r27, hg, hx⟩ := hp.2.2.2.2.2.2.2.2.2.2.2.2.2.2.2.2.2.2.2.2.2.2.2.2.2.2.2.1
    have r28 : xv 28 = _ := hp.2.2.2.2.2.2.2.2.2.2.2.2.2.2.2.2.2.2.2.2.2.2.2.2.2.2.2.2.1
    have r29 : xv 29 = _ := hp.2.2.2.2.2.2.2.2.2.2.2.2.2.2.2.2.2.2.2.2.2.2.2.2.2.2.2.2.2.1
    have r30 : xv 30 = _ := hp.2.2.2.2.2.2.2.2.2.2.2.2.2.2.2.2.2.2.2.2.2.2.2.2.2.2.2.2.2.2.1
    have r31 : xv 31 = _ := hp.2.2.2.2.2.2.2.2.2.2.2.2.2.2.2.2.2.2.2.2.2.2.2.2.2.2.2.2.2.2.2.1
    have r32 : xv 32 = _ := hp.2.2.2.2.2.2.2.2.2.2.2.2.2.2.2.2.2.2.2.2.2.2.2.2.2.2.2.2.2.2.2.2.1
    have r33 : xv 33 = _ := hp.2.2.2.2.2.2.2.2.2.2.2.2.2.2.2.2.2.2.2.2.2.2.2.2.2.2.2.2.2.2.2.2.2.1
    have r34 : xv 34 = _ := hp.2.2.2.2.2.2.2.2.2.2.2.2.2.2.2.2.2.2.2.2.2.2.2.2.2.2.2.2.2.2.2.2.2.2.1
    have r35 : xv 35 = _ := hp.2.2.2.2.2.2.2.2.2.2.2.2.2.2.2.2.2.2.2.2.2.2.2.2.2.2.2.2.2.2.2.2.2.2.2.1
    have r36 : xv 36 = _ := hp.2.2.2.2.2.2.2.2.2.2.2.2.2.2.2.2.2.2.2.2.2.2.2.2.2.2.2.2.2.2.2.2.2.2.2.2.1
    have r37 : xv 37 = _ := hp.2.2.2.2.2.2.2.2.2.2.2.2.2.2.2.2.2.2.2.2.2.2.2.2.2.2.2.2.2.2.2.2.2.2.2.2.2.1
    have r38 : xv 38 = _ := hp.2.2.2.2.2.2.2.2.2.2.2.2.2.2.2.2.2.2.2.2.2.2.2.2.2.2.2.2.2.2.2.2.2.2.2.2.2.2.1
    have r39 : xv 39 = _ := hp.2.2.2.2.2.2.2.2.2.2.2.2.2.2.2.2.2.2.2.2.2.2.2.2.2.2.2.2.2.2.2.2.2.2.2.2.2.2.2.1
    have r40 : xv 40 = _ := hp.2.2.2.2.2.2.2.2.2.2.2.2.2.2.2.2.2.2.2.2.2.2.2.2.2.2.2.2.2.2.2.2.2.2.2.2.2.2.2.2.1
    have r41 : xv 41 = _ := hp.2.2.2.2.2.2.2.2.2.2.2.2.2.2.2.2.2.2.2.2.2.2.2.2.2.2.2.2.2.2.2.2.2.2.2.2.2.2.2.2.2.1
    have r42 : xv 42 = _ := hp.2.2.2.2.2.2.2.2.2.2.2.2.2.2.2.2.2.2.2.2.2.2.2.2.2.2.2.2.2.2.2.2.2.2.2.2.2.2.2.2.2.2.1
    have r43 : xv 43 = _ := hp.2.2.2.2.2.2.2.2.2.2.2.2.2.2.2.2.2.2.2.2.2.2.2.2.2.2.2.2.2.2.2.2.2.2.2.2.2.2.2.2.2.2.2.1
    have r44 : xv 44 = _ := hp.2.2.2.2.2.2.2.2.2.2.2.2.2.2.2.2.2.2.2.2.2.2.2.2.2.2.2.2.2.2.2.2.2.2.2.2.2.2.2.2.2.2.2.2.1
    have r45 : xv 45 = _ := hp.2.2.2.2.2.2.2.2.2.2.2.2.2.2.2.2.2.2.2.2.2.2.2.2.2.2.2.2.2.2.2.2.2.2.2.2.2.2.2.2.2.2.2.2.2.1
    have r46 : xv 46 = _ := hp.2.2.2.2.2.2.2.2.2.2.2.2.2.2.2.2.2.2.2.2.2.2.2.2.2.2.2.2.2.2.2.2.2.2.2.2.2.2.2.2.2.2.2.2.2.2.1
    have r47 : xv 47 = _ := hp.2.2.2.2.2.2.2.2.2.2.2.2.2.2.2.2.2.2.2.2.2.2.2.2.2.2.2.2.2.2.2.2.2.2.2.2.2.2.2.2.2.2.2.2.2.2.2.1
    have r48 : xv 48 = _ := hp.2.2.2.2.2.2.2.2.2.2.2.2.2.2.2.2.2.2.2.2.2.2.2.2.2.2.2.2.2.2.2.2.2.2.2.2.2.2.2.2.2.2.2.2.2.2.2.2.1
    have r49 : xv 49 = _ := hp.2.2.2.2.2.2.2.2.2.2.2.2.2.2.2.2.2.2.2.2.2.2.2.2.2.2.2.2.2.2.2.2.2.2.2.2.2.2.2.2.2.2.2.2.2.2.2.2.2.1
    obtain r50 := hp.2.2.2.2.2.2.2.2.2.2.2.2.2.2.2.2.2.2.2.2.2.2.2.2.2.2.2.2.2.2.2.2.2.2.2.2.2.2.2.2.2.2.2.2.2.2.2.2.2.2.1
    have r51 : xv 51 = _ := hp.2.2.2.2.2.2.2.2.2.2.2.2.2.2.2.2.2.2.2.2.2.2.2.2.2.2.2.2.2.2.2.2.2.2.2.2.2.2.2.2.2.2.2.2.2.2.2.2.2.2.2.1
    obtain ⟨g, r52, hg, g0, g1, g2, g3⟩ := hp.2.2.2.2.2.2.2.2.2.2.2.2.2.2.2.2.2.2.2.2.2.2.2.2.2.2.2.2.2.2.2.2.2.2.2.2.2.2.2.2.2.2.2.2.2.2.2.2.2.2.2.2.1
    have r53 : xv 53 = _ := hp.2.2.2.2.2.2.2.2.2.2.2.2.2.2.2.2.2.2.2.2.2.2.2.2.2.2.2.2.2.2.2.2.2.2.2.2.2.2.2.2.2.2.2.2.2.2.2.2.2.2.2.2.2.1
    have r54 : xv 54 = _ := hp.2.2.2.2.2.2.2.2.2.2.2.2.2.2.2.2.2.2.2.2.2.2.2.2.2.2.2.2.2.2.2.2.2.2.2.2.2.2.2.2.2.2.2.2.2.2.2.2.2.2.2.2.2.2.1
    have r55 : xv 55 = _ := hp.2.2.2.2.2.2.2.2.2.2.2.2.2.2.2.2.2.2.2.2.2.2.2.2.2.2.2.2.2.2.2.2.2.2.2.2.2.2.2.2.2.2.2.2.2.2.2.2.2.2.2.2.2.2.2.1
    obtain ⟨g, r56, hg, hx⟩ := hp.2.2.2.2.2.2.2.2.2.2.2.2.2.2.2.2.2.2.2.2.2.2.2.2.2.2.2.2.2.2.2.2.2.2.2.2.2.2.2.2.2.2.2.2.2.2.2.2.2.2.2.2.2.2.2.2.1
    have r57 : xv 57 = _ := hp.2.2.2.2.2.2.2.2.2.2.2.2.2.2.2.2.2.2.2.2.2.2.2.2.2.2.2.2.2.2.2.2.2.2.2.2.2.2.2.2.2.2.2.2.2.2.2.2.2.2.2.2.2.2.2.2.2.1
    have r58 : xv 58 = _ := hp.2.2.2.2.2.2.2.2.2.2.2.2.2.2.2.2.2.2.2.2.2.2.2.2.2.2.2.2.2.2.2.2.2.2.2.2.2.2.2.2.2.2.2.2.2.2.2.2.2.2.2.2.2.2.2.2.2.2.1
    clear hp
    simp only [putD, List.foldl_nil, List.foldl_cons, List.getD_cons_zero, List.getD_cons_succ, Act.put, List.length_cons, List.length_nil, List.range_succ, List.range_zero, List.nil_append, List.cons_append, List.setIfInBounds_toArray, List.set_cons_zero, List.set_cons_succ]
    have hW := (Ext.drew w1).trans hE
    have ka0 := (hW.old (p := ⟨ba, 0, none⟩) hbla).trans ca0
    have ka1 := (hW.old (p := ⟨ba, 1, none⟩) hbla).trans ca1
    have ka2 := (hW.old (p := ⟨ba, 2, none⟩) hbla).trans ca2
    have ka3 := (hW.old (p := ⟨ba, 3, none⟩) hbla).trans ca3
    have ka4 := (hW.old (p := ⟨ba, 4, none⟩) hbla).trans ca4
    have kb0 := (hW.old (p := ⟨bb, 0, none⟩) hblb).trans cb0
    have kb1 := (hW.old (p := ⟨bb, 1, none⟩) hblb).trans cb1
    have kb2 := (hW.old (p := ⟨bb, 2, none⟩) hblb).trans cb2
    have kb3 := (hW.old (p := ⟨bb, 3, none⟩) hblb).trans cb3
    have kb4 := (hW.old (p := ⟨bb, 4, none⟩) hblb).trans cb4
    have hTW := hT1.ext hW
    have hEW := hE01.trans hW
    have hXWa := hX1a.ext hW
    have hXWb := hX1b.ext hW
    have hYWa := hY1a.ext hW
    have hYWb := hY1b.ext hW
    have hblaW : ba < W.heap.size := Nat.lt_of_lt_of_le hbla hW.sz
    have hblbW : bb < W.heap.size := Nat.lt_of_lt_of_le hblb hW.sz
    clear hX1a hX1b hY1a hY1b
    generalize ser za na sta xa' (cutL ta) = X at r28 r58 hsza HE1 HE2
    generalize ser za nb stb xb' (cutL tb) = Y at r57 hszb HE1 HE2
    have txy := txt_beq X Y
    rw [HE1.out] at txy
    have tpre := txt_beq (X.take (min X.length Y.length)) (Y.take (min X.length Y.length))
    rw [HE2.out, ← ba_take, ← ba_take] at tpre
    have hzx := toArr_size X
    have hzy := toArr_size Y
    obtain ⟨xby, hxby⟩ : ∃ xby : ByteArray, (⟨X.toArray⟩ : ByteArray) = xby := ⟨_, rfl⟩
    obtain ⟨yby, hyby⟩ : ∃ yby : ByteArray, (⟨Y.toArray⟩ : ByteArray) = yby := ⟨_, rfl⟩
    obtain ⟨m, hm⟩ : ∃ m, min X.length Y.length = m := ⟨_, rfl⟩
    rw [hxby] at r28 r58 txy tpre hzx
    rw [hyby] at r57 txy tpre hzy
    rw [hm] at tpre
    have tmin : min (xby.size : Int) (yby.size : Int) = m := by omega
    have hmx : m ≤ xby.size := by omega
    have hmy : m ≤ yby.size := by omega
    have hxl : xby.size ≤ 3000 := by omega
    have hyl : yby.size ≤ 3000 := by omega
    have r58' : xv 58 = .string xby := r58
    have r57' : xv 57 = .string yby := r57
    have r28' : xv 28 = .string xby := r28
    rw [r28', r57', r58']
    clear hxby hyby hm hzx hzy hsza hszb HE1 HE2 r28 r57 r58 r28' r57' r58'
    clear r0 r1 r3 r4 r5 r6 r7 r9 r11 r12 r13 r14 r15 r16 r17 r19 r20 r24 r25 r29 r30 r32 r33 r34 r35 r36 r37 r38 r40 r41 r42 r43 r44 r45 r46 r48 r49 r53 r54 r55 r2 r10 r18 r21 r22 r23 r26 r27 r31 r39 r47 r50 r51 r52 r56
    -- the rest
    match za, hz4, e1, e2, HE0 with
    | 0, hz4, e1, e2, HE0 =>
      cases e with
      | true =>
        have tt : (na == nb) = true := by have h := HE0.out; simp only [eqs, decide_eq_true_eq, decide_eq_false_iff_not] at h; simpa using h
        go_wp2_with fail
        apply wp_region_seq (l := [_, _, _, _, _, _, _, _, _, _, _, _, _, _, _, _, _, _, _]) (t := [_]) [some 127, some 128, some 129, some 130, some 131, some 132, some 133, some 134, some 135, some 136, some 137, some 138, some 139, some 140, some 141, some 142, some 143, some 144, some 145, some 4] [[], [0], [1], [1], [1, 2, 3], [1], [1, 4, 5], [1, 6], [7], [8], [8], [8, 9, 10], [8], [8], [8, 12, 13], [8, 11, 14], [8], [8, 15, 16], [8, 17], [18]] [19, 19, 19, 19, 19, 19, 19, 19, 19, 19, 19, 19, 19, 19, 19, 19, 19, 19, 19] [eqv _, eqv _, eqv _, eqv _, eqv _, eqv _, eqv _, eqv _, eqv _, eqv _, eqv _, eqv _, eqv _, eqv _, eqv _, eqv _, eqv _, eqv _, eqv _] (by kernel_rfl) (by kernel_rfl) ⟨?o0, ?o1, ?o2, ?o3, ?o4, ?o5, ?o6, ?o7, ?o8, ?o9, ?o10, ?o11, ?o12, ?o13, ?o14, ?o15, ?o16, ?o17, ?o18, trivial⟩ ?last
        case o0 => -- Op.move (Operand.tmp 5)
          intro xv U hE _
          simp only [putD, List.foldl_nil, List.getD_cons_zero]
          refine OpGoal.plain ?_
          go_wp2_with fail
          exact ⟨rfl, Ext.refl _, rfl⟩
        case o1 => -- Op.move (Operand.tmp 127)
          intro xv U hE hp
          have r0 : xv 0 = _ := hp.1
          clear hp
          simp only [putD, List.foldl_nil, List.foldl_cons, List.getD_cons_zero, List.getD_cons_succ, Act.put, List.setIfInBounds_toArray, List.set_cons_zero, List.set_cons_succ]
          refine OpGoal.plain ?_
          go_wp2_with fail
          exact ⟨rfl, Ext.refl _, rfl⟩
        case o2 => -- Op.move (Operand.tmp 6)  GUARD (1, 'true')
          intro xv U hE hp
          have r1 : xv 1 = _ := hp.1
          clear hp
          simp only [putD, List.foldl_nil, List.foldl_cons, List.getD_cons_zero, List.getD_cons_succ, Act.put, List.setIfInBounds_toArray, List.set_cons_zero, List.set_cons_succ]
          refine OpGoal.yes (by simp [yieldD, r1]) ?_
          go_wp2_with fail
          exact ⟨rfl, Ext.refl _, rfl⟩
        case o3 => -- Op.move (Operand.tmp 7)  GUARD (1, 'true')
          intro xv U hE hp
          have r1 : xv 1 = _ := hp.1
          clear hp
          simp only [putD, List.foldl_nil, List.foldl_cons, List.getD_cons_zero, List.getD_cons_succ, Act.put, List.setIfInBounds_toArray, List.set_cons_zero, List.set_cons_succ]
          refine OpGoal.yes (by simp [yieldD, r1]) ?_
          go_wp2_with fail
          exact ⟨rfl, Ext.refl _, rfl⟩
        case o4 => -- Op.binOp BinOp.eql 9 (Operand.tmp 129) (Operand.tmp 130) 9  GUARD (1, 'true')
          intro xv U hE hp
          have r1 : xv 1 = _ := hp.1
          have r2 : xv 2 = _ := hp.2.1
          have r3 : xv 3 = _ := hp.2.2.1
          clear hp
          simp only [putD, List.foldl_nil, List.foldl_cons, List.getD_cons_zero, List.getD_cons_succ, Act.put, List.setIfInBounds_toArray, List.set_cons_zero, List.set_cons_succ]
          refine OpGoal.yes (by simp [yieldD, r1]) ?_
          go_wp2_with fail
          exact ⟨rfl, Ext.refl _, rfl⟩
        case o5 => -- Op.move (Operand.tmp 8)  GUARD (1, 'true')
          intro xv U hE hp
          have r1 : xv 1 = _ := hp.1
          clear hp
          simp only [putD, List.foldl_nil, List.foldl_cons, List.getD_cons_zero, List.getD_cons_succ, Act.put, List.setIfInBounds_toArray, List.set_cons_zero, List.set_cons_succ]
          refine OpGoal.yes (by simp [yieldD, r1]) ?_
          go_wp2_with fail
          exact ⟨rfl, Ext.refl _, rfl⟩
        case o6 => -- Op.binOp BinOp.eql 4 (Operand.tmp 131) (Operand.tmp 132) 4  GUARD (1, 'true')
          intro xv U hE hp
          have r1 : xv 1 = _ := hp.1
          have r4 : xv 4 = _ := hp.2.1
          have r5 : xv 5 = _ := hp.2.2.1
          clear hp
          simp only [putD, List.foldl_nil, List.foldl_cons, List.getD_cons_zero, List.getD_cons_succ, Act.put, List.setIfInBounds_toArray, List.set_cons_zero, List.set_cons_succ]
          refine OpGoal.yes (by simp [yieldD, r1]) ?_
          go_wp2_with fail
          exact ⟨rfl, Ext.refl _, rfl⟩
        case o7 => -- Op.pick (Operand.tmp 128) (Operand.tmp 133) (Operand.const (Value.bool false))
          intro xv U hE hp
          have r1 : xv 1 = _ := hp.1
          have r6 : xv 6 = _ := hp.2.1
          clear hp
          simp only [putD, List.foldl_nil, List.foldl_cons, List.getD_cons_zero, List.getD_cons_succ, Act.put, List.setIfInBounds_toArray, List.set_cons_zero, List.set_cons_succ]
          refine OpGoal.plain ?_
          go_wp2_with fail
          exact ⟨rfl, Ext.refl _, rfl⟩
        case o8 => -- Op.move (Operand.tmp 134)
          intro xv U hE hp
          have r7 : xv 7 = _ := hp.1
          clear hp
          simp only [putD, List.foldl_nil, List.foldl_cons, List.getD_cons_zero, List.getD_cons_succ, Act.put, List.setIfInBounds_toArray, List.set_cons_zero, List.set_cons_succ]
          refine OpGoal.plain ?_
          go_wp2_with fail
          exact ⟨rfl, Ext.refl _, rfl⟩
        case o9 => -- Op.move (Operand.tmp 6)  GUARD (8, 'true')
          intro xv U hE hp
          have r8 : xv 8 = _ := hp.1
          clear hp
          simp only [putD, List.foldl_nil, List.foldl_cons, List.getD_cons_zero, List.getD_cons_succ, Act.put, List.setIfInBounds_toArray, List.set_cons_zero, List.set_cons_succ]
          refine OpGoal.yes (by simp [yieldD, r8]) ?_
          go_wp2_with fail
          exact ⟨rfl, Ext.refl _, rfl⟩
        case o10 => -- Op.move (Operand.tmp 9)  GUARD (8, 'true')
          intro xv U hE hp
          have r8 : xv 8 = _ := hp.1
          clear hp
          simp only [putD, List.foldl_nil, List.foldl_cons, List.getD_cons_zero, List.getD_cons_succ, Act.put, List.setIfInBounds_toArray, List.set_cons_zero, List.set_cons_succ]
          refine OpGoal.yes (by simp [yieldD, r8]) ?_
          go_wp2_with fail
          exact ⟨rfl, Ext.refl _, rfl⟩
        case o11 => -- Op.slice 9 (Operand.tmp 136) none (some (Operand.tmp 137)) none  GUARD (8, 'true
          intro xv U hE hp
          have r8 : xv 8 = _ := hp.1
          have r9 : xv 9 = _ := hp.2.1
          have r10 : xv 10 = _ := hp.2.2.1
          clear hp
          simp only [putD, List.foldl_nil, List.foldl_cons, List.getD_cons_zero, List.getD_cons_succ, Act.put, List.setIfInBounds_toArray, List.set_cons_zero, List.set_cons_succ]
          refine OpGoal.yes (by simp [yieldD, r8]) ?_
          go_wp2_with fail
          exact ⟨rfl, Ext.refl _, rfl⟩
        case o12 => -- Op.move (Operand.tmp 7)  GUARD (8, 'true')
          intro xv U hE hp
          have r8 : xv 8 = _ := hp.1
          clear hp
          simp only [putD, List.foldl_nil, List.foldl_cons, List.getD_cons_zero, List.getD_cons_succ, Act.put, List.setIfInBounds_toArray, List.set_cons_zero, List.set_cons_succ]
          refine OpGoal.yes (by simp [yieldD, r8]) ?_
          go_wp2_with fail
          exact ⟨rfl, Ext.refl _, rfl⟩
        case o13 => -- Op.move (Operand.tmp 9)  GUARD (8, 'true')
          intro xv U hE hp
          have r8 : xv 8 = _ := hp.1
          clear hp
          simp only [putD, List.foldl_nil, List.foldl_cons, List.getD_cons_zero, List.getD_cons_succ, Act.put, List.setIfInBounds_toArray, List.set_cons_zero, List.set_cons_succ]
          refine OpGoal.yes (by simp [yieldD, r8]) ?_
          go_wp2_with fail
          exact ⟨rfl, Ext.refl _, rfl⟩
        case o14 => -- Op.slice 9 (Operand.tmp 139) none (some (Operand.tmp 140)) none  GUARD (8, 'true
          intro xv U hE hp
          have r8 : xv 8 = _ := hp.1
          have r12 : xv 12 = _ := hp.2.1
          have r13 : xv 13 = _ := hp.2.2.1
          clear hp
          simp only [putD, List.foldl_nil, List.foldl_cons, List.getD_cons_zero, List.getD_cons_succ, Act.put, List.setIfInBounds_toArray, List.set_cons_zero, List.set_cons_succ]
          refine OpGoal.yes (by simp [yieldD, r8]) ?_
          go_wp2_with fail
          exact ⟨rfl, Ext.refl _, rfl⟩
        case o15 => -- Op.binOp BinOp.eql 9 (Operand.tmp 138) (Operand.tmp 141) 9  GUARD (8, 'true')
          intro xv U hE hp
          have r8 : xv 8 = _ := hp.1
          have r11 : xv 11 = _ := hp.2.1
          have r14 : xv 14 = _ := hp.2.2.1
          clear hp
          simp only [putD, List.foldl_nil, List.foldl_cons, List.getD_cons_zero, List.getD_cons_succ, Act.put, List.setIfInBounds_toArray, List.set_cons_zero, List.set_cons_succ]
          refine OpGoal.yes (by simp [yieldD, r8]) ?_
          go_wp2_with fail
          exact ⟨rfl, Ext.refl _, rfl⟩
        case o16 => -- Op.move (Operand.tmp 8)  GUARD (8, 'true')
          intro xv U hE hp
          have r8 : xv 8 = _ := hp.1
          clear hp
          simp only [putD, List.foldl_nil, List.foldl_cons, List.getD_cons_zero, List.getD_cons_succ, Act.put, List.setIfInBounds_toArray, List.set_cons_zero, List.set_cons_succ]
          refine OpGoal.yes (by simp [yieldD, r8]) ?_
          go_wp2_with fail
          exact ⟨rfl, Ext.refl _, rfl⟩
        case o17 => -- Op.binOp BinOp.eql 4 (Operand.tmp 142) (Operand.tmp 143) 4  GUARD (8, 'true')
          intro xv U hE hp
          have r8 : xv 8 = _ := hp.1
          have r15 : xv 15 = _ := hp.2.1
          have r16 : xv 16 = _ := hp.2.2.1
          clear hp
          simp only [putD, List.foldl_nil, List.foldl_cons, List.getD_cons_zero, List.getD_cons_succ, Act.put, List.setIfInBounds_toArray, List.set_cons_zero, List.set_cons_succ]
          refine OpGoal.yes (by simp [yieldD, r8]) ?_
          go_wp2_with fail
          exact ⟨rfl, Ext.refl _, rfl⟩
        case o18 => -- Op.pick (Operand.tmp 135) (Operand.tmp 144) (Operand.const (Value.bool false))
          intro xv U hE hp
          have r8 : xv 8 = _ := hp.1
          have r17 : xv 17 = _ := hp.2.1
          clear hp
          simp only [putD, List.foldl_nil, List.foldl_cons, List.getD_cons_zero, List.getD_cons_succ, Act.put, List.setIfInBounds_toArray, List.set_cons_zero, List.set_cons_succ]
          refine OpGoal.plain ?_
          go_wp2_with fail
          exact ⟨rfl, Ext.refl _, rfl⟩
        case last =>
          intro xv U hE hp
          have r0 : xv 0 = _ := hp.1
          have r1 : xv 1 = _ := hp.2.1
          have r2 : xv 2 = _ := hp.2.2.1
          have r3 : xv 3 = _ := hp.2.2.2.1
          have r4 : xv 4 = _ := hp.2.2.2.2.1
          have r5 : xv 5 = _ := hp.2.2.2.2.2.1
          have r6 : xv 6 = _ := hp.2.2.2.2.2.2.1
          have r7 : xv 7 = _ := hp.2.2.2.2.2.2.2.1
          have r8 : xv 8 = _ := hp.2.2.2.2.2.2.2.2.1
          have r9 : xv 9 = _ := hp.2.2.2.2.2.2.2.2.2.1
          have r10 : xv 10 = _ := hp.2.2.2.2.2.2.2.2.2.2.1
          have r11 : xv 11 = _ := hp.2.2.2.2.2.2.2.2.2.2.2.1
          have r12 : xv 12 = _ := hp.2.2.2.2.2.2.2.2.2.2.2.2.1
          have r13 : xv 13 = _ := hp.2.2.2.2.2.2.2.2.2.2.2.2.2.1
          have r14 : xv 14 = _ := hp.2.2.2.2.2.2.2.2.2.2.2.2.2.2.1
          have r15 : xv 15 = _ := hp.2.2.2.2.2.2.2.2.2.2.2.2.2.2.2.1
          have r16 : xv 16 = _ := hp.2.2.2.2.2.2.2.2.2.2.2.2.2.2.2.2.1
          have r17 : xv 17 = _ := hp.2.2.2.2.2.2.2.2.2.2.2.2.2.2.2.2.2.1
          have r18 : xv 18 = _ := hp.2.2.2.2.2.2.2.2.2.2.2.2.2.2.2.2.2.2.1
          clear hp
          simp only [putD, List.foldl_nil, List.foldl_cons, List.getD_cons_zero, List.getD_cons_succ, Act.put, List.length_cons, List.length_nil, List.range_succ, List.range_zero, List.nil_append, List.cons_append, List.setIfInBounds_toArray, List.set_cons_zero, List.set_cons_succ]
          have hU : Ext w U := (hEW).trans ((Ext.drew _).trans hE)
          go_wp2_with fail
          go_ret
          exact ⟨rfl, hU⟩
      | false =>
        have tt : (na == nb) = false := by have h := HE0.out; simp only [eqs, decide_eq_true_eq, decide_eq_false_iff_not] at h; simpa using h
        go_wp2_with fail
        apply wp_region_seq (l := [_, _, _, _, _, _, _, _, _, _, _, _, _, _, _, _, _, _, _]) (t := [_]) [some 127, some 128, some 129, some 130, some 131, some 132, some 133, some 134, some 135, some 136, some 137, some 138, some 139, some 140, some 141, some 142, some 143, some 144, some 145, some 4] [[], [0], [1], [1], [1, 2, 3], [1], [1, 4, 5], [1, 6], [7], [8], [8], [8, 9, 10], [8], [8], [8, 12, 13], [8, 11, 14], [8], [8, 15, 16], [8, 17], [18]] [19, 19, 19, 19, 19, 19, 19, 19, 19, 19, 19, 19, 19, 19, 19, 19, 19, 19, 19] [eqv _, eqv _, eqv _, eqv _, eqv _, eqv _, eqv _, eqv _, eqv _, eqv _, eqv _, eqv _, eqv _, eqv _, eqv _, eqv _, eqv _, eqv _, eqv _] (by kernel_rfl) (by kernel_rfl) ⟨?o0, ?o1, ?o2, ?o3, ?o4, ?o5, ?o6, ?o7, ?o8, ?o9, ?o10, ?o11, ?o12, ?o13, ?o14, ?o15, ?o16, ?o17, ?o18, trivial⟩ ?last
        case o0 => -- Op.move (Operand.tmp 5)
          intro xv U hE _
          simp only [putD, List.foldl_nil, List.getD_cons_zero]
          refine OpGoal.plain ?_
          go_wp2_with fail
          exact ⟨rfl, Ext.refl _, rfl⟩
        case o1 => -- Op.move (Operand.tmp 127)
          intro xv U hE hp
          have r0 : xv 0 = _ := hp.1
          clear hp
          simp only [putD, List.foldl_nil, List.foldl_cons, List.getD_cons_zero, List.getD_cons_succ, Act.put, List.setIfInBounds_toArray, List.set_cons_zero, List.set_cons_succ]
          refine OpGoal.plain ?_
          go_wp2_with fail
          exact ⟨rfl, Ext.refl _, rfl⟩
        case o2 => -- Op.move (Operand.tmp 6)  GUARD (1, 'true')
          intro xv U hE hp
          have r1 : xv 1 = _ := hp.1
          clear hp
          simp only [putD, List.foldl_nil, List.foldl_cons, List.getD_cons_zero, List.getD_cons_succ, Act.put, List.setIfInBounds_toArray, List.set_cons_zero, List.set_cons_succ]
          refine OpGoal.yes (by simp [yieldD, r1]) ?_
          go_wp2_with fail
          exact ⟨rfl, Ext.refl _, rfl⟩
        case o3 => -- Op.move (Operand.tmp 7)  GUARD (1, 'true')
          intro xv U hE hp
          have r1 : xv 1 = _ := hp.1
          clear hp
          simp only [putD, List.foldl_nil, List.foldl_cons, List.getD_cons_zero, List.getD_cons_succ, Act.put, List.setIfInBounds_toArray, List.set_cons_zero, List.set_cons_succ]
          refine OpGoal.yes (by simp [yieldD, r1]) ?_
          go_wp2_with fail
          exact ⟨rfl, Ext.refl _, rfl⟩
        case o4 => -- Op.binOp BinOp.eql 9 (Operand.tmp 129) (Operand.tmp 130) 9  GUARD (1, 'true')
          intro xv U hE hp
          have r1 : xv 1 = _ := hp.1
          have r2 : xv 2 = _ := hp.2.1
          have r3 : xv 3 = _ := hp.2.2.1
          clear hp
          simp only [putD, List.foldl_nil, List.foldl_cons, List.getD_cons_zero, List.getD_cons_succ, Act.put, List.setIfInBounds_toArray, List.set_cons_zero, List.set_cons_succ]
          refine OpGoal.yes (by simp [yieldD, r1]) ?_
          go_wp2_with fail
          exact ⟨rfl, Ext.refl _, rfl⟩
        case o5 => -- Op.move (Operand.tmp 8)  GUARD (1, 'true')
          intro xv U hE hp
          have r1 : xv 1 = _ := hp.1
          clear hp
          simp only [putD, List.foldl_nil, List.foldl_cons, List.getD_cons_zero, List.getD_cons_succ, Act.put, List.setIfInBounds_toArray, List.set_cons_zero, List.set_cons_succ]
          refine OpGoal.yes (by simp [yieldD, r1]) ?_
          go_wp2_with fail
          exact ⟨rfl, Ext.refl _, rfl⟩
        case o6 => -- Op.binOp BinOp.eql 4 (Operand.tmp 131) (Operand.tmp 132) 4  GUARD (1, 'true')
          intro xv U hE hp
          have r1 : xv 1 = _ := hp.1
          have r4 : xv 4 = _ := hp.2.1
          have r5 : xv 5 = _ := hp.2.2.1
          clear hp
          simp only [putD, List.foldl_nil, List.foldl_cons, List.getD_cons_zero, List.getD_cons_succ, Act.put, List.setIfInBounds_toArray, List.set_cons_zero, List.set_cons_succ]
          refine OpGoal.yes (by simp [yieldD, r1]) ?_
          go_wp2_with fail
          exact ⟨rfl, Ext.refl _, rfl⟩
        case o7 => -- Op.pick (Operand.tmp 128) (Operand.tmp 133) (Operand.const (Value.bool false))
          intro xv U hE hp
          have r1 : xv 1 = _ := hp.1
          have r6 : xv 6 = _ := hp.2.1
          clear hp
          simp only [putD, List.foldl_nil, List.foldl_cons, List.getD_cons_zero, List.getD_cons_succ, Act.put, List.setIfInBounds_toArray, List.set_cons_zero, List.set_cons_succ]
          refine OpGoal.plain ?_
          go_wp2_with fail
          exact ⟨rfl, Ext.refl _, rfl⟩
        case o8 => -- Op.move (Operand.tmp 134)
          intro xv U hE hp
          have r7 : xv 7 = _ := hp.1
          clear hp
          simp only [putD, List.foldl_nil, List.foldl_cons, List.getD_cons_zero, List.getD_cons_succ, Act.put, List.setIfInBounds_toArray, List.set_cons_zero, List.set_cons_succ]
          refine OpGoal.plain ?_
          go_wp2_with fail
          exact ⟨rfl, Ext.refl _, rfl⟩
        case o9 => -- Op.move (Operand.tmp 6)  GUARD (8, 'true')
          intro xv U hE hp
          have r8 : xv 8 = _ := hp.1
          clear hp
          simp only [putD, List.foldl_nil, List.foldl_cons, List.getD_cons_zero, List.getD_cons_succ, Act.put, List.setIfInBounds_toArray, List.set_cons_zero, List.set_cons_succ]
          refine OpGoal.yes (by simp [yieldD, r8]) ?_
          go_wp2_with fail
          exact ⟨rfl, Ext.refl _, rfl⟩
        case o10 => -- Op.move (Operand.tmp 9)  GUARD (8, 'true')
          intro xv U hE hp
          have r8 : xv 8 = _ := hp.1
          clear hp
          simp only [putD, List.foldl_nil, List.foldl_cons, List.getD_cons_zero, List.getD_cons_succ, Act.put, List.setIfInBounds_toArray, List.set_cons_zero, List.set_cons_succ]
          refine OpGoal.yes (by simp [yieldD, r8]) ?_
          go_wp2_with fail
          exact ⟨rfl, Ext.refl _, rfl⟩
        case o11 => -- Op.slice 9 (Operand.tmp 136) none (some (Operand.tmp 137)) none  GUARD (8, 'true
          intro xv U hE hp
          have r8 : xv 8 = _ := hp.1
          have r9 : xv 9 = _ := hp.2.1
          have r10 : xv 10 = _ := hp.2.2.1
          clear hp
          simp only [putD, List.foldl_nil, List.foldl_cons, List.getD_cons_zero, List.getD_cons_succ, Act.put, List.setIfInBounds_toArray, List.set_cons_zero, List.set_cons_succ]
          refine OpGoal.yes (by simp [yieldD, r8]) ?_
          go_wp2_with fail
          exact ⟨rfl, Ext.refl _, rfl⟩
        case o12 => -- Op.move (Operand.tmp 7)  GUARD (8, 'true')
          intro xv U hE hp
          have r8 : xv 8 = _ := hp.1
          clear hp
          simp only [putD, List.foldl_nil, List.foldl_cons, List.getD_cons_zero, List.getD_cons_succ, Act.put, List.setIfInBounds_toArray, List.set_cons_zero, List.set_cons_succ]
          refine OpGoal.yes (by simp [yieldD, r8]) ?_
          go_wp2_with fail
          exact ⟨rfl, Ext.refl _, rfl⟩
        case o13 => -- Op.move (Operand.tmp 9)  GUARD (8, 'true')
          intro xv U hE hp
          have r8 : xv 8 = _ := hp.1
          clear hp
          simp only [putD, List.foldl_nil, List.foldl_cons, List.getD_cons_zero, List.getD_cons_succ, Act.put, List.setIfInBounds_toArray, List.set_cons_zero, List.set_cons_succ]
          refine OpGoal.yes (by simp [yieldD, r8]) ?_
          go_wp2_with fail
          exact ⟨rfl, Ext.refl _, rfl⟩
        case o14 => -- Op.slice 9 (Operand.tmp 139) none (some (Operand.tmp 140)) none  GUARD (8, 'true
          intro xv U hE hp
          have r8 : xv 8 = _ := hp.1
          have r12 : xv 12 = _ := hp.2.1
          have r13 : xv 13 = _ := hp.2.2.1
          clear hp
          simp only [putD, List.foldl_nil, List.foldl_cons, List.getD_cons_zero, List.getD_cons_succ, Act.put, List.setIfInBounds_toArray, List.set_cons_zero, List.set_cons_succ]
          refine OpGoal.yes (by simp [yieldD, r8]) ?_
          go_wp2_with fail
          exact ⟨rfl, Ext.refl _, rfl⟩
        case o15 => -- Op.binOp BinOp.eql 9 (Operand.tmp 138) (Operand.tmp 141) 9  GUARD (8, 'true')
          intro xv U hE hp
          have r8 : xv 8 = _ := hp.1
          have r11 : xv 11 = _ := hp.2.1
          have r14 : xv 14 = _ := hp.2.2.1
          clear hp
          simp only [putD, List.foldl_nil, List.foldl_cons, List.getD_cons_zero, List.getD_cons_succ, Act.put, List.setIfInBounds_toArray, List.set_cons_zero, List.set_cons_succ]
          refine OpGoal.yes (by simp [yieldD, r8]) ?_
          go_wp2_with fail
          exact ⟨rfl, Ext.refl _, rfl⟩
        case o16 => -- Op.move (Operand.tmp 8)  GUARD (8, 'true')
          intro xv U hE hp
          have r8 : xv 8 = _ := hp.1
          clear hp
          simp only [putD, List.foldl_nil, List.foldl_cons, List.getD_cons_zero, List.getD_cons_succ, Act.put, List.setIfInBounds_toArray, List.set_cons_zero, List.set_cons_succ]
          refine OpGoal.yes (by simp [yieldD, r8]) ?_
          go_wp2_with fail
          exact ⟨rfl, Ext.refl _, rfl⟩
        case o17 => -- Op.binOp BinOp.eql 4 (Operand.tmp 142) (Operand.tmp 143) 4  GUARD (8, 'true')
          intro xv U hE hp
          have r8 : xv 8 = _ := hp.1
          have r15 : xv 15 = _ := hp.2.1
          have r16 : xv 16 = _ := hp.2.2.1
          clear hp
          simp only [putD, List.foldl_nil, List.foldl_cons, List.getD_cons_zero, List.getD_cons_succ, Act.put, List.setIfInBounds_toArray, List.set_cons_zero, List.set_cons_succ]
          refine OpGoal.yes (by simp [yieldD, r8]) ?_
          go_wp2_with fail
          exact ⟨rfl, Ext.refl _, rfl⟩
        case o18 => -- Op.pick (Operand.tmp 135) (Operand.tmp 144) (Operand.const (Value.bool false))
          intro xv U hE hp
          have r8 : xv 8 = _ := hp.1
          have r17 : xv 17 = _ := hp.2.1
          clear hp
          simp only [putD, List.foldl_nil, List.foldl_cons, List.getD_cons_zero, List.getD_cons_succ, Act.put, List.setIfInBounds_toArray, List.set_cons_zero, List.set_cons_succ]
          refine OpGoal.plain ?_
          go_wp2_with fail
          exact ⟨rfl, Ext.refl _, rfl⟩
        case last =>
          intro xv U hE hp
          have r0 : xv 0 = _ := hp.1
          have r1 : xv 1 = _ := hp.2.1
          have r2 : xv 2 = _ := hp.2.2.1
          have r3 : xv 3 = _ := hp.2.2.2.1
          have r4 : xv 4 = _ := hp.2.2.2.2.1
          have r5 : xv 5 = _ := hp.2.2.2.2.2.1
          have r6 : xv 6 = _ := hp.2.2.2.2.2.2.1
          have r7 : xv 7 = _ := hp.2.2.2.2.2.2.2.1
          have r8 : xv 8 = _ := hp.2.2.2.2.2.2.2.2.1
          have r9 : xv 9 = _ := hp.2.2.2.2.2.2.2.2.2.1
          have r10 : xv 10 = _ := hp.2.2.2.2.2.2.2.2.2.2.1
          have r11 : xv 11 = _ := hp.2.2.2.2.2.2.2.2.2.2.2.1
          have r12 : xv 12 = _ := hp.2.2.2.2.2.2.2.2.2.2.2.2.1
          have r13 : xv 13 = _ := hp.2.2.2.2.2.2.2.2.2.2.2.2.2.1
          have r14 : xv 14 = _ := hp.2.2.2.2.2.2.2.2.2.2.2.2.2.2.1
          have r15 : xv 15 = _ := hp.2.2.2.2.2.2.2.2.2.2.2.2.2.2.2.1
          have r16 : xv 16 = _ := hp.2.2.2.2.2.2.2.2.2.2.2.2.2.2.2.2.1
          have r17 : xv 17 = _ := hp.2.2.2.2.2.2.2.2.2.2.2.2.2.2.2.2.2.1
          have r18 : xv 18 = _ := hp.2.2.2.2.2.2.2.2.2.2.2.2.2.2.2.2.2.2.1
          clear hp
          simp only [putD, List.foldl_nil, List.foldl_cons, List.getD_cons_zero, List.getD_cons_succ, Act.put, List.length_cons, List.length_nil, List.range_succ, List.range_zero, List.nil_append, List.cons_append, List.setIfInBounds_toArray, List.set_cons_zero, List.set_cons_succ]
          have hU : Ext w U := (hEW).trans ((Ext.drew _).trans hE)
          go_wp2_with fail
          go_ret
          exact ⟨rfl, hU⟩
    | 1, hz4, e1, e2, HE0 =>
      cases e with
      | true =>
        have tt : ((⟨sta.toArray⟩ : ByteArray).toList == (⟨stb.toArray⟩ : ByteArray).toList) = true := by rw [txt_beq]; exact HE0.out
        obtain ⟨sva, hsva⟩ : ∃ sva : ByteArray, (⟨sta.toArray⟩ : ByteArray) = sva := ⟨_, rfl⟩
        obtain ⟨svb, hsvb⟩ : ∃ svb : ByteArray, (⟨stb.toArray⟩ : ByteArray) = svb := ⟨_, rfl⟩
        rw [hsva] at hcuta
        rw [hsvb] at hcutb
        rw [hsva, hsvb] at tt
        clear hsva hsvb
        go_wp2_with fail
        apply wp_region_seq (l := [_, _, _, _, _, _, _, _, _, _, _, _, _, _, _]) (t := [_]) [some 81, some 82, some 83, some 84, some 85, some 86, some 87, some 88, some 89, some 90, some 91, some 92, some 93, some 94, some 95, some 8] [[], [0], [], [2], [3], [4], [1, 5], [], [7], [], [9], [10], [11], [8, 12], [6, 13], [14]] [15, 15, 15, 15, 15, 15, 15, 15, 15, 15, 15, 15, 15, 15, 15] [eqv _, eqv _, eqv _, eqv _, eqv _, eqv _, eqv _, eqv _, eqv _, eqv _, eqv _, eqv _, eqv _, eqv _, eqv _] (by kernel_rfl) (by kernel_rfl) ⟨?o0, ?o1, ?o2, ?o3, ?o4, ?o5, ?o6, ?o7, ?o8, ?o9, ?o10, ?o11, ?o12, ?o13, ?o14, trivial⟩ ?last
        case o0 => -- Op.fieldAddr 45 (Operand.tmp 2) 2
          intro xv V hE _
          simp only [putD, List.foldl_nil, List.getD_cons_zero]
          refine OpGoal.plain ?_
          go_wp2_with fail
          exact ⟨rfl, Ext.refl _, rfl⟩
        case o1 => -- Op.load 9 (Operand.tmp 81)
          intro xv V hE hp
          have r0 : xv 0 = _ := hp.1
          clear hp
          have hWV := (Ext.drew W).trans hE
          have v0 := (hWV.old (p := ⟨ba, 2, none⟩) hblaW).trans ka2
          have v1 := (hWV.old (p := ⟨bb, 2, none⟩) hblbW).trans kb2
          simp only [putD, List.foldl_nil, List.foldl_cons, List.getD_cons_zero, List.getD_cons_succ, Act.put, List.setIfInBounds_toArray, List.set_cons_zero, List.set_cons_succ]
          refine OpGoal.plain ?_
          go_wp2_with fail
          exact ⟨rfl, Ext.refl _, rfl⟩
        case o2 => -- Op.fieldAddr 45 (Operand.tmp 2) 2
          intro xv V hE _
          simp only [putD, List.foldl_nil, List.getD_cons_zero, List.getD_cons_succ]
          refine OpGoal.plain ?_
          go_wp2_with fail
          exact ⟨rfl, Ext.refl _, rfl⟩
        case o3 => -- Op.load 9 (Operand.tmp 83)
          intro xv V hE hp
          have r2 : xv 2 = _ := hp.1
          clear hp
          have hWV := (Ext.drew W).trans hE
          have v0 := (hWV.old (p := ⟨ba, 2, none⟩) hblaW).trans ka2
          have v1 := (hWV.old (p := ⟨bb, 2, none⟩) hblbW).trans kb2
          simp only [putD, List.foldl_nil, List.foldl_cons, List.getD_cons_zero, List.getD_cons_succ, Act.put, List.setIfInBounds_toArray, List.set_cons_zero, List.set_cons_succ]
          refine OpGoal.plain ?_
          go_wp2_with fail
          exact ⟨rfl, Ext.refl _, rfl⟩
        case o4 => -- Op.call { callee := Callee.builtin Builtin.len, args := #[Operand.tmp 84], argTy
          intro xv V hE hp
          have r3 : xv 3 = _ := hp.1
          clear hp
          simp only [putD, List.foldl_nil, List.foldl_cons, List.getD_cons_zero, List.getD_cons_succ, Act.put, List.setIfInBounds_toArray, List.set_cons_zero, List.set_cons_succ]
          refine OpGoal.plain ?_
          go_wp2_with fail
          exact ⟨rfl, Ext.refl _, rfl⟩
        case o5 => -- Op.call { callee := Callee.builtin Builtin.min, args := #[Operand.tmp 85, Operan
          intro xv V hE hp
          have r4 : xv 4 = _ := hp.1
          clear hp
          simp only [putD, List.foldl_nil, List.foldl_cons, List.getD_cons_zero, List.getD_cons_succ, Act.put, List.setIfInBounds_toArray, List.set_cons_zero, List.set_cons_succ]
          refine OpGoal.plain ?_
          go_wp2_with fail
          exact ⟨rfl, Ext.refl _, rfl⟩
        case o6 => -- Op.slice 9 (Operand.tmp 82) none (some (Operand.tmp 86)) none
          intro xv V hE hp
          have r1 : xv 1 = _ := hp.1
          have r5 : xv 5 = _ := hp.2.1
          clear hp
          simp only [putD, List.foldl_nil, List.foldl_cons, List.getD_cons_zero, List.getD_cons_succ, Act.put, List.setIfInBounds_toArray, List.set_cons_zero, List.set_cons_succ]
          refine OpGoal.plain ?_
          go_wp2_with fail
          exact ⟨rfl, Ext.refl _, rfl⟩
        case o7 => -- Op.fieldAddr 45 (Operand.tmp 3) 2
          intro xv V hE _
          simp only [putD, List.foldl_nil, List.getD_cons_zero, List.getD_cons_succ]
          refine OpGoal.plain ?_
          go_wp2_with fail
          exact ⟨rfl, Ext.refl _, rfl⟩
        case o8 => -- Op.load 9 (Operand.tmp 88)
          intro xv V hE hp
          have r7 : xv 7 = _ := hp.1
          clear hp
          have hWV := (Ext.drew W).trans hE
          have v0 := (hWV.old (p := ⟨ba, 2, none⟩) hblaW).trans ka2
          have v1 := (hWV.old (p := ⟨bb, 2, none⟩) hblbW).trans kb2
          simp only [putD, List.foldl_nil, List.foldl_cons, List.getD_cons_zero, List.getD_cons_succ, Act.put, List.setIfInBounds_toArray, List.set_cons_zero, List.set_cons_succ]
          refine OpGoal.plain ?_
          go_wp2_with fail
          exact ⟨rfl, Ext.refl _, rfl⟩
        case o9 => -- Op.fieldAddr 45 (Operand.tmp 3) 2
          intro xv V hE _
          simp only [putD, List.foldl_nil, List.getD_cons_zero, List.getD_cons_succ]
          refine OpGoal.plain ?_
          go_wp2_with fail
          exact ⟨rfl, Ext.refl _, rfl⟩
        case o10 => -- Op.load 9 (Operand.tmp 90)
          intro xv V hE hp
          have r9 : xv 9 = _ := hp.1
          clear hp
          have hWV := (Ext.drew W).trans hE
          have v0 := (hWV.old (p := ⟨ba, 2, none⟩) hblaW).trans ka2
          have v1 := (hWV.old (p := ⟨bb, 2, none⟩) hblbW).trans kb2
          simp only [putD, List.foldl_nil, List.foldl_cons, List.getD_cons_zero, List.getD_cons_succ, Act.put, List.setIfInBounds_toArray, List.set_cons_zero, List.set_cons_succ]
          refine OpGoal.plain ?_
          go_wp2_with fail
          exact ⟨rfl, Ext.refl _, rfl⟩
        case o11 => -- Op.call { callee := Callee.builtin Builtin.len, args := #[Operand.tmp 91], argTy
          intro xv V hE hp
          have r10 : xv 10 = _ := hp.1
          clear hp
          simp only [putD, List.foldl_nil, List.foldl_cons, List.getD_cons_zero, List.getD_cons_succ, Act.put, List.setIfInBounds_toArray, List.set_cons_zero, List.set_cons_succ]
          refine OpGoal.plain ?_
          go_wp2_with fail
          exact ⟨rfl, Ext.refl _, rfl⟩
        case o12 => -- Op.call { callee := Callee.builtin Builtin.min, args := #[Operand.tmp 92, Operan
          intro xv V hE hp
          have r11 : xv 11 = _ := hp.1
          clear hp
          simp only [putD, List.foldl_nil, List.foldl_cons, List.getD_cons_zero, List.getD_cons_succ, Act.put, List.setIfInBounds_toArray, List.set_cons_zero, List.set_cons_succ]
          refine OpGoal.plain ?_
          go_wp2_with fail
          exact ⟨rfl, Ext.refl _, rfl⟩
        case o13 => -- Op.slice 9 (Operand.tmp 89) none (some (Operand.tmp 93)) none
          intro xv V hE hp
          have r8 : xv 8 = _ := hp.1
          have r12 : xv 12 = _ := hp.2.1
          clear hp
          simp only [putD, List.foldl_nil, List.foldl_cons, List.getD_cons_zero, List.getD_cons_succ, Act.put, List.setIfInBounds_toArray, List.set_cons_zero, List.set_cons_succ]
          refine OpGoal.plain ?_
          go_wp2_with fail
          exact ⟨rfl, Ext.refl _, rfl⟩
        case o14 => -- Op.binOp BinOp.eql 9 (Operand.tmp 87) (Operand.tmp 94) 9
          intro xv V hE hp
          have r6 : xv 6 = _ := hp.1
          have r13 : xv 13 = _ := hp.2.1
          clear hp
          simp only [putD, List.foldl_nil, List.foldl_cons, List.getD_cons_zero, List.getD_cons_succ, Act.put, List.setIfInBounds_toArray, List.set_cons_zero, List.set_cons_succ]
          refine OpGoal.plain ?_
          go_wp2_with fail
          exact ⟨rfl, Ext.refl _, rfl⟩
        case last =>
          intro xv V hE hp
          have r0 : xv 0 = _ := hp.1
          have r1 : xv 1 = _ := hp.2.1
          have r2 : xv 2 = _ := hp.2.2.1
          have r3 : xv 3 = _ := hp.2.2.2.1
          have r4 : xv 4 = _ := hp.2.2.2.2.1
          have r5 : xv 5 = _ := hp.2.2.2.2.2.1
          have r6 : xv 6 = _ := hp.2.2.2.2.2.2.1
          have r7 : xv 7 = _ := hp.2.2.2.2.2.2.2.1
          have r8 : xv 8 = _ := hp.2.2.2.2.2.2.2.2.1
          have r9 : xv 9 = _ := hp.2.2.2.2.2.2.2.2.2.1
          have r10 : xv 10 = _ := hp.2.2.2.2.2.2.2.2.2.2.1
          have r11 : xv 11 = _ := hp.2.2.2.2.2.2.2.2.2.2.2.1
          have r12 : xv 12 = _ := hp.2.2.2.2.2.2.2.2.2.2.2.2.1
          have r13 : xv 13 = _ := hp.2.2.2.2.2.2.2.2.2.2.2.2.2.1
          have r14 : xv 14 = _ := hp.2.2.2.2.2.2.2.2.2.2.2.2.2.2.1
          clear hp
          simp only [putD, List.foldl_nil, List.foldl_cons, List.getD_cons_zero, List.getD_cons_succ, Act.put, List.length_cons, List.length_nil, List.range_succ, List.range_zero, List.nil_append, List.cons_append, List.setIfInBounds_toArray, List.set_cons_zero, List.set_cons_succ]
          have hEV := hEW.trans ((Ext.drew W).trans hE)
          go_wp2_with fail
          apply wp_region_seq (l := [_, _, _, _, _, _, _, _, _, _, _, _, _, _, _, _, _, _, _]) (t := [_]) [some 127, some 128, some 129, some 130, some 131, some 132, some 133, some 134, some 135, some 136, some 137, some 138, some 139, some 140, some 141, some 142, some 143, some 144, some 145, some 4] [[], [0], [1], [1], [1, 2, 3], [1], [1, 4, 5], [1, 6], [7], [8], [8], [8, 9, 10], [8], [8], [8, 12, 13], [8, 11, 14], [8], [8, 15, 16], [8, 17], [18]] [19, 19, 19, 19, 19, 19, 19, 19, 19, 19, 19, 19, 19, 19, 19, 19, 19, 19, 19] [eqv _, eqv _, eqv _, eqv _, eqv _, eqv _, eqv _, eqv _, eqv _, eqv _, eqv _, eqv _, eqv _, eqv _, eqv _, eqv _, eqv _, eqv _, eqv _] (by kernel_rfl) (by kernel_rfl) ⟨?o0, ?o1, ?o2, ?o3, ?o4, ?o5, ?o6, ?o7, ?o8, ?o9, ?o10, ?o11, ?o12, ?o13, ?o14, ?o15, ?o16, ?o17, ?o18, trivial⟩ ?last
          case o0 => -- Op.move (Operand.tmp 5)
            intro xv U hE _
            simp only [putD, List.foldl_nil, List.getD_cons_zero]
            refine OpGoal.plain ?_
            go_wp2_with fail
            exact ⟨rfl, Ext.refl _, rfl⟩
          case o1 => -- Op.move (Operand.tmp 127)
            intro xv U hE hp
            have r0 : xv 0 = _ := hp.1
            clear hp
            simp only [putD, List.foldl_nil, List.foldl_cons, List.getD_cons_zero, List.getD_cons_succ, Act.put, List.setIfInBounds_toArray, List.set_cons_zero, List.set_cons_succ]
            refine OpGoal.plain ?_
            go_wp2_with fail
            exact ⟨rfl, Ext.refl _, rfl⟩
          case o2 => -- Op.move (Operand.tmp 6)  GUARD (1, 'true')
            intro xv U hE hp
            have r1 : xv 1 = _ := hp.1
            clear hp
            simp only [putD, List.foldl_nil, List.foldl_cons, List.getD_cons_zero, List.getD_cons_succ, Act.put, List.setIfInBounds_toArray, List.set_cons_zero, List.set_cons_succ]
            refine OpGoal.yes (by simp [yieldD, r1]) ?_
            go_wp2_with fail
            exact ⟨rfl, Ext.refl _, rfl⟩
          case o3 => -- Op.move (Operand.tmp 7)  GUARD (1, 'true')
            intro xv U hE hp
            have r1 : xv 1 = _ := hp.1
            clear hp
            simp only [putD, List.foldl_nil, List.foldl_cons, List.getD_cons_zero, List.getD_cons_succ, Act.put, List.setIfInBounds_toArray, List.set_cons_zero, List.set_cons_succ]
            refine OpGoal.yes (by simp [yieldD, r1]) ?_
            go_wp2_with fail
            exact ⟨rfl, Ext.refl _, rfl⟩
          case o4 => -- Op.binOp BinOp.eql 9 (Operand.tmp 129) (Operand.tmp 130) 9  GUARD (1, 'true')
            intro xv U hE hp
            have r1 : xv 1 = _ := hp.1
            have r2 : xv 2 = _ := hp.2.1
            have r3 : xv 3 = _ := hp.2.2.1
            clear hp
            simp only [putD, List.foldl_nil, List.foldl_cons, List.getD_cons_zero, List.getD_cons_succ, Act.put, List.setIfInBounds_toArray, List.set_cons_zero, List.set_cons_succ]
            refine OpGoal.yes (by simp [yieldD, r1]) ?_
            go_wp2_with fail
            exact ⟨rfl, Ext.refl _, rfl⟩
          case o5 => -- Op.move (Operand.tmp 8)  GUARD (1, 'true')
            intro xv U hE hp
            have r1 : xv 1 = _ := hp.1
            clear hp
            simp only [putD, List.foldl_nil, List.foldl_cons, List.getD_cons_zero, List.getD_cons_succ, Act.put, List.setIfInBounds_toArray, List.set_cons_zero, List.set_cons_succ]
            refine OpGoal.yes (by simp [yieldD, r1]) ?_
            go_wp2_with fail
            exact ⟨rfl, Ext.refl _, rfl⟩
          case o6 => -- Op.binOp BinOp.eql 4 (Operand.tmp 131) (Operand.tmp 132) 4  GUARD (1, 'true')
            intro xv U hE hp
            have r1 : xv 1 = _ := hp.1
            have r4 : xv 4 = _ := hp.2.1
            have r5 : xv 5 = _ := hp.2.2.1
            clear hp
            simp only [putD, List.foldl_nil, List.foldl_cons, List.getD_cons_zero, List.getD_cons_succ, Act.put, List.setIfInBounds_toArray, List.set_cons_zero, List.set_cons_succ]
            refine OpGoal.yes (by simp [yieldD, r1]) ?_
            go_wp2_with fail
            exact ⟨rfl, Ext.refl _, rfl⟩
          case o7 => -- Op.pick (Operand.tmp 128) (Operand.tmp 133) (Operand.const (Value.bool false))
            intro xv U hE hp
            have r1 : xv 1 = _ := hp.1
            have r6 : xv 6 = _ := hp.2.1
            clear hp
            simp only [putD, List.foldl_nil, List.foldl_cons, List.getD_cons_zero, List.getD_cons_succ, Act.put, List.setIfInBounds_toArray, List.set_cons_zero, List.set_cons_succ]
            refine OpGoal.plain ?_
            go_wp2_with fail
            exact ⟨rfl, Ext.refl _, rfl⟩
          case o8 => -- Op.move (Operand.tmp 134)
            intro xv U hE hp
            have r7 : xv 7 = _ := hp.1
            clear hp
            simp only [putD, List.foldl_nil, List.foldl_cons, List.getD_cons_zero, List.getD_cons_succ, Act.put, List.setIfInBounds_toArray, List.set_cons_zero, List.set_cons_succ]
            refine OpGoal.plain ?_
            go_wp2_with fail
            exact ⟨rfl, Ext.refl _, rfl⟩
          case o9 => -- Op.move (Operand.tmp 6)  GUARD (8, 'true')
            intro xv U hE hp
            have r8 : xv 8 = _ := hp.1
            clear hp
            simp only [putD, List.foldl_nil, List.foldl_cons, List.getD_cons_zero, List.getD_cons_succ, Act.put, List.setIfInBounds_toArray, List.set_cons_zero, List.set_cons_succ]
            refine OpGoal.yes (by simp [yieldD, r8]) ?_
            go_wp2_with fail
            exact ⟨rfl, Ext.refl _, rfl⟩
          case o10 => -- Op.move (Operand.tmp 9)  GUARD (8, 'true')
            intro xv U hE hp
            have r8 : xv 8 = _ := hp.1
            clear hp
            simp only [putD, List.foldl_nil, List.foldl_cons, List.getD_cons_zero, List.getD_cons_succ, Act.put, List.setIfInBounds_toArray, List.set_cons_zero, List.set_cons_succ]
            refine OpGoal.yes (by simp [yieldD, r8]) ?_
            go_wp2_with fail
            exact ⟨rfl, Ext.refl _, rfl⟩
          case o11 => -- Op.slice 9 (Operand.tmp 136) none (some (Operand.tmp 137)) none  GUARD (8, 'true
            intro xv U hE hp
            have r8 : xv 8 = _ := hp.1
            have r9 : xv 9 = _ := hp.2.1
            have r10 : xv 10 = _ := hp.2.2.1
            clear hp
            simp only [putD, List.foldl_nil, List.foldl_cons, List.getD_cons_zero, List.getD_cons_succ, Act.put, List.setIfInBounds_toArray, List.set_cons_zero, List.set_cons_succ]
            refine OpGoal.yes (by simp [yieldD, r8]) ?_
            go_wp2_with fail
            exact ⟨rfl, Ext.refl _, rfl⟩
          case o12 => -- Op.move (Operand.tmp 7)  GUARD (8, 'true')
            intro xv U hE hp
            have r8 : xv 8 = _ := hp.1
            clear hp
            simp only [putD, List.foldl_nil, List.foldl_cons, List.getD_cons_zero, List.getD_cons_succ, Act.put, List.setIfInBounds_toArray, List.set_cons_zero, List.set_cons_succ]
            refine OpGoal.yes (by simp [yieldD, r8]) ?_
            go_wp2_with fail
            exact ⟨rfl, Ext.refl _, rfl⟩
          case o13 => -- Op.move (Operand.tmp 9)  GUARD (8, 'true')
            intro xv U hE hp
            have r8 : xv 8 = _ := hp.1
            clear hp
            simp only [putD, List.foldl_nil, List.foldl_cons, List.getD_cons_zero, List.getD_cons_succ, Act.put, List.setIfInBounds_toArray, List.set_cons_zero, List.set_cons_succ]
            refine OpGoal.yes (by simp [yieldD, r8]) ?_
            go_wp2_with fail
            exact ⟨rfl, Ext.refl _, rfl⟩
          case o14 => -- Op.slice 9 (Operand.tmp 139) none (some (Operand.tmp 140)) none  GUARD (8, 'true
            intro xv U hE hp
            have r8 : xv 8 = _ := hp.1
            have r12 : xv 12 = _ := hp.2.1
            have r13 : xv 13 = _ := hp.2.2.1
            clear hp
            simp only [putD, List.foldl_nil, List.foldl_cons, List.getD_cons_zero, List.getD_cons_succ, Act.put, List.setIfInBounds_toArray, List.set_cons_zero, List.set_cons_succ]
            refine OpGoal.yes (by simp [yieldD, r8]) ?_
            go_wp2_with fail
            exact ⟨rfl, Ext.refl _, rfl⟩
          case o15 => -- Op.binOp BinOp.eql 9 (Operand.tmp 138) (Operand.tmp 141) 9  GUARD (8, 'true')
            intro xv U hE hp
            have r8 : xv 8 = _ := hp.1
            have r11 : xv 11 = _ := hp.2.1
            have r14 : xv 14 = _ := hp.2.2.1
            clear hp
            simp only [putD, List.foldl_nil, List.foldl_cons, List.getD_cons_zero, List.getD_cons_succ, Act.put, List.setIfInBounds_toArray, List.set_cons_zero, List.set_cons_succ]
            refine OpGoal.yes (by simp [yieldD, r8]) ?_
            go_wp2_with fail
            exact ⟨rfl, Ext.refl _, rfl⟩
          case o16 => -- Op.move (Operand.tmp 8)  GUARD (8, 'true')
            intro xv U hE hp
            have r8 : xv 8 = _ := hp.1
            clear hp
            simp only [putD, List.foldl_nil, List.foldl_cons, List.getD_cons_zero, List.getD_cons_succ, Act.put, List.setIfInBounds_toArray, List.set_cons_zero, List.set_cons_succ]
            refine OpGoal.yes (by simp [yieldD, r8]) ?_
            go_wp2_with fail
            exact ⟨rfl, Ext.refl _, rfl⟩
          case o17 => -- Op.binOp BinOp.eql 4 (Operand.tmp 142) (Operand.tmp 143) 4  GUARD (8, 'true')
            intro xv U hE hp
            have r8 : xv 8 = _ := hp.1
            have r15 : xv 15 = _ := hp.2.1
            have r16 : xv 16 = _ := hp.2.2.1
            clear hp
            simp only [putD, List.foldl_nil, List.foldl_cons, List.getD_cons_zero, List.getD_cons_succ, Act.put, List.setIfInBounds_toArray, List.set_cons_zero, List.set_cons_succ]
            refine OpGoal.yes (by simp [yieldD, r8]) ?_
            go_wp2_with fail
            exact ⟨rfl, Ext.refl _, rfl⟩
          case o18 => -- Op.pick (Operand.tmp 135) (Operand.tmp 144) (Operand.const (Value.bool false))
            intro xv U hE hp
            have r8 : xv 8 = _ := hp.1
            have r17 : xv 17 = _ := hp.2.1
            clear hp
            simp only [putD, List.foldl_nil, List.foldl_cons, List.getD_cons_zero, List.getD_cons_succ, Act.put, List.setIfInBounds_toArray, List.set_cons_zero, List.set_cons_succ]
            refine OpGoal.plain ?_
            go_wp2_with fail
            exact ⟨rfl, Ext.refl _, rfl⟩
          case last =>
            intro xv U hE hp
            have r0 : xv 0 = _ := hp.1
            have r1 : xv 1 = _ := hp.2.1
            have r2 : xv 2 = _ := hp.2.2.1
            have r3 : xv 3 = _ := hp.2.2.2.1
            have r4 : xv 4 = _ := hp.2.2.2.2.1
            have r5 : xv 5 = _ := hp.2.2.2.2.2.1
            have r6 : xv 6 = _ := hp.2.2.2.2.2.2.1
            have r7 : xv 7 = _ := hp.2.2.2.2.2.2.2.1
            have r8 : xv 8 = _ := hp.2.2.2.2.2.2.2.2.1
            have r9 : xv 9 = _ := hp.2.2.2.2.2.2.2.2.2.1
            have r10 : xv 10 = _ := hp.2.2.2.2.2.2.2.2.2.2.1
            have r11 : xv 11 = _ := hp.2.2.2.2.2.2.2.2.2.2.2.1
            have r12 : xv 12 = _ := hp.2.2.2.2.2.2.2.2.2.2.2.2.1
            have r13 : xv 13 = _ := hp.2.2.2.2.2.2.2.2.2.2.2.2.2.1
            have r14 : xv 14 = _ := hp.2.2.2.2.2.2.2.2.2.2.2.2.2.2.1
            have r15 : xv 15 = _ := hp.2.2.2.2.2.2.2.2.2.2.2.2.2.2.2.1
            have r16 : xv 16 = _ := hp.2.2.2.2.2.2.2.2.2.2.2.2.2.2.2.2.1
            have r17 : xv 17 = _ := hp.2.2.2.2.2.2.2.2.2.2.2.2.2.2.2.2.2.1
            have r18 : xv 18 = _ := hp.2.2.2.2.2.2.2.2.2.2.2.2.2.2.2.2.2.2.1
            clear hp
            simp only [putD, List.foldl_nil, List.foldl_cons, List.getD_cons_zero, List.getD_cons_succ, Act.put, List.length_cons, List.length_nil, List.range_succ, List.range_zero, List.nil_append, List.cons_append, List.setIfInBounds_toArray, List.set_cons_zero, List.set_cons_succ]
            have hU : Ext w U := (hEV).trans ((Ext.drew _).trans hE)
            go_wp2_with fail
            go_ret
            exact ⟨rfl, hU⟩
      | false =>
        have tt : ((⟨sta.toArray⟩ : ByteArray).toList == (⟨stb.toArray⟩ : ByteArray).toList) = false := by rw [txt_beq]; exact HE0.out
        obtain ⟨sva, hsva⟩ : ∃ sva : ByteArray, (⟨sta.toArray⟩ : ByteArray) = sva := ⟨_, rfl⟩
        obtain ⟨svb, hsvb⟩ : ∃ svb : ByteArray, (⟨stb.toArray⟩ : ByteArray) = svb := ⟨_, rfl⟩
        rw [hsva] at hcuta
        rw [hsvb] at hcutb
        rw [hsva, hsvb] at tt
        clear hsva hsvb
        go_wp2_with fail
        apply wp_region_seq (l := [_, _, _, _, _, _, _, _, _, _, _, _, _, _, _]) (t := [_]) [some 81, some 82, some 83, some 84, some 85, some 86, some 87, some 88, some 89, some 90, some 91, some 92, some 93, some 94, some 95, some 8] [[], [0], [], [2], [3], [4], [1, 5], [], [7], [], [9], [10], [11], [8, 12], [6, 13], [14]] [15, 15, 15, 15, 15, 15, 15, 15, 15, 15, 15, 15, 15, 15, 15] [eqv _, eqv _, eqv _, eqv _, eqv _, eqv _, eqv _, eqv _, eqv _, eqv _, eqv _, eqv _, eqv _, eqv _, eqv _] (by kernel_rfl) (by kernel_rfl) ⟨?o0, ?o1, ?o2, ?o3, ?o4, ?o5, ?o6, ?o7, ?o8, ?o9, ?o10, ?o11, ?o12, ?o13, ?o14, trivial⟩ ?last
        case o0 => -- Op.fieldAddr 45 (Operand.tmp 2) 2
          intro xv V hE _
          simp only [putD, List.foldl_nil, List.getD_cons_zero]
          refine OpGoal.plain ?_
          go_wp2_with fail
          exact ⟨rfl, Ext.refl _, rfl⟩
        case o1 => -- Op.load 9 (Operand.tmp 81)
          intro xv V hE hp
          have r0 : xv 0 = _ := hp.1
          clear hp
          have hWV := (Ext.drew W).trans hE
          have v0 := (hWV.old (p := ⟨ba, 2, none⟩) hblaW).trans ka2
          have v1 := (hWV.old (p := ⟨bb, 2, none⟩) hblbW).trans kb2
          simp only [putD, List.foldl_nil, List.foldl_cons, List.getD_cons_zero, List.getD_cons_succ, Act.put, List.setIfInBounds_toArray, List.set_cons_zero, List.set_cons_succ]
          refine OpGoal.plain ?_
          go_wp2_with fail
          exact ⟨rfl, Ext.refl _, rfl⟩
        case o2 => -- Op.fieldAddr 45 (Operand.tmp 2) 2
          intro xv V hE _
          simp only [putD, List.foldl_nil, List.getD_cons_zero, List.getD_cons_succ]
          refine OpGoal.plain ?_
          go_wp2_with fail
          exact ⟨rfl, Ext.refl _, rfl⟩
        case o3 => -- Op.load 9 (Operand.tmp 83)
          intro xv V hE hp
          have r2 : xv 2 = _ := hp.1
          clear hp
          have hWV := (Ext.drew W).trans hE
          have v0 := (hWV.old (p := ⟨ba, 2, none⟩) hblaW).trans ka2
          have v1 := (hWV.old (p := ⟨bb, 2, none⟩) hblbW).trans kb2
          simp only [putD, List.foldl_nil, List.foldl_cons, List.getD_cons_zero, List.getD_cons_succ, Act.put, List.setIfInBounds_toArray, List.set_cons_zero, List.set_cons_succ]
          refine OpGoal.plain ?_
          go_wp2_with fail
          exact ⟨rfl, Ext.refl _, rfl⟩
        case o4 => -- Op.call { callee := Callee.builtin Builtin.len, args := #[Operand.tmp 84], argTy
          intro xv V hE hp
          have r3 : xv 3 = _ := hp.1
          clear hp
          simp only [putD, List.foldl_nil, List.foldl_cons, List.getD_cons_zero, List.getD_cons_succ, Act.put, List.setIfInBounds_toArray, List.set_cons_zero, List.set_cons_succ]
          refine OpGoal.plain ?_
          go_wp2_with fail
          exact ⟨rfl, Ext.refl _, rfl⟩
        case o5 => -- Op.call { callee := Callee.builtin Builtin.min, args := #[Operand.tmp 85, Operan
          intro xv V hE hp
          have r4 : xv 4 = _ := hp.1
          clear hp
          simp only [putD, List.foldl_nil, List.foldl_cons, List.getD_cons_zero, List.getD_cons_succ, Act.put, List.setIfInBounds_toArray, List.set_cons_zero, List.set_cons_succ]
          refine OpGoal.plain ?_
          go_wp2_with fail
          exact ⟨rfl, Ext.refl _, rfl⟩
        case o6 => -- Op.slice 9 (Operand.tmp 82) none (some (Operand.tmp 86)) none
          intro xv V hE hp
          have r1 : xv 1 = _ := hp.1
          have r5 : xv 5 = _ := hp.2.1
          clear hp
          simp only [putD, List.foldl_nil, List.foldl_cons, List.getD_cons_zero, List.getD_cons_succ, Act.put, List.setIfInBounds_toArray, List.set_cons_zero, List.set_cons_succ]
          refine OpGoal.plain ?_
          go_wp2_with fail
          exact ⟨rfl, Ext.refl _, rfl⟩
        case o7 => -- Op.fieldAddr 45 (Operand.tmp 3) 2
          intro xv V hE _
          simp only [putD, List.foldl_nil, List.getD_cons_zero, List.getD_cons_succ]
          refine OpGoal.plain ?_
          go_wp2_with fail
          exact ⟨rfl, Ext.refl _, rfl⟩
        case o8 => -- Op.load 9 (Operand.tmp 88)
          intro xv V hE hp
          have r7 : xv 7 = _ := hp.1
          clear hp
          have hWV := (Ext.drew W).trans hE
          have v0 := (hWV.old (p := ⟨ba, 2, none⟩) hblaW).trans ka2
          have v1 := (hWV.old (p := ⟨bb, 2, none⟩) hblbW).trans kb2
          simp only [putD, List.foldl_nil, List.foldl_cons, List.getD_cons_zero, List.getD_cons_succ, Act.put, List.setIfInBounds_toArray, List.set_cons_zero, List.set_cons_succ]
          refine OpGoal.plain ?_
          go_wp2_with fail
          exact ⟨rfl, Ext.refl _, rfl⟩
        case o9 => -- Op.fieldAddr 45 (Operand.tmp 3) 2
          intro xv V hE _
          simp only [putD, List.foldl_nil, List.getD_cons_zero, List.getD_cons_succ]
          refine OpGoal.plain ?_
          go_wp2_with fail
          exact ⟨rfl, Ext.refl _, rfl⟩
        case o10 => -- Op.load 9 (Operand.tmp 90)
          intro xv V hE hp
          have r9 : xv 9 = _ := hp.1
          clear hp
          have hWV := (Ext.drew W).trans hE
          have v0 := (hWV.old (p := ⟨ba, 2, none⟩) hblaW).trans ka2
          have v1 := (hWV.old (p := ⟨bb, 2, none⟩) hblbW).trans kb2
          simp only [putD, List.foldl_nil, List.foldl_cons, List.getD_cons_zero, List.getD_cons_succ, Act.put, List.setIfInBounds_toArray, List.set_cons_zero, List.set_cons_succ]
          refine OpGoal.plain ?_
          go_wp2_with fail
          exact ⟨rfl, Ext.refl _, rfl⟩
        case o11 => -- Op.call { callee := Callee.builtin Builtin.len, args := #[Operand.tmp 91], argTy
          intro xv V hE hp
          have r10 : xv 10 = _ := hp.1
          clear hp
          simp only [putD, List.foldl_nil, List.foldl_cons, List.getD_cons_zero, List.getD_cons_succ, Act.put, List.setIfInBounds_toArray, List.set_cons_zero, List.set_cons_succ]
          refine OpGoal.plain ?_
          go_wp2_with fail
          exact ⟨rfl, Ext.refl _, rfl⟩
        case o12 => -- Op.call { callee := Callee.builtin Builtin.min, args := #[Operand.tmp 92, Operan
          intro xv V hE hp
          have r11 : xv 11 = _ := hp.1
          clear hp
          simp only [putD, List.foldl_nil, List.foldl_cons, List.getD_cons_zero, List.getD_cons_succ, Act.put, List.setIfInBounds_toArray, List.set_cons_zero, List.set_cons_succ]
          refine OpGoal.plain ?_
          go_wp2_with fail
          exact ⟨rfl, Ext.refl _, rfl⟩
        case o13 => -- Op.slice 9 (Operand.tmp 89) none (some (Operand.tmp 93)) none
          intro xv V hE hp
          have r8 : xv 8 = _ := hp.1
          have r12 : xv 12 = _ := hp.2.1
          clear hp
          simp only [putD, List.foldl_nil, List.foldl_cons, List.getD_cons_zero, List.getD_cons_succ, Act.put, List.setIfInBounds_toArray, List.set_cons_zero, List.set_cons_succ]
          refine OpGoal.plain ?_
          go_wp2_with fail
          exact ⟨rfl, Ext.refl _, rfl⟩
        case o14 => -- Op.binOp BinOp.eql 9 (Operand.tmp 87) (Operand.tmp 94) 9
          intro xv V hE hp
          have r6 : xv 6 = _ := hp.1
          have r13 : xv 13 = _ := hp.2.1
          clear hp
          simp only [putD, List.foldl_nil, List.foldl_cons, List.getD_cons_zero, List.getD_cons_succ, Act.put, List.setIfInBounds_toArray, List.set_cons_zero, List.set_cons_succ]
          refine OpGoal.plain ?_
          go_wp2_with fail
          exact ⟨rfl, Ext.refl _, rfl⟩
        case last =>
          intro xv V hE hp
          have r0 : xv 0 = _ := hp.1
          have r1 : xv 1 = _ := hp.2.1
          have r2 : xv 2 = _ := hp.2.2.1
          have r3 : xv 3 = _ := hp.2.2.2.1
          have r4 : xv 4 = _ := hp.2.2.2.2.1
          have r5 : xv 5 = _ := hp.2.2.2.2.2.1
          have r6 : xv 6 = _ := hp.2.2.2.2.2.2.1
          have r7 : xv 7 = _ := hp.2.2.2.2.2.2.2.1
          have r8 : xv 8 = _ := hp.2.2.2.2.2.2.2.2.1
          have r9 : xv 9 = _ := hp.2.2.2.2.2.2.2.2.2.1
          have r10 : xv 10 = _ := hp.2.2.2.2.2.2.2.2.2.2.1
          have r11 : xv 11 = _ := hp.2.2.2.2.2.2.2.2.2.2.2.1
          have r12 : xv 12 = _ := hp.2.2.2.2.2.2.2.2.2.2.2.2.1
          have r13 : xv 13 = _ := hp.2.2.2.2.2.2.2.2.2.2.2.2.2.1
          have r14 : xv 14 = _ := hp.2.2.2.2.2.2.2.2.2.2.2.2.2.2.1
          clear hp
          simp only [putD, List.foldl_nil, List.foldl_cons, List.getD_cons_zero, List.getD_cons_succ, Act.put, List.length_cons, List.length_nil, List.range_succ, List.range_zero, List.nil_append, List.cons_append, List.setIfInBounds_toArray, List.set_cons_zero, List.set_cons_succ]
          have hEV := hEW.trans ((Ext.drew W).trans hE)
          go_wp2_with fail
          apply wp_region_seq (l := [_, _, _, _, _, _, _, _, _, _, _, _, _, _, _, _, _, _, _]) (t := [_]) [some 127, some 128, some 129, some 130, some 131, some 132, some 133, some 134, some 135, some 136, some 137, some 138, some 139, some 140, some 141, some 142, some 143, some 144, some 145, some 4] [[], [0], [1], [1], [1, 2, 3], [1], [1, 4, 5], [1, 6], [7], [8], [8], [8, 9, 10], [8], [8], [8, 12, 13], [8, 11, 14], [8], [8, 15, 16], [8, 17], [18]] [19, 19, 19, 19, 19, 19, 19, 19, 19, 19, 19, 19, 19, 19, 19, 19, 19, 19, 19] [eqv _, eqv _, eqv _, eqv _, eqv _, eqv _, eqv _, eqv _, eqv _, eqv _, eqv _, eqv _, eqv _, eqv _, eqv _, eqv _, eqv _, eqv _, eqv _] (by kernel_rfl) (by kernel_rfl) ⟨?o0, ?o1, ?o2, ?o3, ?o4, ?o5, ?o6, ?o7, ?o8, ?o9, ?o10, ?o11, ?o12, ?o13, ?o14, ?o15, ?o16, ?o17, ?o18, trivial⟩ ?last
          case o0 => -- Op.move (Operand.tmp 5)
            intro xv U hE _
            simp only [putD, List.foldl_nil, List.getD_cons_zero]
            refine OpGoal.plain ?_
            go_wp2_with fail
            exact ⟨rfl, Ext.refl _, rfl⟩
          case o1 => -- Op.move (Operand.tmp 127)
            intro xv U hE hp
            have r0 : xv 0 = _ := hp.1
            clear hp
            simp only [putD, List.foldl_nil, List.foldl_cons, List.getD_cons_zero, List.getD_cons_succ, Act.put, List.setIfInBounds_toArray, List.set_cons_zero, List.set_cons_succ]
            refine OpGoal.plain ?_
            go_wp2_with fail
            exact ⟨rfl, Ext.refl _, rfl⟩
          case o2 => -- Op.move (Operand.tmp 6)  GUARD (1, 'true')
            intro xv U hE hp
            have r1 : xv 1 = _ := hp.1
            clear hp
            simp only [putD, List.foldl_nil, List.foldl_cons, List.getD_cons_zero, List.getD_cons_succ, Act.put, List.setIfInBounds_toArray, List.set_cons_zero, List.set_cons_succ]
            refine OpGoal.yes (by simp [yieldD, r1]) ?_
            go_wp2_with fail
            exact ⟨rfl, Ext.refl _, rfl⟩
          case o3 => -- Op.move (Operand.tmp 7)  GUARD (1, 'true')
            intro xv U hE hp
            have r1 : xv 1 = _ := hp.1
            clear hp
            simp only [putD, List.foldl_nil, List.foldl_cons, List.getD_cons_zero, List.getD_cons_succ, Act.put, List.setIfInBounds_toArray, List.set_cons_zero, List.set_cons_succ]
            refine OpGoal.yes (by simp [yieldD, r1]) ?_
            go_wp2_with fail
            exact ⟨rfl, Ext.refl _, rfl⟩
          case o4 => -- Op.binOp BinOp.eql 9 (Operand.tmp 129) (Operand.tmp 130) 9  GUARD (1, 'true')
            intro xv U hE hp
            have r1 : xv 1 = _ := hp.1
            have r2 : xv 2 = _ := hp.2.1
            have r3 : xv 3 = _ := hp.2.2.1
            clear hp
            simp only [putD, List.foldl_nil, List.foldl_cons, List.getD_cons_zero, List.getD_cons_succ, Act.put, List.setIfInBounds_toArray, List.set_cons_zero, List.set_cons_succ]
            refine OpGoal.yes (by simp [yieldD, r1]) ?_
            go_wp2_with fail
            exact ⟨rfl, Ext.refl _, rfl⟩
          case o5 => -- Op.move (Operand.tmp 8)  GUARD (1, 'true')
            intro xv U hE hp
            have r1 : xv 1 = _ := hp.1
            clear hp
            simp only [putD, List.foldl_nil, List.foldl_cons, List.getD_cons_zero, List.getD_cons_succ, Act.put, List.setIfInBounds_toArray, List.set_cons_zero, List.set_cons_succ]
            refine OpGoal.yes (by simp [yieldD, r1]) ?_
            go_wp2_with fail
            exact ⟨rfl, Ext.refl _, rfl⟩
          case o6 => -- Op.binOp BinOp.eql 4 (Operand.tmp 131) (Operand.tmp 132) 4  GUARD (1, 'true')
            intro xv U hE hp
            have r1 : xv 1 = _ := hp.1
            have r4 : xv 4 = _ := hp.2.1
            have r5 : xv 5 = _ := hp.2.2.1
            clear hp
            simp only [putD, List.foldl_nil, List.foldl_cons, List.getD_cons_zero, List.getD_cons_succ, Act.put, List.setIfInBounds_toArray, List.set_cons_zero, List.set_cons_succ]
            refine OpGoal.yes (by simp [yieldD, r1]) ?_
            go_wp2_with fail
            exact ⟨rfl, Ext.refl _, rfl⟩
          case o7 => -- Op.pick (Operand.tmp 128) (Operand.tmp 133) (Operand.const (Value.bool false))
            intro xv U hE hp
            have r1 : xv 1 = _ := hp.1
            have r6 : xv 6 = _ := hp.2.1
            clear hp
            simp only [putD, List.foldl_nil, List.foldl_cons, List.getD_cons_zero, List.getD_cons_succ, Act.put, List.setIfInBounds_toArray, List.set_cons_zero, List.set_cons_succ]
            refine OpGoal.plain ?_
            go_wp2_with fail
            exact ⟨rfl, Ext.refl _, rfl⟩
          case o8 => -- Op.move (Operand.tmp 134)
            intro xv U hE hp
            have r7 : xv 7 = _ := hp.1
            clear hp
            simp only [putD, List.foldl_nil, List.foldl_cons, List.getD_cons_zero, List.getD_cons_succ, Act.put, List.setIfInBounds_toArray, List.set_cons_zero, List.set_cons_succ]
            refine OpGoal.plain ?_
            go_wp2_with fail
            exact ⟨rfl, Ext.refl _, rfl⟩
          case o9 => -- Op.move (Operand.tmp 6)  GUARD (8, 'true')
            intro xv U hE hp
            have r8 : xv 8 = _ := hp.1
            clear hp
            simp only [putD, List.foldl_nil, List.foldl_cons, List.getD_cons_zero, List.getD_cons_succ, Act.put, List.setIfInBounds_toArray, List.set_cons_zero, List.set_cons_succ]
            refine OpGoal.yes (by simp [yieldD, r8]) ?_
            go_wp2_with fail
            exact ⟨rfl, Ext.refl _, rfl⟩
          case o10 => -- Op.move (Operand.tmp 9)  GUARD (8, 'true')
            intro xv U hE hp
            have r8 : xv 8 = _ := hp.1
            clear hp
            simp only [putD, List.foldl_nil, List.foldl_cons, List.getD_cons_zero, List.getD_cons_succ, Act.put, List.setIfInBounds_toArray, List.set_cons_zero, List.set_cons_succ]
            refine OpGoal.yes (by simp [yieldD, r8]) ?_
            go_wp2_with fail
            exact ⟨rfl, Ext.refl _, rfl⟩
          case o11 => -- Op.slice 9 (Operand.tmp 136) none (some (Operand.tmp 137)) none  GUARD (8, 'true
            intro xv U hE hp
            have r8 : xv 8 = _ := hp.1
            have r9 : xv 9 = _ := hp.2.1
            have r10 : xv 10 = _ := hp.2.2.1
            clear hp
            simp only [putD, List.foldl_nil, List.foldl_cons, List.getD_cons_zero, List.getD_cons_succ, Act.put, List.setIfInBounds_toArray, List.set_cons_zero, List.set_cons_succ]
            refine OpGoal.yes (by simp [yieldD, r8]) ?_
            go_wp2_with fail
            exact ⟨rfl, Ext.refl _, rfl⟩
          case o12 => -- Op.move (Operand.tmp 7)  GUARD (8, 'true')
            intro xv U hE hp
            have r8 : xv 8 = _ := hp.1
            clear hp
            simp only [putD, List.foldl_nil, List.foldl_cons, List.getD_cons_zero, List.getD_cons_succ, Act.put, List.setIfInBounds_toArray, List.set_cons_zero, List.set_cons_succ]
            refine OpGoal.yes (by simp [yieldD, r8]) ?_
            go_wp2_with fail
            exact ⟨rfl, Ext.refl _, rfl⟩
          case o13 => -- Op.move (Operand.tmp 9)  GUARD (8, 'true')
            intro xv U hE hp
            have r8 : xv 8 = _ := hp.1
            clear hp
            simp only [putD, List.foldl_nil, List.foldl_cons, List.getD_cons_zero, List.getD_cons_succ, Act.put, List.setIfInBounds_toArray, List.set_cons_zero, List.set_cons_succ]
            refine OpGoal.yes (by simp [yieldD, r8]) ?_
            go_wp2_with fail
            exact ⟨rfl, Ext.refl _, rfl⟩
          case o14 => -- Op.slice 9 (Operand.tmp 139) none (some (Operand.tmp 140)) none  GUARD (8, 'true
            intro xv U hE hp
            have r8 : xv 8 = _ := hp.1
            have r12 : xv 12 = _ := hp.2.1
            have r13 : xv 13 = _ := hp.2.2.1
            clear hp
            simp only [putD, List.foldl_nil, List.foldl_cons, List.getD_cons_zero, List.getD_cons_succ, Act.put, List.setIfInBounds_toArray, List.set_cons_zero, List.set_cons_succ]
            refine OpGoal.yes (by simp [yieldD, r8]) ?_
            go_wp2_with fail
            exact ⟨rfl, Ext.refl _, rfl⟩
          case o15 => -- Op.binOp BinOp.eql 9 (Operand.tmp 138) (Operand.tmp 141) 9  GUARD (8, 'true')
            intro xv U hE hp
            have r8 : xv 8 = _ := hp.1
            have r11 : xv 11 = _ := hp.2.1
            have r14 : xv 14 = _ := hp.2.2.1
            clear hp
            simp only [putD, List.foldl_nil, List.foldl_cons, List.getD_cons_zero, List.getD_cons_succ, Act.put, List.setIfInBounds_toArray, List.set_cons_zero, List.set_cons_succ]
            refine OpGoal.yes (by simp [yieldD, r8]) ?_
            go_wp2_with fail
            exact ⟨rfl, Ext.refl _, rfl⟩
          case o16 => -- Op.move (Operand.tmp 8)  GUARD (8, 'true')
            intro xv U hE hp
            have r8 : xv 8 = _ := hp.1
            clear hp
            simp only [putD, List.foldl_nil, List.foldl_cons, List.getD_cons_zero, List.getD_cons_succ, Act.put, List.setIfInBounds_toArray, List.set_cons_zero, List.set_cons_succ]
            refine OpGoal.yes (by simp [yieldD, r8]) ?_
            go_wp2_with fail
            exact ⟨rfl, Ext.refl _, rfl⟩
          case o17 => -- Op.binOp BinOp.eql 4 (Operand.tmp 142) (Operand.tmp 143) 4  GUARD (8, 'true')
            intro xv U hE hp
            have r8 : xv 8 = _ := hp.1
            have r15 : xv 15 = _ := hp.2.1
            have r16 : xv 16 = _ := hp.2.2.1
            clear hp
            simp only [putD, List.foldl_nil, List.foldl_cons, List.getD_cons_zero, List.getD_cons_succ, Act.put, List.setIfInBounds_toArray, List.set_cons_zero, List.set_cons_succ]
            refine OpGoal.yes (by simp [yieldD, r8]) ?_
            go_wp2_with fail
            exact ⟨rfl, Ext.refl _, rfl⟩
          case o18 => -- Op.pick (Operand.tmp 135) (Operand.tmp 144) (Operand.const (Value.bool false))
            intro xv U hE hp
            have r8 : xv 8 = _ := hp.1
            have r17 : xv 17 = _ := hp.2.1
            clear hp
            simp only [putD, List.foldl_nil, List.foldl_cons, List.getD_cons_zero, List.getD_cons_succ, Act.put, List.setIfInBounds_toArray, List.set_cons_zero, List.set_cons_succ]
            refine OpGoal.plain ?_
            go_wp2_with fail
            exact ⟨rfl, Ext.refl _, rfl⟩
          case last =>
            intro xv U hE hp
            have r0 : xv 0 = _ := hp.1
            have r1 : xv 1 = _ := hp.2.1
            have r2 : xv 2 = _ := hp.2.2.1
            have r3 : xv 3 = _ := hp.2.2.2.1
            have r4 : xv 4 = _ := hp.2.2.2.2.1
            have r5 : xv 5 = _ := hp.2.2.2.2.2.1
            have r6 : xv 6 = _ := hp.2.2.2.2.2.2.1
            have r7 : xv 7 = _ := hp.2.2.2.2.2.2.2.1
            have r8 : xv 8 = _ := hp.2.2.2.2.2.2.2.2.1
            have r9 : xv 9 = _ := hp.2.2.2.2.2.2.2.2.2.1
            have r10 : xv 10 = _ := hp.2.2.2.2.2.2.2.2.2.2.1
            have r11 : xv 11 = _ := hp.2.2.2.2.2.2.2.2.2.2.2.1
            have r12 : xv 12 = _ := hp.2.2.2.2.2.2.2.2.2.2.2.2.1
            have r13 : xv 13 = _ := hp.2.2.2.2.2.2.2.2.2.2.2.2.2.1
            have r14 : xv 14 = _ := hp.2.2.2.2.2.2.2.2.2.2.2.2.2.2.1
            have r15 : xv 15 = _ := hp.2.2.2.2.2.2.2.2.2.2.2.2.2.2.2.1
            have r16 : xv 16 = _ := hp.2.2.2.2.2.2.2.2.2.2.2.2.2.2.2.2.1
            have r17 : xv 17 = _ := hp.2.2.2.2.2.2.2.2.2.2.2.2.2.2.2.2.2.1
            have r18 : xv 18 = _ := hp.2.2.2.2.2.2.2.2.2.2.2.2.2.2.2.2.2.2.1
            clear hp
            simp only [putD, List.foldl_nil, List.foldl_cons, List.getD_cons_zero, List.getD_cons_succ, Act.put, List.length_cons, List.length_nil, List.range_succ, List.range_zero, List.nil_append, List.cons_append, List.setIfInBounds_toArray, List.set_cons_zero, List.set_cons_succ]
            have hU : Ext w U := (hEV).trans ((Ext.drew _).trans hE)
            go_wp2_with fail
            go_ret
            exact ⟨rfl, hU⟩
    | 2, hz4, e1, e2, HE0 =>
      cases e with
      | true =>
        have tt : decide (xa' = xb') = true := HE0.out
        have TT := Lib.hid tt
        clear tt
        go_wp2_with fail
        apply wp_region_seq (l := [_, _, _, _, _, _, _, _, _, _, _, _, _, _, _]) (t := [_]) [some 98, some 99, some 100, some 101, some 102, some 103, some 104, some 105, some 106, some 107, some 108, some 109, some 110, some 111, some 112, some 8] [[], [0], [], [2], [3], [4], [1, 5], [], [7], [], [9], [10], [11], [8, 12], [6, 13], [14]] [15, 15, 15, 15, 15, 15, 15, 15, 15, 15, 15, 15, 15, 15, 15] [eqv _, eqv _, eqv _, eqv _, eqv _, eqv _, eqv _, eqv _, eqv _, eqv _, eqv _, eqv _, eqv _, eqv _, (eqv (.bool true))] (by kernel_rfl) (by kernel_rfl) ⟨?o0, ?o1, ?o2, ?o3, ?o4, ?o5, ?o6, ?o7, ?o8, ?o9, ?o10, ?o11, ?o12, ?o13, ?o14, trivial⟩ ?last
        case o0 => -- Op.fieldAddr 45 (Operand.tmp 2) 3
          intro xv V hE _
          simp only [putD, List.foldl_nil, List.getD_cons_zero]
          refine OpGoal.plain ?_
          go_wp2_with fail
          exact ⟨rfl, Ext.refl _, rfl⟩
        case o1 => -- Op.load 22 (Operand.tmp 98)
          intro xv V hE hp
          have r0 : xv 0 = _ := hp.1
          clear hp
          have hWV := (Ext.drew W).trans hE
          have v0 := (hWV.old (p := ⟨ba, 3, none⟩) hblaW).trans ka3
          have v1 := (hWV.old (p := ⟨bb, 3, none⟩) hblbW).trans kb3
          simp only [putD, List.foldl_nil, List.foldl_cons, List.getD_cons_zero, List.getD_cons_succ, Act.put, List.setIfInBounds_toArray, List.set_cons_zero, List.set_cons_succ]
          refine OpGoal.plain ?_
          go_wp2_with fail
          exact ⟨rfl, Ext.refl _, rfl⟩
        case o2 => -- Op.fieldAddr 45 (Operand.tmp 2) 3
          intro xv V hE _
          simp only [putD, List.foldl_nil, List.getD_cons_zero, List.getD_cons_succ]
          refine OpGoal.plain ?_
          go_wp2_with fail
          exact ⟨rfl, Ext.refl _, rfl⟩
        case o3 => -- Op.load 22 (Operand.tmp 100)
          intro xv V hE hp
          have r2 : xv 2 = _ := hp.1
          clear hp
          have hWV := (Ext.drew W).trans hE
          have v0 := (hWV.old (p := ⟨ba, 3, none⟩) hblaW).trans ka3
          have v1 := (hWV.old (p := ⟨bb, 3, none⟩) hblbW).trans kb3
          simp only [putD, List.foldl_nil, List.foldl_cons, List.getD_cons_zero, List.getD_cons_succ, Act.put, List.setIfInBounds_toArray, List.set_cons_zero, List.set_cons_succ]
          refine OpGoal.plain ?_
          go_wp2_with fail
          exact ⟨rfl, Ext.refl _, rfl⟩
        case o4 => -- Op.call { callee := Callee.builtin Builtin.len, args := #[Operand.tmp 101], argT
          intro xv V hE hp
          have r3 : xv 3 = _ := hp.1
          clear hp
          simp only [putD, List.foldl_nil, List.foldl_cons, List.getD_cons_zero, List.getD_cons_succ, Act.put, List.setIfInBounds_toArray, List.set_cons_zero, List.set_cons_succ]
          refine OpGoal.plain ?_
          go_wp2_with fail
          exact ⟨rfl, Ext.refl _, rfl⟩
        case o5 => -- Op.call { callee := Callee.builtin Builtin.min, args := #[Operand.tmp 102, Opera
          intro xv V hE hp
          have r4 : xv 4 = _ := hp.1
          clear hp
          simp only [putD, List.foldl_nil, List.foldl_cons, List.getD_cons_zero, List.getD_cons_succ, Act.put, List.setIfInBounds_toArray, List.set_cons_zero, List.set_cons_succ]
          refine OpGoal.plain ?_
          go_wp2_with fail
          exact ⟨rfl, Ext.refl _, rfl⟩
        case o6 => -- Op.slice 22 (Operand.tmp 99) none (some (Operand.tmp 103)) none
          intro xv V hE hp
          have r1 : xv 1 = _ := hp.1
          have r5 : xv 5 = _ := hp.2.1
          clear hp
          simp only [putD, List.foldl_nil, List.foldl_cons, List.getD_cons_zero, List.getD_cons_succ, Act.put, List.setIfInBounds_toArray, List.set_cons_zero, List.set_cons_succ]
          refine OpGoal.plain ?_
          go_wp2_with fail
          exact ⟨rfl, Ext.refl _, rfl⟩
        case o7 => -- Op.fieldAddr 45 (Operand.tmp 3) 3
          intro xv V hE _
          simp only [putD, List.foldl_nil, List.getD_cons_zero, List.getD_cons_succ]
          refine OpGoal.plain ?_
          go_wp2_with fail
          exact ⟨rfl, Ext.refl _, rfl⟩
        case o8 => -- Op.load 22 (Operand.tmp 105)
          intro xv V hE hp
          have r7 : xv 7 = _ := hp.1
          clear hp
          have hWV := (Ext.drew W).trans hE
          have v0 := (hWV.old (p := ⟨ba, 3, none⟩) hblaW).trans ka3
          have v1 := (hWV.old (p := ⟨bb, 3, none⟩) hblbW).trans kb3
          simp only [putD, List.foldl_nil, List.foldl_cons, List.getD_cons_zero, List.getD_cons_succ, Act.put, List.setIfInBounds_toArray, List.set_cons_zero, List.set_cons_succ]
          refine OpGoal.plain ?_
          go_wp2_with fail
          exact ⟨rfl, Ext.refl _, rfl⟩
        case o9 => -- Op.fieldAddr 45 (Operand.tmp 3) 3
          intro xv V hE _
          simp only [putD, List.foldl_nil, List.getD_cons_zero, List.getD_cons_succ]
          refine OpGoal.plain ?_
          go_wp2_with fail
          exact ⟨rfl, Ext.refl _, rfl⟩
        case o10 => -- Op.load 22 (Operand.tmp 107)
          intro xv V hE hp
          have r9 : xv 9 = _ := hp.1
          clear hp
          have hWV := (Ext.drew W).trans hE
          have v0 := (hWV.old (p := ⟨ba, 3, none⟩) hblaW).trans ka3
          have v1 := (hWV.old (p := ⟨bb, 3, none⟩) hblbW).trans kb3
          simp only [putD, List.foldl_nil, List.foldl_cons, List.getD_cons_zero, List.getD_cons_succ, Act.put, List.setIfInBounds_toArray, List.set_cons_zero, List.set_cons_succ]
          refine OpGoal.plain ?_
          go_wp2_with fail
          exact ⟨rfl, Ext.refl _, rfl⟩
        case o11 => -- Op.call { callee := Callee.builtin Builtin.len, args := #[Operand.tmp 108], argT
          intro xv V hE hp
          have r10 : xv 10 = _ := hp.1
          clear hp
          simp only [putD, List.foldl_nil, List.foldl_cons, List.getD_cons_zero, List.getD_cons_succ, Act.put, List.setIfInBounds_toArray, List.set_cons_zero, List.set_cons_succ]
          refine OpGoal.plain ?_
          go_wp2_with fail
          exact ⟨rfl, Ext.refl _, rfl⟩
        case o12 => -- Op.call { callee := Callee.builtin Builtin.min, args := #[Operand.tmp 109, Opera
          intro xv V hE hp
          have r11 : xv 11 = _ := hp.1
          clear hp
          simp only [putD, List.foldl_nil, List.foldl_cons, List.getD_cons_zero, List.getD_cons_succ, Act.put, List.setIfInBounds_toArray, List.set_cons_zero, List.set_cons_succ]
          refine OpGoal.plain ?_
          go_wp2_with fail
          exact ⟨rfl, Ext.refl _, rfl⟩
        case o13 => -- Op.slice 22 (Operand.tmp 106) none (some (Operand.tmp 110)) none
          intro xv V hE hp
          have r8 : xv 8 = _ := hp.1
          have r12 : xv 12 = _ := hp.2.1
          clear hp
          simp only [putD, List.foldl_nil, List.foldl_cons, List.getD_cons_zero, List.getD_cons_succ, Act.put, List.setIfInBounds_toArray, List.set_cons_zero, List.set_cons_succ]
          refine OpGoal.plain ?_
          go_wp2_with fail
          exact ⟨rfl, Ext.refl _, rfl⟩
        case o14 => -- Op.call { callee := Callee.value (Operand.func 26), args := #[Operand.tmp 104, O
          intro xv V hE hp
          have r6 : xv 6 = _ := hp.1
          have r13 : xv 13 = _ := hp.2.1
          clear hp
          simp only [putD, List.foldl_nil, List.foldl_cons, List.getD_cons_zero, List.getD_cons_succ, Act.put, List.setIfInBounds_toArray, List.set_cons_zero, List.set_cons_succ]
          refine OpGoal.plain ?_
          go_wp2_with fail
          refine (same_I A3a A3b k3a k3b d3a d3b xa' xb' V (hXWa.ext ((Ext.drew W).trans hE)) (hXWb.ext ((Ext.drew W).trans hE)) (by omega) (by omega)).mono ?_
          rintro e' w' ⟨rfl, hE2⟩
          rw [TT.out]
          go_wp2_with fail
          exact ⟨rfl, hE2, rfl⟩
        case last =>
          intro xv V hE hp
          have r0 : xv 0 = _ := hp.1
          have r1 : xv 1 = _ := hp.2.1
          have r2 : xv 2 = _ := hp.2.2.1
          have r3 : xv 3 = _ := hp.2.2.2.1
          have r4 : xv 4 = _ := hp.2.2.2.2.1
          have r5 : xv 5 = _ := hp.2.2.2.2.2.1
          have r6 : xv 6 = _ := hp.2.2.2.2.2.2.1
          have r7 : xv 7 = _ := hp.2.2.2.2.2.2.2.1
          have r8 : xv 8 = _ := hp.2.2.2.2.2.2.2.2.1
          have r9 : xv 9 = _ := hp.2.2.2.2.2.2.2.2.2.1
          have r10 : xv 10 = _ := hp.2.2.2.2.2.2.2.2.2.2.1
          have r11 : xv 11 = _ := hp.2.2.2.2.2.2.2.2.2.2.2.1
          have r12 : xv 12 = _ := hp.2.2.2.2.2.2.2.2.2.2.2.2.1
          have r13 : xv 13 = _ := hp.2.2.2.2.2.2.2.2.2.2.2.2.2.1
          have r14 : xv 14 = _ := hp.2.2.2.2.2.2.2.2.2.2.2.2.2.2.1
          clear hp
          simp only [putD, List.foldl_nil, List.foldl_cons, List.getD_cons_zero, List.getD_cons_succ, Act.put, List.length_cons, List.length_nil, List.range_succ, List.range_zero, List.nil_append, List.cons_append, List.setIfInBounds_toArray, List.set_cons_zero, List.set_cons_succ]
          have hEV := hEW.trans ((Ext.drew W).trans hE)
          go_wp2_with fail
          apply wp_region_seq (l := [_, _, _, _, _, _, _, _, _, _, _, _, _, _, _, _, _, _, _]) (t := [_]) [some 127, some 128, some 129, some 130, some 131, some 132, some 133, some 134, some 135, some 136, some 137, some 138, some 139, some 140, some 141, some 142, some 143, some 144, some 145, some 4] [[], [0], [1], [1], [1, 2, 3], [1], [1, 4, 5], [1, 6], [7], [8], [8], [8, 9, 10], [8], [8], [8, 12, 13], [8, 11, 14], [8], [8, 15, 16], [8, 17], [18]] [19, 19, 19, 19, 19, 19, 19, 19, 19, 19, 19, 19, 19, 19, 19, 19, 19, 19, 19] [eqv _, eqv _, eqv _, eqv _, eqv _, eqv _, eqv _, eqv _, eqv _, eqv _, eqv _, eqv _, eqv _, eqv _, eqv _, eqv _, eqv _, eqv _, eqv _] (by kernel_rfl) (by kernel_rfl) ⟨?o0, ?o1, ?o2, ?o3, ?o4, ?o5, ?o6, ?o7, ?o8, ?o9, ?o10, ?o11, ?o12, ?o13, ?o14, ?o15, ?o16, ?o17, ?o18, trivial⟩ ?last
          case o0 => -- Op.move (Operand.tmp 5)
            intro xv U hE _
            simp only [putD, List.foldl_nil, List.getD_cons_zero]
            refine OpGoal.plain ?_
            go_wp2_with fail
            exact ⟨rfl, Ext.refl _, rfl⟩
          case o1 => -- Op.move (Operand.tmp 127)
            intro xv U hE hp
            have r0 : xv 0 = _ := hp.1
            clear hp
            simp only [putD, List.foldl_nil, List.foldl_cons, List.getD_cons_zero, List.getD_cons_succ, Act.put, List.setIfInBounds_toArray, List.set_cons_zero, List.set_cons_succ]
            refine OpGoal.plain ?_
            go_wp2_with fail
            exact ⟨rfl, Ext.refl _, rfl⟩
          case o2 => -- Op.move (Operand.tmp 6)  GUARD (1, 'true')
            intro xv U hE hp
            have r1 : xv 1 = _ := hp.1
            clear hp
            simp only [putD, List.foldl_nil, List.foldl_cons, List.getD_cons_zero, List.getD_cons_succ, Act.put, List.setIfInBounds_toArray, List.set_cons_zero, List.set_cons_succ]
            refine OpGoal.yes (by simp [yieldD, r1]) ?_
            go_wp2_with fail
            exact ⟨rfl, Ext.refl _, rfl⟩
          case o3 => -- Op.move (Operand.tmp 7)  GUARD (1, 'true')
            intro xv U hE hp
            have r1 : xv 1 = _ := hp.1
            clear hp
            simp only [putD, List.foldl_nil, List.foldl_cons, List.getD_cons_zero, List.getD_cons_succ, Act.put, List.setIfInBounds_toArray, List.set_cons_zero, List.set_cons_succ]
            refine OpGoal.yes (by simp [yieldD, r1]) ?_
            go_wp2_with fail
            exact ⟨rfl, Ext.refl _, rfl⟩
          case o4 => -- Op.binOp BinOp.eql 9 (Operand.tmp 129) (Operand.tmp 130) 9  GUARD (1, 'true')
            intro xv U hE hp
            have r1 : xv 1 = _ := hp.1
            have r2 : xv 2 = _ := hp.2.1
            have r3 : xv 3 = _ := hp.2.2.1
            clear hp
            simp only [putD, List.foldl_nil, List.foldl_cons, List.getD_cons_zero, List.getD_cons_succ, Act.put, List.setIfInBounds_toArray, List.set_cons_zero, List.set_cons_succ]
            refine OpGoal.yes (by simp [yieldD, r1]) ?_
            go_wp2_with fail
            exact ⟨rfl, Ext.refl _, rfl⟩
          case o5 => -- Op.move (Operand.tmp 8)  GUARD (1, 'true')
            intro xv U hE hp
            have r1 : xv 1 = _ := hp.1
            clear hp
            simp only [putD, List.foldl_nil, List.foldl_cons, List.getD_cons_zero, List.getD_cons_succ, Act.put, List.setIfInBounds_toArray, List.set_cons_zero, List.set_cons_succ]
            refine OpGoal.yes (by simp [yieldD, r1]) ?_
            go_wp2_with fail
            exact ⟨rfl, Ext.refl _, rfl⟩
          case o6 => -- Op.binOp BinOp.eql 4 (Operand.tmp 131) (Operand.tmp 132) 4  GUARD (1, 'true')
            intro xv U hE hp
            have r1 : xv 1 = _ := hp.1
            have r4 : xv 4 = _ := hp.2.1
            have r5 : xv 5 = _ := hp.2.2.1
            clear hp
            simp only [putD, List.foldl_nil, List.foldl_cons, List.getD_cons_zero, List.getD_cons_succ, Act.put, List.setIfInBounds_toArray, List.set_cons_zero, List.set_cons_succ]
            refine OpGoal.yes (by simp [yieldD, r1]) ?_
            go_wp2_with fail
            exact ⟨rfl, Ext.refl _, rfl⟩
          case o7 => -- Op.pick (Operand.tmp 128) (Operand.tmp 133) (Operand.const (Value.bool false))
            intro xv U hE hp
            have r1 : xv 1 = _ := hp.1
            have r6 : xv 6 = _ := hp.2.1
            clear hp
            simp only [putD, List.foldl_nil, List.foldl_cons, List.getD_cons_zero, List.getD_cons_succ, Act.put, List.setIfInBounds_toArray, List.set_cons_zero, List.set_cons_succ]
            refine OpGoal.plain ?_
            go_wp2_with fail
            exact ⟨rfl, Ext.refl _, rfl⟩
          case o8 => -- Op.move (Operand.tmp 134)
            intro xv U hE hp
            have r7 : xv 7 = _ := hp.1
            clear hp
            simp only [putD, List.foldl_nil, List.foldl_cons, List.getD_cons_zero, List.getD_cons_succ, Act.put, List.setIfInBounds_toArray, List.set_cons_zero, List.set_cons_succ]
            refine OpGoal.plain ?_
            go_wp2_with fail
            exact ⟨rfl, Ext.refl _, rfl⟩
          case o9 => -- Op.move (Operand.tmp 6)  GUARD (8, 'true')
            intro xv U hE hp
            have r8 : xv 8 = _ := hp.1
            clear hp
            simp only [putD, List.foldl_nil, List.foldl_cons, List.getD_cons_zero, List.getD_cons_succ, Act.put, List.setIfInBounds_toArray, List.set_cons_zero, List.set_cons_succ]
            refine OpGoal.yes (by simp [yieldD, r8]) ?_
            go_wp2_with fail
            exact ⟨rfl, Ext.refl _, rfl⟩
          case o10 => -- Op.move (Operand.tmp 9)  GUARD (8, 'true')
            intro xv U hE hp
            have r8 : xv 8 = _ := hp.1
            clear hp
            simp only [putD, List.foldl_nil, List.foldl_cons, List.getD_cons_zero, List.getD_cons_succ, Act.put, List.setIfInBounds_toArray, List.set_cons_zero, List.set_cons_succ]
            refine OpGoal.yes (by simp [yieldD, r8]) ?_
            go_wp2_with fail
            exact ⟨rfl, Ext.refl _, rfl⟩
          case o11 => -- Op.slice 9 (Operand.tmp 136) none (some (Operand.tmp 137)) none  GUARD (8, 'true
            intro xv U hE hp
            have r8 : xv 8 = _ := hp.1
            have r9 : xv 9 = _ := hp.2.1
            have r10 : xv 10 = _ := hp.2.2.1
            clear hp
            simp only [putD, List.foldl_nil, List.foldl_cons, List.getD_cons_zero, List.getD_cons_succ, Act.put, List.setIfInBounds_toArray, List.set_cons_zero, List.set_cons_succ]
            refine OpGoal.yes (by simp [yieldD, r8]) ?_
            go_wp2_with fail
            exact ⟨rfl, Ext.refl _, rfl⟩
          case o12 => -- Op.move (Operand.tmp 7)  GUARD (8, 'true')
            intro xv U hE hp
            have r8 : xv 8 = _ := hp.1
            clear hp
            simp only [putD, List.foldl_nil, List.foldl_cons, List.getD_cons_zero, List.getD_cons_succ, Act.put, List.setIfInBounds_toArray, List.set_cons_zero, List.set_cons_succ]
            refine OpGoal.yes (by simp [yieldD, r8]) ?_
            go_wp2_with fail
            exact ⟨rfl, Ext.refl _, rfl⟩
          case o13 => -- Op.move (Operand.tmp 9)  GUARD (8, 'true')
            intro xv U hE hp
            have r8 : xv 8 = _ := hp.1
            clear hp
            simp only [putD, List.foldl_nil, List.foldl_cons, List.getD_cons_zero, List.getD_cons_succ, Act.put, List.setIfInBounds_toArray, List.set_cons_zero, List.set_cons_succ]
            refine OpGoal.yes (by simp [yieldD, r8]) ?_
            go_wp2_with fail
            exact ⟨rfl, Ext.refl _, rfl⟩
          case o14 => -- Op.slice 9 (Operand.tmp 139) none (some (Operand.tmp 140)) none  GUARD (8, 'true
            intro xv U hE hp
            have r8 : xv 8 = _ := hp.1
            have r12 : xv 12 = _ := hp.2.1
            have r13 : xv 13 = _ := hp.2.2.1
            clear hp
            simp only [putD, List.foldl_nil, List.foldl_cons, List.getD_cons_zero, List.getD_cons_succ, Act.put, List.setIfInBounds_toArray, List.set_cons_zero, List.set_cons_succ]
            refine OpGoal.yes (by simp [yieldD, r8]) ?_
            go_wp2_with fail
            exact ⟨rfl, Ext.refl _, rfl⟩
          case o15 => -- Op.binOp BinOp.eql 9 (Operand.tmp 138) (Operand.tmp 141) 9  GUARD (8, 'true')
            intro xv U hE hp
            have r8 : xv 8 = _ := hp.1
            have r11 : xv 11 = _ := hp.2.1
            have r14 : xv 14 = _ := hp.2.2.1
            clear hp
            simp only [putD, List.foldl_nil, List.foldl_cons, List.getD_cons_zero, List.getD_cons_succ, Act.put, List.setIfInBounds_toArray, List.set_cons_zero, List.set_cons_succ]
            refine OpGoal.yes (by simp [yieldD, r8]) ?_
            go_wp2_with fail
            exact ⟨rfl, Ext.refl _, rfl⟩
          case o16 => -- Op.move (Operand.tmp 8)  GUARD (8, 'true')
            intro xv U hE hp
            have r8 : xv 8 = _ := hp.1
            clear hp
            simp only [putD, List.foldl_nil, List.foldl_cons, List.getD_cons_zero, List.getD_cons_succ, Act.put, List.setIfInBounds_toArray, List.set_cons_zero, List.set_cons_succ]
            refine OpGoal.yes (by simp [yieldD, r8]) ?_
            go_wp2_with fail
            exact ⟨rfl, Ext.refl _, rfl⟩
          case o17 => -- Op.binOp BinOp.eql 4 (Operand.tmp 142) (Operand.tmp 143) 4  GUARD (8, 'true')
            intro xv U hE hp
            have r8 : xv 8 = _ := hp.1
            have r15 : xv 15 = _ := hp.2.1
            have r16 : xv 16 = _ := hp.2.2.1
            clear hp
            simp only [putD, List.foldl_nil, List.foldl_cons, List.getD_cons_zero, List.getD_cons_succ, Act.put, List.setIfInBounds_toArray, List.set_cons_zero, List.set_cons_succ]
            refine OpGoal.yes (by simp [yieldD, r8]) ?_
            go_wp2_with fail
            exact ⟨rfl, Ext.refl _, rfl⟩
          case o18 => -- Op.pick (Operand.tmp 135) (Operand.tmp 144) (Operand.const (Value.bool false))
            intro xv U hE hp
            have r8 : xv 8 = _ := hp.1
            have r17 : xv 17 = _ := hp.2.1
            clear hp
            simp only [putD, List.foldl_nil, List.foldl_cons, List.getD_cons_zero, List.getD_cons_succ, Act.put, List.setIfInBounds_toArray, List.set_cons_zero, List.set_cons_succ]
            refine OpGoal.plain ?_
            go_wp2_with fail
            exact ⟨rfl, Ext.refl _, rfl⟩
          case last =>
            intro xv U hE hp
            have r0 : xv 0 = _ := hp.1
            have r1 : xv 1 = _ := hp.2.1
            have r2 : xv 2 = _ := hp.2.2.1
            have r3 : xv 3 = _ := hp.2.2.2.1
            have r4 : xv 4 = _ := hp.2.2.2.2.1
            have r5 : xv 5 = _ := hp.2.2.2.2.2.1
            have r6 : xv 6 = _ := hp.2.2.2.2.2.2.1
            have r7 : xv 7 = _ := hp.2.2.2.2.2.2.2.1
            have r8 : xv 8 = _ := hp.2.2.2.2.2.2.2.2.1
            have r9 : xv 9 = _ := hp.2.2.2.2.2.2.2.2.2.1
            have r10 : xv 10 = _ := hp.2.2.2.2.2.2.2.2.2.2.1
            have r11 : xv 11 = _ := hp.2.2.2.2.2.2.2.2.2.2.2.1
            have r12 : xv 12 = _ := hp.2.2.2.2.2.2.2.2.2.2.2.2.1
            have r13 : xv 13 = _ := hp.2.2.2.2.2.2.2.2.2.2.2.2.2.1
            have r14 : xv 14 = _ := hp.2.2.2.2.2.2.2.2.2.2.2.2.2.2.1
            have r15 : xv 15 = _ := hp.2.2.2.2.2.2.2.2.2.2.2.2.2.2.2.1
            have r16 : xv 16 = _ := hp.2.2.2.2.2.2.2.2.2.2.2.2.2.2.2.2.1
            have r17 : xv 17 = _ := hp.2.2.2.2.2.2.2.2.2.2.2.2.2.2.2.2.2.1
            have r18 : xv 18 = _ := hp.2.2.2.2.2.2.2.2.2.2.2.2.2.2.2.2.2.2.1
            clear hp
            simp only [putD, List.foldl_nil, List.foldl_cons, List.getD_cons_zero, List.getD_cons_succ, Act.put, List.length_cons, List.length_nil, List.range_succ, List.range_zero, List.nil_append, List.cons_append, List.setIfInBounds_toArray, List.set_cons_zero, List.set_cons_succ]
            have hU : Ext w U := (hEV).trans ((Ext.drew _).trans hE)
            go_wp2_with fail
            go_ret
            exact ⟨rfl, hU⟩
      | false =>
        have tt : decide (xa' = xb') = false := HE0.out
        have TT := Lib.hid tt
        clear tt
        go_wp2_with fail
        apply wp_region_seq (l := [_, _, _, _, _, _, _, _, _, _, _, _, _, _, _]) (t := [_]) [some 98, some 99, some 100, some 101, some 102, some 103, some 104, some 105, some 106, some 107, some 108, some 109, some 110, some 111, some 112, some 8] [[], [0], [], [2], [3], [4], [1, 5], [], [7], [], [9], [10], [11], [8, 12], [6, 13], [14]] [15, 15, 15, 15, 15, 15, 15, 15, 15, 15, 15, 15, 15, 15, 15] [eqv _, eqv _, eqv _, eqv _, eqv _, eqv _, eqv _, eqv _, eqv _, eqv _, eqv _, eqv _, eqv _, eqv _, (eqv (.bool false))] (by kernel_rfl) (by kernel_rfl) ⟨?o0, ?o1, ?o2, ?o3, ?o4, ?o5, ?o6, ?o7, ?o8, ?o9, ?o10, ?o11, ?o12, ?o13, ?o14, trivial⟩ ?last
        case o0 => -- Op.fieldAddr 45 (Operand.tmp 2) 3
          intro xv V hE _
          simp only [putD, List.foldl_nil, List.getD_cons_zero]
          refine OpGoal.plain ?_
          go_wp2_with fail
          exact ⟨rfl, Ext.refl _, rfl⟩
        case o1 => -- Op.load 22 (Operand.tmp 98)
          intro xv V hE hp
          have r0 : xv 0 = _ := hp.1
          clear hp
          have hWV := (Ext.drew W).trans hE
          have v0 := (hWV.old (p := ⟨ba, 3, none⟩) hblaW).trans ka3
          have v1 := (hWV.old (p := ⟨bb, 3, none⟩) hblbW).trans kb3
          simp only [putD, List.foldl_nil, List.foldl_cons, List.getD_cons_zero, List.getD_cons_succ, Act.put, List.setIfInBounds_toArray, List.set_cons_zero, List.set_cons_succ]
          refine OpGoal.plain ?_
          go_wp2_with fail
          exact ⟨rfl, Ext.refl _, rfl⟩
        case o2 => -- Op.fieldAddr 45 (Operand.tmp 2) 3
          intro xv V hE _
          simp only [putD, List.foldl_nil, List.getD_cons_zero, List.getD_cons_succ]
          refine OpGoal.plain ?_
          go_wp2_with fail
          exact ⟨rfl, Ext.refl _, rfl⟩
        case o3 => -- Op.load 22 (Operand.tmp 100)
          intro xv V hE hp
          have r2 : xv 2 = _ := hp.1
          clear hp
          have hWV := (Ext.drew W).trans hE
          have v0 := (hWV.old (p := ⟨ba, 3, none⟩) hblaW).trans ka3
          have v1 := (hWV.old (p := ⟨bb, 3, none⟩) hblbW).trans kb3
          simp only [putD, List.foldl_nil, List.foldl_cons, List.getD_cons_zero, List.getD_cons_succ, Act.put, List.setIfInBounds_toArray, List.set_cons_zero, List.set_cons_succ]
          refine OpGoal.plain ?_
          go_wp2_with fail
          exact ⟨rfl, Ext.refl _, rfl⟩
        case o4 => -- Op.call { callee := Callee.builtin Builtin.len, args := #[Operand.tmp 101], argT
          intro xv V hE hp
          have r3 : xv 3 = _ := hp.1
          clear hp
          simp only [putD, List.foldl_nil, List.foldl_cons, List.getD_cons_zero, List.getD_cons_succ, Act.put, List.setIfInBounds_toArray, List.set_cons_zero, List.set_cons_succ]
          refine OpGoal.plain ?_
          go_wp2_with fail
          exact ⟨rfl, Ext.refl _, rfl⟩
        case o5 => -- Op.call { callee := Callee.builtin Builtin.min, args := #[Operand.tmp 102, Opera
          intro xv V hE hp
          have r4 : xv 4 = _ := hp.1
          clear hp
          simp only [putD, List.foldl_nil, List.foldl_cons, List.getD_cons_zero, List.getD_cons_succ, Act.put, List.setIfInBounds_toArray, List.set_cons_zero, List.set_cons_succ]
          refine OpGoal.plain ?_
          go_wp2_with fail
          exact ⟨rfl, Ext.refl _, rfl⟩
        case o6 => -- Op.slice 22 (Operand.tmp 99) none (some (Operand.tmp 103)) none
          intro xv V hE hp
          have r1 : xv 1 = _ := hp.1
          have r5 : xv 5 = _ := hp.2.1
          clear hp
          simp only [putD, List.foldl_nil, List.foldl_cons, List.getD_cons_zero, List.getD_cons_succ, Act.put, List.setIfInBounds_toArray, List.set_cons_zero, List.set_cons_succ]
          refine OpGoal.plain ?_
          go_wp2_with fail
          exact ⟨rfl, Ext.refl _, rfl⟩
        case o7 => -- Op.fieldAddr 45 (Operand.tmp 3) 3
          intro xv V hE _
          simp only [putD, List.foldl_nil, List.getD_cons_zero, List.getD_cons_succ]
          refine OpGoal.plain ?_
          go_wp2_with fail
          exact ⟨rfl, Ext.refl _, rfl⟩
        case o8 => -- Op.load 22 (Operand.tmp 105)
          intro xv V hE hp
          have r7 : xv 7 = _ := hp.1
          clear hp
          have hWV := (Ext.drew W).trans hE
          have v0 := (hWV.old (p := ⟨ba, 3, none⟩) hblaW).trans ka3
          have v1 := (hWV.old (p := ⟨bb, 3, none⟩) hblbW).trans kb3
          simp only [putD, List.foldl_nil, List.foldl_cons, List.getD_cons_zero, List.getD_cons_succ, Act.put, List.setIfInBounds_toArray, List.set_cons_zero, List.set_cons_succ]
          refine OpGoal.plain ?_
          go_wp2_with fail
          exact ⟨rfl, Ext.refl _, rfl⟩
        case o9 => -- Op.fieldAddr 45 (Operand.tmp 3) 3
          intro xv V hE _
          simp only [putD, List.foldl_nil, List.getD_cons_zero, List.getD_cons_succ]
          refine OpGoal.plain ?_
          go_wp2_with fail
          exact ⟨rfl, Ext.refl _, rfl⟩
        case o10 => -- Op.load 22 (Operand.tmp 107)
          intro xv V hE hp
          have r9 : xv 9 = _ := hp.1
          clear hp
          have hWV := (Ext.drew W).trans hE
          have v0 := (hWV.old (p := ⟨ba, 3, none⟩) hblaW).trans ka3
          have v1 := (hWV.old (p := ⟨bb, 3, none⟩) hblbW).trans kb3
          simp only [putD, List.foldl_nil, List.foldl_cons, List.getD_cons_zero, List.getD_cons_succ, Act.put, List.setIfInBounds_toArray, List.set_cons_zero, List.set_cons_succ]
          refine OpGoal.plain ?_
          go_wp2_with fail
          exact ⟨rfl, Ext.refl _, rfl⟩
        case o11 => -- Op.call { callee := Callee.builtin Builtin.len, args := #[Operand.tmp 108], argT
          intro xv V hE hp
          have r10 : xv 10 = _ := hp.1
          clear hp
          simp only [putD, List.foldl_nil, List.foldl_cons, List.getD_cons_zero, List.getD_cons_succ, Act.put, List.setIfInBounds_toArray, List.set_cons_zero, List.set_cons_succ]
          refine OpGoal.plain ?_
          go_wp2_with fail
          exact ⟨rfl, Ext.refl _, rfl⟩
        case o12 => -- Op.call { callee := Callee.builtin Builtin.min, args := #[Operand.tmp 109, Opera
          intro xv V hE hp
          have r11 : xv 11 = _ := hp.1
          clear hp
          simp only [putD, List.foldl_nil, List.foldl_cons, List.getD_cons_zero, List.getD_cons_succ, Act.put, List.setIfInBounds_toArray, List.set_cons_zero, List.set_cons_succ]
          refine OpGoal.plain ?_
          go_wp2_with fail
          exact ⟨rfl, Ext.refl _, rfl⟩
        case o13 => -- Op.slice 22 (Operand.tmp 106) none (some (Operand.tmp 110)) none
          intro xv V hE hp
          have r8 : xv 8 = _ := hp.1
          have r12 : xv 12 = _ := hp.2.1
          clear hp
          simp only [putD, List.foldl_nil, List.foldl_cons, List.getD_cons_zero, List.getD_cons_succ, Act.put, List.setIfInBounds_toArray, List.set_cons_zero, List.set_cons_succ]
          refine OpGoal.plain ?_
          go_wp2_with fail
          exact ⟨rfl, Ext.refl _, rfl⟩
        case o14 => -- Op.call { callee := Callee.value (Operand.func 26), args := #[Operand.tmp 104, O
          intro xv V hE hp
          have r6 : xv 6 = _ := hp.1
          have r13 : xv 13 = _ := hp.2.1
          clear hp
          simp only [putD, List.foldl_nil, List.foldl_cons, List.getD_cons_zero, List.getD_cons_succ, Act.put, List.setIfInBounds_toArray, List.set_cons_zero, List.set_cons_succ]
          refine OpGoal.plain ?_
          go_wp2_with fail
          refine (same_I A3a A3b k3a k3b d3a d3b xa' xb' V (hXWa.ext ((Ext.drew W).trans hE)) (hXWb.ext ((Ext.drew W).trans hE)) (by omega) (by omega)).mono ?_
          rintro e' w' ⟨rfl, hE2⟩
          rw [TT.out]
          go_wp2_with fail
          exact ⟨rfl, hE2, rfl⟩
        case last =>
          intro xv V hE hp
          have r0 : xv 0 = _ := hp.1
          have r1 : xv 1 = _ := hp.2.1
          have r2 : xv 2 = _ := hp.2.2.1
          have r3 : xv 3 = _ := hp.2.2.2.1
          have r4 : xv 4 = _ := hp.2.2.2.2.1
          have r5 : xv 5 = _ := hp.2.2.2.2.2.1
          have r6 : xv 6 = _ := hp.2.2.2.2.2.2.1
          have r7 : xv 7 = _ := hp.2.2.2.2.2.2.2.1
          have r8 : xv 8 = _ := hp.2.2.2.2.2.2.2.2.1
          have r9 : xv 9 = _ := hp.2.2.2.2.2.2.2.2.2.1
          have r10 : xv 10 = _ := hp.2.2.2.2.2.2.2.2.2.2.1
          have r11 : xv 11 = _ := hp.2.2.2.2.2.2.2.2.2.2.2.1
          have r12 : xv 12 = _ := hp.2.2.2.2.2.2.2.2.2.2.2.2.1
          have r13 : xv 13 = _ := hp.2.2.2.2.2.2.2.2.2.2.2.2.2.1
          have r14 : xv 14 = _ := hp.2.2.2.2.2.2.2.2.2.2.2.2.2.2.1
          clear hp
          simp only [putD, List.foldl_nil, List.foldl_cons, List.getD_cons_zero, List.getD_cons_succ, Act.put, List.length_cons, List.length_nil, List.range_succ, List.range_zero, List.nil_append, List.cons_append, List.setIfInBounds_toArray, List.set_cons_zero, List.set_cons_succ]
          have hEV := hEW.trans ((Ext.drew W).trans hE)
          go_wp2_with fail
          apply wp_region_seq (l := [_, _, _, _, _, _, _, _, _, _, _, _, _, _, _, _, _, _, _]) (t := [_]) [some 127, some 128, some 129, some 130, some 131, some 132, some 133, some 134, some 135, some 136, some 137, some 138, some 139, some 140, some 141, some 142, some 143, some 144, some 145, some 4] [[], [0], [1], [1], [1, 2, 3], [1], [1, 4, 5], [1, 6], [7], [8], [8], [8, 9, 10], [8], [8], [8, 12, 13], [8, 11, 14], [8], [8, 15, 16], [8, 17], [18]] [19, 19, 19, 19, 19, 19, 19, 19, 19, 19, 19, 19, 19, 19, 19, 19, 19, 19, 19] [eqv _, eqv _, eqv _, eqv _, eqv _, eqv _, eqv _, eqv _, eqv _, eqv _, eqv _, eqv _, eqv _, eqv _, eqv _, eqv _, eqv _, eqv _, eqv _] (by kernel_rfl) (by kernel_rfl) ⟨?o0, ?o1, ?o2, ?o3, ?o4, ?o5, ?o6, ?o7, ?o8, ?o9, ?o10, ?o11, ?o12, ?o13, ?o14, ?o15, ?o16, ?o17, ?o18, trivial⟩ ?last
          case o0 => -- Op.move (Operand.tmp 5)
            intro xv U hE _
            simp only [putD, List.foldl_nil, List.getD_cons_zero]
            refine OpGoal.plain ?_
            go_wp2_with fail
            exact ⟨rfl, Ext.refl _, rfl⟩
          case o1 => -- Op.move (Operand.tmp 127)
            intro xv U hE hp
            have r0 : xv 0 = _ := hp.1
            clear hp
            simp only [putD, List.foldl_nil, List.foldl_cons, List.getD_cons_zero, List.getD_cons_succ, Act.put, List.setIfInBounds_toArray, List.set_cons_zero, List.set_cons_succ]
            refine OpGoal.plain ?_
            go_wp2_with fail
            exact ⟨rfl, Ext.refl _, rfl⟩
          case o2 => -- Op.move (Operand.tmp 6)  GUARD (1, 'true')
            intro xv U hE hp
            have r1 : xv 1 = _ := hp.1
            clear hp
            simp only [putD, List.foldl_nil, List.foldl_cons, List.getD_cons_zero, List.getD_cons_succ, Act.put, List.setIfInBounds_toArray, List.set_cons_zero, List.set_cons_succ]
            refine OpGoal.yes (by simp [yieldD, r1]) ?_
            go_wp2_with fail
            exact ⟨rfl, Ext.refl _, rfl⟩
          case o3 => -- Op.move (Operand.tmp 7)  GUARD (1, 'true')
            intro xv U hE hp
            have r1 : xv 1 = _ := hp.1
            clear hp
            simp only [putD, List.foldl_nil, List.foldl_cons, List.getD_cons_zero, List.getD_cons_succ, Act.put, List.setIfInBounds_toArray, List.set_cons_zero, List.set_cons_succ]
            refine OpGoal.yes (by simp [yieldD, r1]) ?_
            go_wp2_with fail
            exact ⟨rfl, Ext.refl _, rfl⟩
          case o4 => -- Op.binOp BinOp.eql 9 (Operand.tmp 129) (Operand.tmp 130) 9  GUARD (1, 'true')
            intro xv U hE hp
            have r1 : xv 1 = _ := hp.1
            have r2 : xv 2 = _ := hp.2.1
            have r3 : xv 3 = _ := hp.2.2.1
            clear hp
            simp only [putD, List.foldl_nil, List.foldl_cons, List.getD_cons_zero, List.getD_cons_succ, Act.put, List.setIfInBounds_toArray, List.set_cons_zero, List.set_cons_succ]
            refine OpGoal.yes (by simp [yieldD, r1]) ?_
            go_wp2_with fail
            exact ⟨rfl, Ext.refl _, rfl⟩
          case o5 => -- Op.move (Operand.tmp 8)  GUARD (1, 'true')
            intro xv U hE hp
            have r1 : xv 1 = _ := hp.1
            clear hp
            simp only [putD, List.foldl_nil, List.foldl_cons, List.getD_cons_zero, List.getD_cons_succ, Act.put, List.setIfInBounds_toArray, List.set_cons_zero, List.set_cons_succ]
            refine OpGoal.yes (by simp [yieldD, r1]) ?_
            go_wp2_with fail
            exact ⟨rfl, Ext.refl _, rfl⟩
          case o6 => -- Op.binOp BinOp.eql 4 (Operand.tmp 131) (Operand.tmp 132) 4  GUARD (1, 'true')
            intro xv U hE hp
            have r1 : xv 1 = _ := hp.1
            have r4 : xv 4 = _ := hp.2.1
            have r5 : xv 5 = _ := hp.2.2.1
            clear hp
            simp only [putD, List.foldl_nil, List.foldl_cons, List.getD_cons_zero, List.getD_cons_succ, Act.put, List.setIfInBounds_toArray, List.set_cons_zero, List.set_cons_succ]
            refine OpGoal.yes (by simp [yieldD, r1]) ?_
            go_wp2_with fail
            exact ⟨rfl, Ext.refl _, rfl⟩
          case o7 => -- Op.pick (Operand.tmp 128) (Operand.tmp 133) (Operand.const (Value.bool false))
            intro xv U hE hp
            have r1 : xv 1 = _ := hp.1
            have r6 : xv 6 = _ := hp.2.1
            clear hp
            simp only [putD, List.foldl_nil, List.foldl_cons, List.getD_cons_zero, List.getD_cons_succ, Act.put, List.setIfInBounds_toArray, List.set_cons_zero, List.set_cons_succ]
            refine OpGoal.plain ?_
            go_wp2_with fail
            exact ⟨rfl, Ext.refl _, rfl⟩
          case o8 => -- Op.move (Operand.tmp 134)
            intro xv U hE hp
            have r7 : xv 7 = _ := hp.1
            clear hp
            simp only [putD, List.foldl_nil, List.foldl_cons, List.getD_cons_zero, List.getD_cons_succ, Act.put, List.setIfInBounds_toArray, List.set_cons_zero, List.set_cons_succ]
            refine OpGoal.plain ?_
            go_wp2_with fail
            exact ⟨rfl, Ext.refl _, rfl⟩
          case o9 => -- Op.move (Operand.tmp 6)  GUARD (8, 'true')
            intro xv U hE hp
            have r8 : xv 8 = _ := hp.1
            clear hp
            simp only [putD, List.foldl_nil, List.foldl_cons, List.getD_cons_zero, List.getD_cons_succ, Act.put, List.setIfInBounds_toArray, List.set_cons_zero, List.set_cons_succ]
            refine OpGoal.yes (by simp [yieldD, r8]) ?_
            go_wp2_with fail
            exact ⟨rfl, Ext.refl _, rfl⟩
          case o10 => -- Op.move (Operand.tmp 9)  GUARD (8, 'true')
            intro xv U hE hp
            have r8 : xv 8 = _ := hp.1
            clear hp
            simp only [putD, List.foldl_nil, List.foldl_cons, List.getD_cons_zero, List.getD_cons_succ, Act.put, List.setIfInBounds_toArray, List.set_cons_zero, List.set_cons_succ]
            refine OpGoal.yes (by simp [yieldD, r8]) ?_
            go_wp2_with fail
            exact ⟨rfl, Ext.refl _, rfl⟩
          case o11 => -- Op.slice 9 (Operand.tmp 136) none (some (Operand.tmp 137)) none  GUARD (8, 'true
            intro xv U hE hp
            have r8 : xv 8 = _ := hp.1
            have r9 : xv 9 = _ := hp.2.1
            have r10 : xv 10 = _ := hp.2.2.1
            clear hp
            simp only [putD, List.foldl_nil, List.foldl_cons, List.getD_cons_zero, List.getD_cons_succ, Act.put, List.setIfInBounds_toArray, List.set_cons_zero, List.set_cons_succ]
            refine OpGoal.yes (by simp [yieldD, r8]) ?_
            go_wp2_with fail
            exact ⟨rfl, Ext.refl _, rfl⟩
          case o12 => -- Op.move (Operand.tmp 7)  GUARD (8, 'true')
            intro xv U hE hp
            have r8 : xv 8 = _ := hp.1
            clear hp
            simp only [putD, List.foldl_nil, List.foldl_cons, List.getD_cons_zero, List.getD_cons_succ, Act.put, List.setIfInBounds_toArray, List.set_cons_zero, List.set_cons_succ]
            refine OpGoal.yes (by simp [yieldD, r8]) ?_
            go_wp2_with fail
            exact ⟨rfl, Ext.refl _, rfl⟩
          case o13 => -- Op.move (Operand.tmp 9)  GUARD (8, 'true')
            intro xv U hE hp
            have r8 : xv 8 = _ := hp.1
            clear hp
            simp only [putD, List.foldl_nil, List.foldl_cons, List.getD_cons_zero, List.getD_cons_succ, Act.put, List.setIfInBounds_toArray, List.set_cons_zero, List.set_cons_succ]
            refine OpGoal.yes (by simp [yieldD, r8]) ?_
            go_wp2_with fail
            exact ⟨rfl, Ext.refl _, rfl⟩
          case o14 => -- Op.slice 9 (Operand.tmp 139) none (some (Operand.tmp 140)) none  GUARD (8, 'true
            intro xv U hE hp
            have r8 : xv 8 = _ := hp.1
            have r12 : xv 12 = _ := hp.2.1
            have r13 : xv 13 = _ := hp.2.2.1
            clear hp
            simp only [putD, List.foldl_nil, List.foldl_cons, List.getD_cons_zero, List.getD_cons_succ, Act.put, List.setIfInBounds_toArray, List.set_cons_zero, List.set_cons_succ]
            refine OpGoal.yes (by simp [yieldD, r8]) ?_
            go_wp2_with fail
            exact ⟨rfl, Ext.refl _, rfl⟩
          case o15 => -- Op.binOp BinOp.eql 9 (Operand.tmp 138) (Operand.tmp 141) 9  GUARD (8, 'true')
            intro xv U hE hp
            have r8 : xv 8 = _ := hp.1
            have r11 : xv 11 = _ := hp.2.1
            have r14 : xv 14 = _ := hp.2.2.1
            clear hp
            simp only [putD, List.foldl_nil, List.foldl_cons, List.getD_cons_zero, List.getD_cons_succ, Act.put, List.setIfInBounds_toArray, List.set_cons_zero, List.set_cons_succ]
            refine OpGoal.yes (by simp [yieldD, r8]) ?_
            go_wp2_with fail
            exact ⟨rfl, Ext.refl _, rfl⟩
          case o16 => -- Op.move (Operand.tmp 8)  GUARD (8, 'true')
            intro xv U hE hp
            have r8 : xv 8 = _ := hp.1
            clear hp
            simp only [putD, List.foldl_nil, List.foldl_cons, List.getD_cons_zero, List.getD_cons_succ, Act.put, List.setIfInBounds_toArray, List.set_cons_zero, List.set_cons_succ]
            refine OpGoal.yes (by simp [yieldD, r8]) ?_
            go_wp2_with fail
            exact ⟨rfl, Ext.refl _, rfl⟩
          case o17 => -- Op.binOp BinOp.eql 4 (Operand.tmp 142) (Operand.tmp 143) 4  GUARD (8, 'true')
            intro xv U hE hp
            have r8 : xv 8 = _ := hp.1
            have r15 : xv 15 = _ := hp.2.1
            have r16 : xv 16 = _ := hp.2.2.1
            clear hp
            simp only [putD, List.foldl_nil, List.foldl_cons, List.getD_cons_zero, List.getD_cons_succ, Act.put, List.setIfInBounds_toArray, List.set_cons_zero, List.set_cons_succ]
            refine OpGoal.yes (by simp [yieldD, r8]) ?_
            go_wp2_with fail
            exact ⟨rfl, Ext.refl _, rfl⟩
          case o18 => -- Op.pick (Operand.tmp 135) (Operand.tmp 144) (Operand.const (Value.bool false))
            intro xv U hE hp
            have r8 : xv 8 = _ := hp.1
            have r17 : xv 17 = _ := hp.2.1
            clear hp
            simp only [putD, List.foldl_nil, List.foldl_cons, List.getD_cons_zero, List.getD_cons_succ, Act.put, List.setIfInBounds_toArray, List.set_cons_zero, List.set_cons_succ]
            refine OpGoal.plain ?_
            go_wp2_with fail
            exact ⟨rfl, Ext.refl _, rfl⟩
          case last =>
            intro xv U hE hp
            have r0 : xv 0 = _ := hp.1
            have r1 : xv 1 = _ := hp.2.1
            have r2 : xv 2 = _ := hp.2.2.1
            have r3 : xv 3 = _ := hp.2.2.2.1
            have r4 : xv 4 = _ := hp.2.2.2.2.1
            have r5 : xv 5 = _ := hp.2.2.2.2.2.1
            have r6 : xv 6 = _ := hp.2.2.2.2.2.2.1
            have r7 : xv 7 = _ := hp.2.2.2.2.2.2.2.1
            have r8 : xv 8 = _ := hp.2.2.2.2.2.2.2.2.1
            have r9 : xv 9 = _ := hp.2.2.2.2.2.2.2.2.2.1
            have r10 : xv 10 = _ := hp.2.2.2.2.2.2.2.2.2.2.1
            have r11 : xv 11 = _ := hp.2.2.2.2.2.2.2.2.2.2.2.1
            have r12 : xv 12 = _ := hp.2.2.2.2.2.2.2.2.2.2.2.2.1
            have r13 : xv 13 = _ := hp.2.2.2.2.2.2.2.2.2.2.2.2.2.1
            have r14 : xv 14 = _ := hp.2.2.2.2.2.2.2.2.2.2.2.2.2.2.1
            have r15 : xv 15 = _ := hp.2.2.2.2.2.2.2.2.2.2.2.2.2.2.2.1
            have r16 : xv 16 = _ := hp.2.2.2.2.2.2.2.2.2.2.2.2.2.2.2.2.1
            have r17 : xv 17 = _ := hp.2.2.2.2.2.2.2.2.2.2.2.2.2.2.2.2.2.1
            have r18 : xv 18 = _ := hp.2.2.2.2.2.2.2.2.2.2.2.2.2.2.2.2.2.2.1
            clear hp
            simp only [putD, List.foldl_nil, List.foldl_cons, List.getD_cons_zero, List.getD_cons_succ, Act.put, List.length_cons, List.length_nil, List.range_succ, List.range_zero, List.nil_append, List.cons_append, List.setIfInBounds_toArray, List.set_cons_zero, List.set_cons_succ]
            have hU : Ext w U := (hEV).trans ((Ext.drew _).trans hE)
            go_wp2_with fail
            go_ret
            exact ⟨rfl, hU⟩
    | 3, hz4, e1, e2, HE0 =>
      cases e with
      | true =>
        have tt : decide (cutL ta = cutL tb) = true := HE0.out
        have TT := Lib.hid tt
        clear tt
        go_wp2_with fail
        apply wp_region_seq (l := [_, _, _, _, _, _, _]) (t := [_]) [some 115, some 116, some 117, some 118, some 119, some 120, some 121, some 8] [[], [0], [1], [], [3], [4], [2, 5], [6]] [7, 7, 7, 7, 7, 7, 7] [eqv _, eqv _, (ownSPT W.heap.size (cutL ta)), eqv _, eqv _, (ownSPT W.heap.size (cutL tb)), (eqv (.bool true))] (by kernel_rfl) (by kernel_rfl) ⟨?o0, ?o1, ?o2, ?o3, ?o4, ?o5, ?o6, trivial⟩ ?last
        case o0 => -- Op.fieldAddr 45 (Operand.tmp 2) 4
          intro xv V hE _
          simp only [putD, List.foldl_nil, List.getD_cons_zero]
          refine OpGoal.plain ?_
          go_wp2_with fail
          exact ⟨rfl, Ext.refl _, rfl⟩
        case o1 => -- Op.load 23 (Operand.tmp 115)
          intro xv V hE hp
          have r0 : xv 0 = _ := hp.1
          clear hp
          have hWV := (Ext.drew W).trans hE
          have v0 := (hWV.old (p := ⟨ba, 4, none⟩) hblaW).trans ka4
          have v1 := (hWV.old (p := ⟨bb, 4, none⟩) hblbW).trans kb4
          simp only [putD, List.foldl_nil, List.foldl_cons, List.getD_cons_zero, List.getD_cons_succ, Act.put, List.setIfInBounds_toArray, List.set_cons_zero, List.set_cons_succ]
          refine OpGoal.plain ?_
          go_wp2_with fail
          exact ⟨rfl, Ext.refl _, rfl⟩
        case o2 => -- Op.call { callee := Callee.value (Operand.func 11), args := #[Operand.tmp 116], 
          intro xv V hE hp
          have r1 : xv 1 = _ := hp.1
          clear hp
          simp only [putD, List.foldl_nil, List.foldl_cons, List.getD_cons_zero, List.getD_cons_succ, Act.put, List.setIfInBounds_toArray, List.set_cons_zero, List.set_cons_succ]
          refine OpGoal.plain ?_
          go_wp2_with fail
          refine (cutl_any A4a m4a d4a ta V (hYWa.ext ((Ext.drew W).trans hE)) hm4a htsa).mono ?_
          rintro e' w' ⟨v, rfl, hO, hE2⟩
          go_wp2_with fail
          exact ⟨rfl, hE2, hO.base_ (by have := hE.sz; simp at this; omega)⟩
        case o3 => -- Op.fieldAddr 45 (Operand.tmp 3) 4
          intro xv V hE _
          simp only [putD, List.foldl_nil, List.getD_cons_zero, List.getD_cons_succ]
          refine OpGoal.plain ?_
          go_wp2_with fail
          exact ⟨rfl, Ext.refl _, rfl⟩
        case o4 => -- Op.load 23 (Operand.tmp 118)
          intro xv V hE hp
          have r3 : xv 3 = _ := hp.1
          clear hp
          have hWV := (Ext.drew W).trans hE
          have v0 := (hWV.old (p := ⟨ba, 4, none⟩) hblaW).trans ka4
          have v1 := (hWV.old (p := ⟨bb, 4, none⟩) hblbW).trans kb4
          simp only [putD, List.foldl_nil, List.foldl_cons, List.getD_cons_zero, List.getD_cons_succ, Act.put, List.setIfInBounds_toArray, List.set_cons_zero, List.set_cons_succ]
          refine OpGoal.plain ?_
          go_wp2_with fail
          exact ⟨rfl, Ext.refl _, rfl⟩
        case o5 => -- Op.call { callee := Callee.value (Operand.func 11), args := #[Operand.tmp 119], 
          intro xv V hE hp
          have r4 : xv 4 = _ := hp.1
          clear hp
          simp only [putD, List.foldl_nil, List.foldl_cons, List.getD_cons_zero, List.getD_cons_succ, Act.put, List.setIfInBounds_toArray, List.set_cons_zero, List.set_cons_succ]
          refine OpGoal.plain ?_
          go_wp2_with fail
          refine (cutl_any A4b m4b d4b tb V (hYWb.ext ((Ext.drew W).trans hE)) hm4b htsb).mono ?_
          rintro e' w' ⟨v, rfl, hO, hE2⟩
          go_wp2_with fail
          exact ⟨rfl, hE2, hO.base_ (by have := hE.sz; simp at this; omega)⟩
        case o6 => -- Op.call { callee := Callee.value (Operand.func 29), args := #[Operand.tmp 117, O
          intro xv V hE hp
          obtain r2 := hp.1
          obtain r5 := hp.2.1
          clear hp
          have r2' : OwnT V W.heap.size (xv 2) (cutL ta) := r2
          have r5' : OwnT V W.heap.size (xv 5) (cutL tb) := r5
          obtain ⟨Q2, d2, e2', hR2⟩ := r2'.form
          obtain ⟨Q5, d5, e5', hR5⟩ := r5'.form
          clear r2' r5' r2 r5
          simp only [putD, List.foldl_nil, List.foldl_cons, List.getD_cons_zero, List.getD_cons_succ, Act.put, List.setIfInBounds_toArray, List.set_cons_zero, List.set_cons_succ]
          refine OpGoal.plain ?_
          go_wp2_with fail
          refine (same_T Q2 Q5 _ _ d2 d5 (cutL ta) (cutL tb) V hR2 hR5 (by omega) (by omega)).mono ?_
          rintro e' w' ⟨rfl, hE2⟩
          rw [TT.out]
          go_wp2_with fail
          exact ⟨rfl, hE2, rfl⟩
        case last =>
          intro xv V hE hp
          have r0 : xv 0 = _ := hp.1
          have r1 : xv 1 = _ := hp.2.1
          obtain r2 := hp.2.2.1
          have r3 : xv 3 = _ := hp.2.2.2.1
          have r4 : xv 4 = _ := hp.2.2.2.2.1
          obtain r5 := hp.2.2.2.2.2.1
          have r6 : xv 6 = _ := hp.2.2.2.2.2.2.1
          clear hp
          simp only [putD, List.foldl_nil, List.foldl_cons, List.getD_cons_zero, List.getD_cons_succ, Act.put, List.length_cons, List.length_nil, List.range_succ, List.range_zero, List.nil_append, List.cons_append, List.setIfInBounds_toArray, List.set_cons_zero, List.set_cons_succ]
          have hEV := hEW.trans ((Ext.drew W).trans hE)
          go_wp2_with fail
          apply wp_region_seq (l := [_, _, _, _, _, _, _, _, _, _, _, _, _, _, _, _, _, _, _]) (t := [_]) [some 127, some 128, some 129, some 130, some 131, some 132, some 133, some 134, some 135, some 136, some 137, some 138, some 139, some 140, some 141, some 142, some 143, some 144, some 145, some 4] [[], [0], [1], [1], [1, 2, 3], [1], [1, 4, 5], [1, 6], [7], [8], [8], [8, 9, 10], [8], [8], [8, 12, 13], [8, 11, 14], [8], [8, 15, 16], [8, 17], [18]] [19, 19, 19, 19, 19, 19, 19, 19, 19, 19, 19, 19, 19, 19, 19, 19, 19, 19, 19] [eqv _, eqv _, eqv _, eqv _, eqv _, eqv _, eqv _, eqv _, eqv _, eqv _, eqv _, eqv _, eqv _, eqv _, eqv _, eqv _, eqv _, eqv _, eqv _] (by kernel_rfl) (by kernel_rfl) ⟨?o0, ?o1, ?o2, ?o3, ?o4, ?o5, ?o6, ?o7, ?o8, ?o9, ?o10, ?o11, ?o12, ?o13, ?o14, ?o15, ?o16, ?o17, ?o18, trivial⟩ ?last
          case o0 => -- Op.move (Operand.tmp 5)
            intro xv U hE _
            simp only [putD, List.foldl_nil, List.getD_cons_zero]
            refine OpGoal.plain ?_
            go_wp2_with fail
            exact ⟨rfl, Ext.refl _, rfl⟩
          case o1 => -- Op.move (Operand.tmp 127)
            intro xv U hE hp
            have r0 : xv 0 = _ := hp.1
            clear hp
            simp only [putD, List.foldl_nil, List.foldl_cons, List.getD_cons_zero, List.getD_cons_succ, Act.put, List.setIfInBounds_toArray, List.set_cons_zero, List.set_cons_succ]
            refine OpGoal.plain ?_
            go_wp2_with fail
            exact ⟨rfl, Ext.refl _, rfl⟩
          case o2 => -- Op.move (Operand.tmp 6)  GUARD (1, 'true')
            intro xv U hE hp
            have r1 : xv 1 = _ := hp.1
            clear hp
            simp only [putD, List.foldl_nil, List.foldl_cons, List.getD_cons_zero, List.getD_cons_succ, Act.put, List.setIfInBounds_toArray, List.set_cons_zero, List.set_cons_succ]
            refine OpGoal.yes (by simp [yieldD, r1]) ?_
            go_wp2_with fail
            exact ⟨rfl, Ext.refl _, rfl⟩
          case o3 => -- Op.move (Operand.tmp 7)  GUARD (1, 'true')
            intro xv U hE hp
            have r1 : xv 1 = _ := hp.1
            clear hp
            simp only [putD, List.foldl_nil, List.foldl_cons, List.getD_cons_zero, List.getD_cons_succ, Act.put, List.setIfInBounds_toArray, List.set_cons_zero, List.set_cons_succ]
            refine OpGoal.yes (by simp [yieldD, r1]) ?_
            go_wp2_with fail
            exact ⟨rfl, Ext.refl _, rfl⟩
          case o4 => -- Op.binOp BinOp.eql 9 (Operand.tmp 129) (Operand.tmp 130) 9  GUARD (1, 'true')
            intro xv U hE hp
            have r1 : xv 1 = _ := hp.1
            have r2 : xv 2 = _ := hp.2.1
            have r3 : xv 3 = _ := hp.2.2.1
            clear hp
            simp only [putD, List.foldl_nil, List.foldl_cons, List.getD_cons_zero, List.getD_cons_succ, Act.put, List.setIfInBounds_toArray, List.set_cons_zero, List.set_cons_succ]
            refine OpGoal.yes (by simp [yieldD, r1]) ?_
            go_wp2_with fail
            exact ⟨rfl, Ext.refl _, rfl⟩
          case o5 => -- Op.move (Operand.tmp 8)  GUARD (1, 'true')
            intro xv U hE hp
            have r1 : xv 1 = _ := hp.1
            clear hp
            simp only [putD, List.foldl_nil, List.foldl_cons, List.getD_cons_zero, List.getD_cons_succ, Act.put, List.setIfInBounds_toArray, List.set_cons_zero, List.set_cons_succ]
            refine OpGoal.yes (by simp [yieldD, r1]) ?_
            go_wp2_with fail
            exact ⟨rfl, Ext.refl _, rfl⟩
          case o6 => -- Op.binOp BinOp.eql 4 (Operand.tmp 131) (Operand.tmp 132) 4  GUARD (1, 'true')
            intro xv U hE hp
            have r1 : xv 1 = _ := hp.1
            have r4 : xv 4 = _ := hp.2.1
            have r5 : xv 5 = _ := hp.2.2.1
            clear hp
            simp only [putD, List.foldl_nil, List.foldl_cons, List.getD_cons_zero, List.getD_cons_succ, Act.put, List.setIfInBounds_toArray, List.set_cons_zero, List.set_cons_succ]
            refine OpGoal.yes (by simp [yieldD, r1]) ?_
            go_wp2_with fail
            exact ⟨rfl, Ext.refl _, rfl⟩
          case o7 => -- Op.pick (Operand.tmp 128) (Operand.tmp 133) (Operand.const (Value.bool false))
            intro xv U hE hp
            have r1 : xv 1 = _ := hp.1
            have r6 : xv 6 = _ := hp.2.1
            clear hp
            simp only [putD, List.foldl_nil, List.foldl_cons, List.getD_cons_zero, List.getD_cons_succ, Act.put, List.setIfInBounds_toArray, List.set_cons_zero, List.set_cons_succ]
            refine OpGoal.plain ?_
            go_wp2_with fail
            exact ⟨rfl, Ext.refl _, rfl⟩
          case o8 => -- Op.move (Operand.tmp 134)
            intro xv U hE hp
            have r7 : xv 7 = _ := hp.1
            clear hp
            simp only [putD, List.foldl_nil, List.foldl_cons, List.getD_cons_zero, List.getD_cons_succ, Act.put, List.setIfInBounds_toArray, List.set_cons_zero, List.set_cons_succ]
            refine OpGoal.plain ?_
            go_wp2_with fail
            exact ⟨rfl, Ext.refl _, rfl⟩
          case o9 => -- Op.move (Operand.tmp 6)  GUARD (8, 'true')
            intro xv U hE hp
            have r8 : xv 8 = _ := hp.1
            clear hp
            simp only [putD, List.foldl_nil, List.foldl_cons, List.getD_cons_zero, List.getD_cons_succ, Act.put, List.setIfInBounds_toArray, List.set_cons_zero, List.set_cons_succ]
            refine OpGoal.yes (by simp [yieldD, r8]) ?_
            go_wp2_with fail
            exact ⟨rfl, Ext.refl _, rfl⟩
          case o10 => -- Op.move (Operand.tmp 9)  GUARD (8, 'true')
            intro xv U hE hp
            have r8 : xv 8 = _ := hp.1
            clear hp
            simp only [putD, List.foldl_nil, List.foldl_cons, List.getD_cons_zero, List.getD_cons_succ, Act.put, List.setIfInBounds_toArray, List.set_cons_zero, List.set_cons_succ]
            refine OpGoal.yes (by simp [yieldD, r8]) ?_
            go_wp2_with fail
            exact ⟨rfl, Ext.refl _, rfl⟩
          case o11 => -- Op.slice 9 (Operand.tmp 136) none (some (Operand.tmp 137)) none  GUARD (8, 'true
            intro xv U hE hp
            have r8 : xv 8 = _ := hp.1
            have r9 : xv 9 = _ := hp.2.1
            have r10 : xv 10 = _ := hp.2.2.1
            clear hp
            simp only [putD, List.foldl_nil, List.foldl_cons, List.getD_cons_zero, List.getD_cons_succ, Act.put, List.setIfInBounds_toArray, List.set_cons_zero, List.set_cons_succ]
            refine OpGoal.yes (by simp [yieldD, r8]) ?_
            go_wp2_with fail
            exact ⟨rfl, Ext.refl _, rfl⟩
          case o12 => -- Op.move (Operand.tmp 7)  GUARD (8, 'true')
            intro xv U hE hp
            have r8 : xv 8 = _ := hp.1
            clear hp
            simp only [putD, List.foldl_nil, List.foldl_cons, List.getD_cons_zero, List.getD_cons_succ, Act.put, List.setIfInBounds_toArray, List.set_cons_zero, List.set_cons_succ]
            refine OpGoal.yes (by simp [yieldD, r8]) ?_
            go_wp2_with fail
            exact ⟨rfl, Ext.refl _, rfl⟩
          case o13 => -- Op.move (Operand.tmp 9)  GUARD (8, 'true')
            intro xv U hE hp
            have r8 : xv 8 = _ := hp.1
            clear hp
            simp only [putD, List.foldl_nil, List.foldl_cons, List.getD_cons_zero, List.getD_cons_succ, Act.put, List.setIfInBounds_toArray, List.set_cons_zero, List.set_cons_succ]
            refine OpGoal.yes (by simp [yieldD, r8]) ?_
            go_wp2_with fail
            exact ⟨rfl, Ext.refl _, rfl⟩
          case o14 => -- Op.slice 9 (Operand.tmp 139) none (some (Operand.tmp 140)) none  GUARD (8, 'true
            intro xv U hE hp
            have r8 : xv 8 = _ := hp.1
            have r12 : xv 12 = _ := hp.2.1
            have r13 : xv 13 = _ := hp.2.2.1
            clear hp
            simp only [putD, List.foldl_nil, List.foldl_cons, List.getD_cons_zero, List.getD_cons_succ, Act.put, List.setIfInBounds_toArray, List.set_cons_zero, List.set_cons_succ]
            refine OpGoal.yes (by simp [yieldD, r8]) ?_
            go_wp2_with fail
            exact ⟨rfl, Ext.refl _, rfl⟩
          case o15 => -- Op.binOp BinOp.eql 9 (Operand.tmp 138) (Operand.tmp 141) 9  GUARD (8, 'true')
            intro xv U hE hp
            have r8 : xv 8 = _ := hp.1
            have r11 : xv 11 = _ := hp.2.1
            have r14 : xv 14 = _ := hp.2.2.1
            clear hp
            simp only [putD, List.foldl_nil, List.foldl_cons, List.getD_cons_zero, List.getD_cons_succ, Act.put, List.setIfInBounds_toArray, List.set_cons_zero, List.set_cons_succ]
            refine OpGoal.yes (by simp [yieldD, r8]) ?_
            go_wp2_with fail
            exact ⟨rfl, Ext.refl _, rfl⟩
          case o16 => -- Op.move (Operand.tmp 8)  GUARD (8, 'true')
            intro xv U hE hp
            have r8 : xv 8 = _ := hp.1
            clear hp
            simp only [putD, List.foldl_nil, List.foldl_cons, List.getD_cons_zero, List.getD_cons_succ, Act.put, List.setIfInBounds_toArray, List.set_cons_zero, List.set_cons_succ]
            refine OpGoal.yes (by simp [yieldD, r8]) ?_
            go_wp2_with fail
            exact ⟨rfl, Ext.refl _, rfl⟩
          case o17 => -- Op.binOp BinOp.eql 4 (Operand.tmp 142) (Operand.tmp 143) 4  GUARD (8, 'true')
            intro xv U hE hp
            have r8 : xv 8 = _ := hp.1
            have r15 : xv 15 = _ := hp.2.1
            have r16 : xv 16 = _ := hp.2.2.1
            clear hp
            simp only [putD, List.foldl_nil, List.foldl_cons, List.getD_cons_zero, List.getD_cons_succ, Act.put, List.setIfInBounds_toArray, List.set_cons_zero, List.set_cons_succ]
            refine OpGoal.yes (by simp [yieldD, r8]) ?_
            go_wp2_with fail
            exact ⟨rfl, Ext.refl _, rfl⟩
          case o18 => -- Op.pick (Operand.tmp 135) (Operand.tmp 144) (Operand.const (Value.bool false))
            intro xv U hE hp
            have r8 : xv 8 = _ := hp.1
            have r17 : xv 17 = _ := hp.2.1
            clear hp
            simp only [putD, List.foldl_nil, List.foldl_cons, List.getD_cons_zero, List.getD_cons_succ, Act.put, List.setIfInBounds_toArray, List.set_cons_zero, List.set_cons_succ]
            refine OpGoal.plain ?_
            go_wp2_with fail
            exact ⟨rfl, Ext.refl _, rfl⟩
          case last =>
            intro xv U hE hp
            have r0 : xv 0 = _ := hp.1
            have r1 : xv 1 = _ := hp.2.1
            have r2 : xv 2 = _ := hp.2.2.1
            have r3 : xv 3 = _ := hp.2.2.2.1
            have r4 : xv 4 = _ := hp.2.2.2.2.1
            have r5 : xv 5 = _ := hp.2.2.2.2.2.1
            have r6 : xv 6 = _ := hp.2.2.2.2.2.2.1
            have r7 : xv 7 = _ := hp.2.2.2.2.2.2.2.1
            have r8 : xv 8 = _ := hp.2.2.2.2.2.2.2.2.1
            have r9 : xv 9 = _ := hp.2.2.2.2.2.2.2.2.2.1
            have r10 : xv 10 = _ := hp.2.2.2.2.2.2.2.2.2.2.1
            have r11 : xv 11 = _ := hp.2.2.2.2.2.2.2.2.2.2.2.1
            have r12 : xv 12 = _ := hp.2.2.2.2.2.2.2.2.2.2.2.2.1
            have r13 : xv 13 = _ := hp.2.2.2.2.2.2.2.2.2.2.2.2.2.1
            have r14 : xv 14 = _ := hp.2.2.2.2.2.2.2.2.2.2.2.2.2.2.1
            have r15 : xv 15 = _ := hp.2.2.2.2.2.2.2.2.2.2.2.2.2.2.2.1
            have r16 : xv 16 = _ := hp.2.2.2.2.2.2.2.2.2.2.2.2.2.2.2.2.1
            have r17 : xv 17 = _ := hp.2.2.2.2.2.2.2.2.2.2.2.2.2.2.2.2.2.1
            have r18 : xv 18 = _ := hp.2.2.2.2.2.2.2.2.2.2.2.2.2.2.2.2.2.2.1
            clear hp
            simp only [putD, List.foldl_nil, List.foldl_cons, List.getD_cons_zero, List.getD_cons_succ, Act.put, List.length_cons, List.length_nil, List.range_succ, List.range_zero, List.nil_append, List.cons_append, List.setIfInBounds_toArray, List.set_cons_zero, List.set_cons_succ]
            have hU : Ext w U := (hEV).trans ((Ext.drew _).trans hE)
            go_wp2_with fail
            go_ret
            exact ⟨rfl, hU⟩
      | false =>
        have tt : decide (cutL ta = cutL tb) = false := HE0.out
        have TT := Lib.hid tt
        clear tt
        go_wp2_with fail
        apply wp_region_seq (l := [_, _, _, _, _, _, _]) (t := [_]) [some 115, some 116, some 117, some 118, some 119, some 120, some 121, some 8] [[], [0], [1], [], [3], [4], [2, 5], [6]] [7, 7, 7, 7, 7, 7, 7] [eqv _, eqv _, (ownSPT W.heap.size (cutL ta)), eqv _, eqv _, (ownSPT W.heap.size (cutL tb)), (eqv (.bool false))] (by kernel_rfl) (by kernel_rfl) ⟨?o0, ?o1, ?o2, ?o3, ?o4, ?o5, ?o6, trivial⟩ ?last
        case o0 => -- Op.fieldAddr 45 (Operand.tmp 2) 4
          intro xv V hE _
          simp only [putD, List.foldl_nil, List.getD_cons_zero]
          refine OpGoal.plain ?_
          go_wp2_with fail
          exact ⟨rfl, Ext.refl _, rfl⟩
        case o1 => -- Op.load 23 (Operand.tmp 115)
          intro xv V hE hp
          have r0 : xv 0 = _ := hp.1
          clear hp
          have hWV := (Ext.drew W).trans hE
          have v0 := (hWV.old (p := ⟨ba, 4, none⟩) hblaW).trans ka4
          have v1 := (hWV.old (p := ⟨bb, 4, none⟩) hblbW).trans kb4
          simp only [putD, List.foldl_nil, List.foldl_cons, List.getD_cons_zero, List.getD_cons_succ, Act.put, List.setIfInBounds_toArray, List.set_cons_zero, List.set_cons_succ]
          refine OpGoal.plain ?_
          go_wp2_with fail
          exact ⟨rfl, Ext.refl _, rfl⟩
        case o2 => -- Op.call { callee := Callee.value (Operand.func 11), args := #[Operand.tmp 116], 
          intro xv V hE hp
          have r1 : xv 1 = _ := hp.1
          clear hp
          simp only [putD, List.foldl_nil, List.foldl_cons, List.getD_cons_zero, List.getD_cons_succ, Act.put, List.setIfInBounds_toArray, List.set_cons_zero, List.set_cons_succ]
          refine OpGoal.plain ?_
          go_wp2_with fail
          refine (cutl_any A4a m4a d4a ta V (hYWa.ext ((Ext.drew W).trans hE)) hm4a htsa).mono ?_
          rintro e' w' ⟨v, rfl, hO, hE2⟩
          go_wp2_with fail
          exact ⟨rfl, hE2, hO.base_ (by have := hE.sz; simp at this; omega)⟩
        case o3 => -- Op.fieldAddr 45 (Operand.tmp 3) 4
          intro xv V hE _
          simp only [putD, List.foldl_nil, List.getD_cons_zero, List.getD_cons_succ]
          refine OpGoal.plain ?_
          go_wp2_with fail
          exact ⟨rfl, Ext.refl _, rfl⟩
        case o4 => -- Op.load 23 (Operand.tmp 118)
          intro xv V hE hp
          have r3 : xv 3 = _ := hp.1
          clear hp
          have hWV := (Ext.drew W).trans hE
          have v0 := (hWV.old (p := ⟨ba, 4, none⟩) hblaW).trans ka4
          have v1 := (hWV.old (p := ⟨bb, 4, none⟩) hblbW).trans kb4
          simp only [putD, List.foldl_nil, List.foldl_cons, List.getD_cons_zero, List.getD_cons_succ, Act.put, List.setIfInBounds_toArray, List.set_cons_zero, List.set_cons_succ]
          refine OpGoal.plain ?_
          go_wp2_with fail
          exact ⟨rfl, Ext.refl _, rfl⟩
        case o5 => -- Op.call { callee := Callee.value (Operand.func 11), args := #[Operand.tmp 119], 
          intro xv V hE hp
          have r4 : xv 4 = _ := hp.1
          clear hp
          simp only [putD, List.foldl_nil, List.foldl_cons, List.getD_cons_zero, List.getD_cons_succ, Act.put, List.setIfInBounds_toArray, List.set_cons_zero, List.set_cons_succ]
          refine OpGoal.plain ?_
          go_wp2_with fail
          refine (cutl_any A4b m4b d4b tb V (hYWb.ext ((Ext.drew W).trans hE)) hm4b htsb).mono ?_
          rintro e' w' ⟨v, rfl, hO, hE2⟩
          go_wp2_with fail
          exact ⟨rfl, hE2, hO.base_ (by have := hE.sz; simp at this; omega)⟩
        case o6 => -- Op.call { callee := Callee.value (Operand.func 29), args := #[Operand.tmp 117, O
          intro xv V hE hp
          obtain r2 := hp.1
          obtain r5 := hp.2.1
          clear hp
          have r2' : OwnT V W.heap.size (xv 2) (cutL ta) := r2
          have r5' : OwnT V W.heap.size (xv 5) (cutL tb) := r5
          obtain ⟨Q2, d2, e2', hR2⟩ := r2'.form
          obtain ⟨Q5, d5, e5', hR5⟩ := r5'.form
          clear r2' r5' r2 r5
          simp only [putD, List.foldl_nil, List.foldl_cons, List.getD_cons_zero, List.getD_cons_succ, Act.put, List.setIfInBounds_toArray, List.set_cons_zero, List.set_cons_succ]
          refine OpGoal.plain ?_
          go_wp2_with fail
          refine (same_T Q2 Q5 _ _ d2 d5 (cutL ta) (cutL tb) V hR2 hR5 (by omega) (by omega)).mono ?_
          rintro e' w' ⟨rfl, hE2⟩
          rw [TT.out]
          go_wp2_with fail
          exact ⟨rfl, hE2, rfl⟩
        case last =>
          intro xv V hE hp
          have r0 : xv 0 = _ := hp.1
          have r1 : xv 1 = _ := hp.2.1
          obtain r2 := hp.2.2.1
          have r3 : xv 3 = _ := hp.2.2.2.1
          have r4 : xv 4 = _ := hp.2.2.2.2.1
          obtain r5 := hp.2.2.2.2.2.1
          have r6 : xv 6 = _ := hp.2.2.2.2.2.2.1
          clear hp
          simp only [putD, List.foldl_nil, List.foldl_cons, List.getD_cons_zero, List.getD_cons_succ, Act.put, List.length_cons, List.length_nil, List.range_succ, List.range_zero, List.nil_append, List.cons_append, List.setIfInBounds_toArray, List.set_cons_zero, List.set_cons_succ]
          have hEV := hEW.trans ((Ext.drew W).trans hE)
          go_wp2_with fail
          apply wp_region_seq (l := [_, _, _, _, _, _, _, _, _, _, _, _, _, _, _, _, _, _, _]) (t := [_]) [some 127, some 128, some 129, some 130, some 131, some 132, some 133, some 134, some 135, some 136, some 137, some 138, some 139, some 140, some 141, some 142, some 143, some 144, some 145, some 4] [[], [0], [1], [1], [1, 2, 3], [1], [1, 4, 5], [1, 6], [7], [8], [8], [8, 9, 10], [8], [8], [8, 12, 13], [8, 11, 14], [8], [8, 15, 16], [8, 17], [18]] [19, 19, 19, 19, 19, 19, 19, 19, 19, 19, 19, 19, 19, 19, 19, 19, 19, 19, 19] [eqv _, eqv _, eqv _, eqv _, eqv _, eqv _, eqv _, eqv _, eqv _, eqv _, eqv _, eqv _, eqv _, eqv _, eqv _, eqv _, eqv _, eqv _, eqv _] (by kernel_rfl) (by kernel_rfl) ⟨?o0, ?o1, ?o2, ?o3, ?o4, ?o5, ?o6, ?o7, ?o8, ?o9, ?o10, ?o11, ?o12, ?o13, ?o14, ?o15, ?o16, ?o17, ?o18, trivial⟩ ?last
          case o0 => -- Op.move (Operand.tmp 5)
            intro xv U hE _
            simp only [putD, List.foldl_nil, List.getD_cons_zero]
            refine OpGoal.plain ?_
            go_wp2_with fail
            exact ⟨rfl, Ext.refl _, rfl⟩
          case o1 => -- Op.move (Operand.tmp 127)
            intro xv U hE hp
            have r0 : xv 0 = _ := hp.1
            clear hp
            simp only [putD, List.foldl_nil, List.foldl_cons, List.getD_cons_zero, List.getD_cons_succ, Act.put, List.setIfInBounds_toArray, List.set_cons_zero, List.set_cons_succ]
            refine OpGoal.plain ?_
            go_wp2_with fail
            exact ⟨rfl, Ext.refl _, rfl⟩
          case o2 => -- Op.move (Operand.tmp 6)  GUARD (1, 'true')
            intro xv U hE hp
            have r1 : xv 1 = _ := hp.1
            clear hp
            simp only [putD, List.foldl_nil, List.foldl_cons, List.getD_cons_zero, List.getD_cons_succ, Act.put, List.setIfInBounds_toArray, List.set_cons_zero, List.set_cons_succ]
            refine OpGoal.yes (by simp [yieldD, r1]) ?_
            go_wp2_with fail
            exact ⟨rfl, Ext.refl _, rfl⟩
          case o3 => -- Op.move (Operand.tmp 7)  GUARD (1, 'true')
            intro xv U hE hp
            have r1 : xv 1 = _ := hp.1
            clear hp
            simp only [putD, List.foldl_nil, List.foldl_cons, List.getD_cons_zero, List.getD_cons_succ, Act.put, List.setIfInBounds_toArray, List.set_cons_zero, List.set_cons_succ]
            refine OpGoal.yes (by simp [yieldD, r1]) ?_
            go_wp2_with fail
            exact ⟨rfl, Ext.refl _, rfl⟩
          case o4 => -- Op.binOp BinOp.eql 9 (Operand.tmp 129) (Operand.tmp 130) 9  GUARD (1, 'true')
            intro xv U hE hp
            have r1 : xv 1 = _ := hp.1
            have r2 : xv 2 = _ := hp.2.1
            have r3 : xv 3 = _ := hp.2.2.1
            clear hp
            simp only [putD, List.foldl_nil, List.foldl_cons, List.getD_cons_zero, List.getD_cons_succ, Act.put, List.setIfInBounds_toArray, List.set_cons_zero, List.set_cons_succ]
            refine OpGoal.yes (by simp [yieldD, r1]) ?_
            go_wp2_with fail
            exact ⟨rfl, Ext.refl _, rfl⟩
          case o5 => -- Op.move (Operand.tmp 8)  GUARD (1, 'true')
            intro xv U hE hp
            have r1 : xv 1 = _ := hp.1
            clear hp
            simp only [putD, List.foldl_nil, List.foldl_cons, List.getD_cons_zero, List.getD_cons_succ, Act.put, List.setIfInBounds_toArray, List.set_cons_zero, List.set_cons_succ]
            refine OpGoal.yes (by simp [yieldD, r1]) ?_
            go_wp2_with fail
            exact ⟨rfl, Ext.refl _, rfl⟩
          case o6 => -- Op.binOp BinOp.eql 4 (Operand.tmp 131) (Operand.tmp 132) 4  GUARD (1, 'true')
            intro xv U hE hp
            have r1 : xv 1 = _ := hp.1
            have r4 : xv 4 = _ := hp.2.1
            have r5 : xv 5 = _ := hp.2.2.1
            clear hp
            simp only [putD, List.foldl_nil, List.foldl_cons, List.getD_cons_zero, List.getD_cons_succ, Act.put, List.setIfInBounds_toArray, List.set_cons_zero, List.set_cons_succ]
            refine OpGoal.yes (by simp [yieldD, r1]) ?_
            go_wp2_with fail
            exact ⟨rfl, Ext.refl _, rfl⟩
          case o7 => -- Op.pick (Operand.tmp 128) (Operand.tmp 133) (Operand.const (Value.bool false))
            intro xv U hE hp
            have r1 : xv 1 = _ := hp.1
            have r6 : xv 6 = _ := hp.2.1
            clear hp
            simp only [putD, List.foldl_nil, List.foldl_cons, List.getD_cons_zero, List.getD_cons_succ, Act.put, List.setIfInBounds_toArray, List.set_cons_zero, List.set_cons_succ]
            refine OpGoal.plain ?_
            go_wp2_with fail
            exact ⟨rfl, Ext.refl _, rfl⟩
          case o8 => -- Op.move (Operand.tmp 134)
            intro xv U hE hp
            have r7 : xv 7 = _ := hp.1
            clear hp
            simp only [putD, List.foldl_nil, List.foldl_cons, List.getD_cons_zero, List.getD_cons_succ, Act.put, List.setIfInBounds_toArray, List.set_cons_zero, List.set_cons_succ]
            refine OpGoal.plain ?_
            go_wp2_with fail
            exact ⟨rfl, Ext.refl _, rfl⟩
          case o9 => -- Op.move (Operand.tmp 6)  GUARD (8, 'true')
            intro xv U hE hp
            have r8 : xv 8 = _ := hp.1
            clear hp
            simp only [putD, List.foldl_nil, List.foldl_cons, List.getD_cons_zero, List.getD_cons_succ, Act.put, List.setIfInBounds_toArray, List.set_cons_zero, List.set_cons_succ]
            refine OpGoal.yes (by simp [yieldD, r8]) ?_
            go_wp2_with fail
            exact ⟨rfl, Ext.refl _, rfl⟩
          case o10 => -- Op.move (Operand.tmp 9)  GUARD (8, 'true')
            intro xv U hE hp
            have r8 : xv 8 = _ := hp.1
            clear hp
            simp only [putD, List.foldl_nil, List.foldl_cons, List.getD_cons_zero, List.getD_cons_succ, Act.put, List.setIfInBounds_toArray, List.set_cons_zero, List.set_cons_succ]
            refine OpGoal.yes (by simp [yieldD, r8]) ?_
            go_wp2_with fail
            exact ⟨rfl, Ext.refl _, rfl⟩
          case o11 => -- Op.slice 9 (Operand.tmp 136) none (some (Operand.tmp 137)) none  GUARD (8, 'true
            intro xv U hE hp
            have r8 : xv 8 = _ := hp.1
            have r9 : xv 9 = _ := hp.2.1
            have r10 : xv 10 = _ := hp.2.2.1
            clear hp
            simp only [putD, List.foldl_nil, List.foldl_cons, List.getD_cons_zero, List.getD_cons_succ, Act.put, List.setIfInBounds_toArray, List.set_cons_zero, List.set_cons_succ]
            refine OpGoal.yes (by simp [yieldD, r8]) ?_
            go_wp2_with fail
            exact ⟨rfl, Ext.refl _, rfl⟩
          case o12 => -- Op.move (Operand.tmp 7)  GUARD (8, 'true')
            intro xv U hE hp
            have r8 : xv 8 = _ := hp.1
            clear hp
            simp only [putD, List.foldl_nil, List.foldl_cons, List.getD_cons_zero, List.getD_cons_succ, Act.put, List.setIfInBounds_toArray, List.set_cons_zero, List.set_cons_succ]
            refine OpGoal.yes (by simp [yieldD, r8]) ?_
            go_wp2_with fail
            exact ⟨rfl, Ext.refl _, rfl⟩
          case o13 => -- Op.move (Operand.tmp 9)  GUARD (8, 'true')
            intro xv U hE hp
            have r8 : xv 8 = _ := hp.1
            clear hp
            simp only [putD, List.foldl_nil, List.foldl_cons, List.getD_cons_zero, List.getD_cons_succ, Act.put, List.setIfInBounds_toArray, List.set_cons_zero, List.set_cons_succ]
            refine OpGoal.yes (by simp [yieldD, r8]) ?_
            go_wp2_with fail
            exact ⟨rfl, Ext.refl _, rfl⟩
          case o14 => -- Op.slice 9 (Operand.tmp 139) none (some (Operand.tmp 140)) none  GUARD (8, 'true
            intro xv U hE hp
            have r8 : xv 8 = _ := hp.1
            have r12 : xv 12 = _ := hp.2.1
            have r13 : xv 13 = _ := hp.2.2.1
            clear hp
            simp only [putD, List.foldl_nil, List.foldl_cons, List.getD_cons_zero, List.getD_cons_succ, Act.put, List.setIfInBounds_toArray, List.set_cons_zero, List.set_cons_succ]
            refine OpGoal.yes (by simp [yieldD, r8]) ?_
            go_wp2_with fail
            exact ⟨rfl, Ext.refl _, rfl⟩
          case o15 => -- Op.binOp BinOp.eql 9 (Operand.tmp 138) (Operand.tmp 141) 9  GUARD (8, 'true')
            intro xv U hE hp
            have r8 : xv 8 = _ := hp.1
            have r11 : xv 11 = _ := hp.2.1
            have r14 : xv 14 = _ := hp.2.2.1
            clear hp
            simp only [putD, List.foldl_nil, List.foldl_cons, List.getD_cons_zero, List.getD_cons_succ, Act.put, List.setIfInBounds_toArray, List.set_cons_zero, List.set_cons_succ]
            refine OpGoal.yes (by simp [yieldD, r8]) ?_
            go_wp2_with fail
            exact ⟨rfl, Ext.refl _, rfl⟩
          case o16 => -- Op.move (Operand.tmp 8)  GUARD (8, 'true')
            intro xv U hE hp
            have r8 : xv 8 = _ := hp.1
            clear hp
            simp only [putD, List.foldl_nil, List.foldl_cons, List.getD_cons_zero, List.getD_cons_succ, Act.put, List.setIfInBounds_toArray, List.set_cons_zero, List.set_cons_succ]
            refine OpGoal.yes (by simp [yieldD, r8]) ?_
            go_wp2_with fail
            exact ⟨rfl, Ext.refl _, rfl⟩
          case o17 => -- Op.binOp BinOp.eql 4 (Operand.tmp 142) (Operand.tmp 143) 4  GUARD (8, 'true')
            intro xv U hE hp
            have r8 : xv 8 = _ := hp.1
            have r15 : xv 15 = _ := hp.2.1
            have r16 : xv 16 = _ := hp.2.2.1
            clear hp
            simp only [putD, List.foldl_nil, List.foldl_cons, List.getD_cons_zero, List.getD_cons_succ, Act.put, List.setIfInBounds_toArray, List.set_cons_zero, List.set_cons_succ]
            refine OpGoal.yes (by simp [yieldD, r8]) ?_
            go_wp2_with fail
            exact ⟨rfl, Ext.refl _, rfl⟩
          case o18 => -- Op.pick (Operand.tmp 135) (Operand.tmp 144) (Operand.const (Value.bool false))
            intro xv U hE hp
            have r8 : xv 8 = _ := hp.1
            have r17 : xv 17 = _ := hp.2.1
            clear hp
            simp only [putD, List.foldl_nil, List.foldl_cons, List.getD_cons_zero, List.getD_cons_succ, Act.put, List.setIfInBounds_toArray, List.set_cons_zero, List.set_cons_succ]
            refine OpGoal.plain ?_
            go_wp2_with fail
            exact ⟨rfl, Ext.refl _, rfl⟩
          case last =>
            intro xv U hE hp
            have r0 : xv 0 = _ := hp.1
            have r1 : xv 1 = _ := hp.2.1
            have r2 : xv 2 = _ := hp.2.2.1
            have r3 : xv 3 = _ := hp.2.2.2.1
            have r4 : xv 4 = _ := hp.2.2.2.2.1
            have r5 : xv 5 = _ := hp.2.2.2.2.2.1
            have r6 : xv 6 = _ := hp.2.2.2.2.2.2.1
            have r7 : xv 7 = _ := hp.2.2.2.2.2.2.2.1
            have r8 : xv 8 = _ := hp.2.2.2.2.2.2.2.2.1
            have r9 : xv 9 = _ := hp.2.2.2.2.2.2.2.2.2.1
            have r10 : xv 10 = _ := hp.2.2.2.2.2.2.2.2.2.2.1
            have r11 : xv 11 = _ := hp.2.2.2.2.2.2.2.2.2.2.2.1
            have r12 : xv 12 = _ := hp.2.2.2.2.2.2.2.2.2.2.2.2.1
            have r13 : xv 13 = _ := hp.2.2.2.2.2.2.2.2.2.2.2.2.2.1
            have r14 : xv 14 = _ := hp.2.2.2.2.2.2.2.2.2.2.2.2.2.2.1
            have r15 : xv 15 = _ := hp.2.2.2.2.2.2.2.2.2.2.2.2.2.2.2.1
            have r16 : xv 16 = _ := hp.2.2.2.2.2.2.2.2.2.2.2.2.2.2.2.2.1
            have r17 : xv 17 = _ := hp.2.2.2.2.2.2.2.2.2.2.2.2.2.2.2.2.2.1
            have r18 : xv 18 = _ := hp.2.2.2.2.2.2.2.2.2.2.2.2.2.2.2.2.2.2.1
            clear hp
            simp only [putD, List.foldl_nil, List.foldl_cons, List.getD_cons_zero, List.getD_cons_succ, Act.put, List.length_cons, List.length_nil, List.range_succ, List.range_zero, List.nil_append, List.cons_append, List.setIfInBounds_toArray, List.set_cons_zero, List.set_cons_succ]
            have hU : Ext w U := (hEV).trans ((Ext.drew _).trans hE)
            go_wp2_with fail
            go_ret
            exact ⟨rfl, hU⟩
end Go.Proofs.YthdbdpfgccipdaaDoor
