/- The law ExprReads: its walk. -/
import Derived.Test.YtggkkjnfonbpkaaGreatDoorQXk
import Derived.Test.YtggkkjnfonbpkaaGreatDoorQId
import Derived.Test.YtggkkjnfonbpkaaGreatDoorQHi
import Derived.Test.YtggkkjnfonbpkaaGreatDoorQXm

set_option linter.unusedSimpArgs false
set_option linter.unusedVariables false
namespace Go.Proofs.YtggkkjnfonbpkaaGreatDoor
open Go.RowKit Hach

theorem apply_any (a c : Nat) (i s : List UInt8) (w : World) (ha : a < 65536) (hc : c < 256) (hi : i.length < 9223372036854775808) (hs : s.length < 100000) :
    Calls Tryz.prog 19 #[.agg #[.int .u16 (a : Nat), .int .u8 (c : Nat), .string ⟨i.toArray⟩], .string ⟨s.toArray⟩] w fun e w' => ∃ x : List UInt8, e = .returned (.string ⟨x.toArray⟩) ∧ x.length ≤ s.length + 20 ∧ Ext w w' := by
  have hsv := toArr_size s
  have hiv := toArr_size i
  obtain ⟨sv, hsve⟩ : ∃ sv : ByteArray, (⟨s.toArray⟩ : ByteArray) = sv := ⟨_, rfl⟩
  obtain ⟨iv, hive⟩ : ∃ iv : ByteArray, (⟨i.toArray⟩ : ByteArray) = iv := ⟨_, rfl⟩
  rw [hsve] at hsv ⊢
  rw [hive] at hiv ⊢
  have hsz : sv.size < 100000 := by omega
  have hiz : iv.size < 9223372036854775808 := by omega
  have HS := Lib.hid hsv
  clear hsve hive hsv hiv hs hi
  obtain ⟨k, hk⟩ : ∃ k, a % (sv.size + 1) = k := ⟨_, rfl⟩
  have hks : k ≤ sv.size := by have := Nat.mod_lt a (show 0 < sv.size + 1 by omega); omega
  have hkk : (a : Int) % ((sv.size : Int) + 1) = k := by rw [← hk]; rfl
  have hkt : (a : Int).tmod ((sv.size : Int) + 1) = k := by rw [← hk]; rfl
  clear hk
  have key : ∀ (x1 x2 x3 : ByteArray) (r : Nat), x1.size ≤ sv.size → x2.size ≤ 20 → x1.size + x3.size ≤ sv.size → ∃ x : List UInt8, (x1 ++ x2) ++ x3 = ⟨x.toArray⟩ ∧ x.length ≤ s.length + 20 := by
    intro x1 x2 x3 r h1 h2 h3
    refine ⟨((x1 ++ x2) ++ x3).data.toList, by rw [Array.toArray_toList], ?_⟩
    have e : ((x1 ++ x2) ++ x3).data.toList.length = ((x1 ++ x2) ++ x3).size := by rw [Array.length_toList]; rfl
    rw [e, ByteArray.size_append, ByteArray.size_append]
    have := HS.out
    omega
  have KEY := Lib.hid key
  clear key
  go_enter Tryz.func19, Tryz.ntmps19
  go_wp2_with fail
  go_quiet (fail)
  go_wp2_with fail
  go_ret
  obtain ⟨x, e, hx⟩ := KEY.out (sv.extract 0 k) (iv.extract 0 (min (iv.size : Int) 20).toNat) (sv.extract (min (sv.size : Int) ((k : Int) + (c : Int) % 5)).toNat sv.size) 0 (by rw [ByteArray.size_extract]; omega) (by rw [ByteArray.size_extract]; omega) (by rw [ByteArray.size_extract, ByteArray.size_extract]; omega)
  exact ⟨x, by rw [← e]; rfl, hx, (Ext.alloc _ _).trans (ext_drewN _ _)⟩
/- a text of at most so many bytes -/
def txtUp (N : Nat) : SP := ⟨fun v _ => ∃ x : List UInt8, v = .string ⟨x.toArray⟩ ∧ x.length ≤ N, fun h _ => h⟩
def slUp (n N : Nat) : SP := ⟨fun v W => ∃ g cap, v = .slice (some ⟨g, 0, none⟩) n cap ∧ g < W.heap.size ∧ ∀ j, j < n → ∃ x : List UInt8, W.cell? ⟨g, j, none⟩ = some (.string ⟨x.toArray⟩) ∧ x.length ≤ N, fun h hE => by
  obtain ⟨g, cap, e, hg, hc⟩ := h
  exact ⟨g, cap, e, Nat.lt_of_lt_of_le hg hE.sz, fun j hj => by
    obtain ⟨x, hx, hN⟩ := hc j hj
    exact ⟨x, (hE.old (p := ⟨g, j, none⟩) hg).trans hx, hN⟩⟩⟩
theorem txt_of (b : ByteArray) (N : Nat) (h : b.size ≤ N) : ∃ x : List UInt8, Value.string b = .string ⟨x.toArray⟩ ∧ x.length ≤ N :=
  ⟨b.data.toList, by cases b; simp, by rw [Array.length_toList]; exact h⟩
theorem parse_small {s : List UInt8} (hs : s.length < 4096) : (parseE s).1.ok ∧ (parseE s).1.size < 1099511627776 := by
  unfold parseE
  rw [if_neg (by omega)]
  cases hr : readT s with
  | none => exact ⟨⟨by decide, by decide, by decide, by decide, by decide, trivial⟩, by decide⟩
  | some e =>
    simp only
    obtain ⟨h1, h2⟩ := readT_ok hr (by omega)
    by_cases hc : chkE e = 0
    · rw [if_pos hc]; exact ⟨h1, by simp only; omega⟩
    · rw [if_neg hc]; exact ⟨⟨by decide, by decide, by decide, by decide, by decide, trivial⟩, by show zeroE.size < _; decide⟩
set_option maxRecDepth 100000 in
set_option maxHeartbeats 8000000 in
theorem ExprReads_any (A : Option Addr) (n c a1 c1 a2 c2 : Nat) (i1 i2 raw : List UInt8) (w : World) (hT : Tabs w) (hL : LI w A n)
    (ha1 : a1 < 65536) (hc1 : c1 < 256) (hi1 : i1.length < 9223372036854775808) (ha2 : a2 < 65536) (hc2 : c2 < 256) (hi2 : i2.length < 9223372036854775808) (hraw : raw.length < 9223372036854775808) :
    Calls Tryz.prog 4 #[.slice A n c, .agg #[.int .u16 (a1 : Nat), .int .u8 (c1 : Nat), .string ⟨i1.toArray⟩, .int .u16 (a2 : Nat), .int .u8 (c2 : Nat), .string ⟨i2.toArray⟩], .string ⟨raw.toArray⟩] w fun e w' => e = .returned (.bool true) ∧ Ext w w' := by
  obtain ⟨w0, hw0⟩ : ∃ w0, w.alloc (.cells #[.int .u16 (a1 : Nat), .int .u8 (c1 : Nat), .string ⟨i1.toArray⟩, .int .u16 (a2 : Nat), .int .u8 (c2 : Nat), .string ⟨i2.toArray⟩] 49) = w0 := ⟨_, rfl⟩
  have hE0 : Ext w w0 := by rw [← hw0]; exact Ext.alloc _ _
  have hz0 : w.heap.size < w0.heap.size := by rw [← hw0]; simp
  have p0 : w0.cell? ⟨w.heap.size, 0, none⟩ = some (.int .u16 (a1 : Nat)) := by rw [← hw0, World.cell?_alloc_new]; rfl
  have p1 : w0.cell? ⟨w.heap.size, 1, none⟩ = some (.int .u8 (c1 : Nat)) := by rw [← hw0, World.cell?_alloc_new]; rfl
  have p2 : w0.cell? ⟨w.heap.size, 2, none⟩ = some (.string ⟨i1.toArray⟩) := by rw [← hw0, World.cell?_alloc_new]; rfl
  have p3 : w0.cell? ⟨w.heap.size, 3, none⟩ = some (.int .u16 (a2 : Nat)) := by rw [← hw0, World.cell?_alloc_new]; rfl
  have p4 : w0.cell? ⟨w.heap.size, 4, none⟩ = some (.int .u8 (c2 : Nat)) := by rw [← hw0, World.cell?_alloc_new]; rfl
  have p5 : w0.cell? ⟨w.heap.size, 5, none⟩ = some (.string ⟨i2.toArray⟩) := by rw [← hw0, World.cell?_alloc_new]; rfl
  have HI1 := Lib.hid hi1
  have HI2 := Lib.hid hi2
  obtain ⟨iv1, hiv1⟩ : ∃ v : ByteArray, (⟨i1.toArray⟩ : ByteArray) = v := ⟨_, rfl⟩
  obtain ⟨iv2, hiv2⟩ : ∃ v : ByteArray, (⟨i2.toArray⟩ : ByteArray) = v := ⟨_, rfl⟩
  have hrv := toArr_size raw
  obtain ⟨rv, hrve⟩ : ∃ v : ByteArray, (⟨raw.toArray⟩ : ByteArray) = v := ⟨_, rfl⟩
  rw [hrve] at hrv ⊢
  have hrs : rv.size < 9223372036854775808 := by omega
  rw [hiv1] at p2 hw0 ⊢
  rw [hiv2] at p5 hw0 ⊢
  have HV1 := Lib.hid hiv1
  have HV2 := Lib.hid hiv2
  have hT0 := hT.ext hE0
  have HL := Lib.hid (hL.ext hE0)
  clear hiv1 hiv2 hrve hrv hi1 hi2 hraw hL
  go_enter Tryz.func4, Tryz.ntmps4
  go_wp2_with fail
  clear hw0
  refine (sanity_any w0 hT0).mono ?_
  rintro e w1 ⟨rfl, hE1⟩
  go_wp2_with fail
  refine (expr_any A n c w1 (HL.out.ext hE1)).mono ?_
  rintro e w2 ⟨x, t, A', c', d, hR, hS, rfl, hX, hE2⟩
  have htx : txT x = x.text := by unfold txT; rw [if_pos (chk_of hR (by omega)).2]
  have hTl : x.text.length ≤ 26 * x.size := text_len26 hR
  have RT := Lib.hid (rTextC_any x d A' c' w2 (hX.more fun k hk => hk.2) (by omega) (rt_ok hR))
  rw [htx] at RT
  obtain ⟨T, hTT⟩ : ∃ T, x.text = T := ⟨_, rfl⟩
  rw [hTT] at RT hTl
  have hT12 : T.length ≤ 1196 := by omega
  clear htx hTT hTl hR hX
  unfold Ex.cells at RT ⊢
  go_wp2_with fail
  refine RT.out.mono ?_
  rintro e w3 ⟨rfl, hE3⟩
  have hE13 := (hE1.trans hE2).trans hE3
  unfold sv
  have hTv := toArr_size T
  obtain ⟨tv, htv⟩ : ∃ v : ByteArray, (⟨T.toArray⟩ : ByteArray) = v := ⟨_, rfl⟩
  have hts : tv.size ≤ 1196 := by rw [← htv]; omega
  rw [htv]
  have HTV := Lib.hid htv
  clear htv hTv RT hE1 hE2 hE3
  have b0 : w.heap.size < w3.heap.size := by have := hE13.sz; omega
  have z0 := (hE13.old (p := ⟨w.heap.size, 0, none⟩) hz0).trans p0
  have z1 := (hE13.old (p := ⟨w.heap.size, 1, none⟩) hz0).trans p1
  have z2 := (hE13.old (p := ⟨w.heap.size, 2, none⟩) hz0).trans p2
  have HAP := fun (s : List UInt8) (W : World) (h : s.length < 100000) => apply_any a1 c1 i1 s W ha1 hc1 HI1.out h
  rw [HV1.out] at HAP
  have HHAP := Lib.hid (HAP T w3 (by omega))
  rw [HTV.out] at HHAP
  clear HAP
  go_wp2_with fail
  refine HHAP.out.mono ?_
  rintro e w4 ⟨x1, rfl, hx1, hE4⟩
  have hE04 := hE13.trans hE4
  have y3 := (hE04.old (p := ⟨w.heap.size, 3, none⟩) hz0).trans p3
  have y4 := (hE04.old (p := ⟨w.heap.size, 4, none⟩) hz0).trans p4
  have y5 := (hE04.old (p := ⟨w.heap.size, 5, none⟩) hz0).trans p5
  have hlw : w.heap.size < w4.heap.size := by have := hE04.sz; omega
  have hT4 := hT0.ext hE04
  have HAP := fun (W : World) => apply_any a2 c2 i2 x1 W ha2 hc2 HI2.out (by omega)
  rw [HV2.out] at HAP
  have hxz := toArr_size x1
  obtain ⟨xv1, hxv1⟩ : ∃ v : ByteArray, (⟨x1.toArray⟩ : ByteArray) = v := ⟨_, rfl⟩
  rw [hxv1] at HAP hxz ⊢
  have hxs : xv1.size ≤ 1216 := by omega
  have HXV1 := Lib.hid hxv1
  have HHAP2 := Lib.hid HAP
  clear HAP hxv1 hxz HHAP z0 z1 z2 hE13
  go_wp2_with fail
  apply wp_region_seq (l := [_, _, _, _, _, _, _, _, _, _, _, _, _, _]) (t := []) [some 28, some 29, some 30, some 31, some 32, some 33, some 34, some 35, some 36, some 37, some 38, some 39, some 40, some 41] [[], [], [], [2], [], [3, 4], [], [], [7], [8], [6, 9], [0, 1, 5, 10], [11], []] [] [eqv _, eqv _, eqv _, eqv _, eqv _, (txtUp 1236), eqv _, eqv _, eqv _, eqv _, (txtUp 100), (slUp 4 1300), eqv _, eqv _] (by kernel_rfl) (by kernel_rfl) ⟨?o0, ?o1, ?o2, ?o3, ?o4, ?o5, ?o6, ?o7, ?o8, ?o9, ?o10, ?o11, ?o12, ?o13, trivial⟩ ?last
  case o0 => -- Op.move (Operand.tmp 8)
    intro xv W hE _
    simp only [putD, List.foldl_nil, List.getD_cons_zero]
    refine OpGoal.plain ?_
    go_wp2_with fail
    exact ⟨rfl, Ext.refl _, rfl⟩
  case o1 => -- Op.move (Operand.tmp 10)
    intro xv W hE _
    simp only [putD, List.foldl_nil, List.getD_cons_zero, List.getD_cons_succ]
    refine OpGoal.plain ?_
    go_wp2_with fail
    exact ⟨rfl, Ext.refl _, rfl⟩
  case o2 => -- Op.indexAddr 49 (Operand.tmp 4) (Operand.const (Value.int IntKind.i64 1))
    intro xv W hE _
    simp only [putD, List.foldl_nil, List.getD_cons_zero, List.getD_cons_succ]
    refine OpGoal.plain ?_
    go_wp2_with fail
    exact ⟨rfl, Ext.refl _, rfl⟩
  case o3 => -- Op.load 48 (Operand.tmp 30)
    intro xv W hE hp
    have r2 : xv 2 = _ := hp.1
    clear hp
    have d3 : W.cell? ⟨w.heap.size, 3, none⟩ = some (.int .u16 (a2 : Nat)) := (hE.old (p := ⟨w.heap.size, 3, none⟩) hlw).trans y3
    have d4 : W.cell? ⟨w.heap.size, 4, none⟩ = some (.int .u8 (c2 : Nat)) := (hE.old (p := ⟨w.heap.size, 4, none⟩) hlw).trans y4
    have d5 : W.cell? ⟨w.heap.size, 5, none⟩ = some (.string iv2) := (hE.old (p := ⟨w.heap.size, 5, none⟩) hlw).trans y5
    simp only [putD, List.foldl_nil, List.foldl_cons, List.getD_cons_zero, List.getD_cons_succ, Act.put, List.setIfInBounds_toArray, List.set_cons_zero, List.set_cons_succ]
    refine OpGoal.plain ?_
    go_wp2_with fail
    exact ⟨rfl, Ext.refl _, rfl⟩
  case o4 => -- Op.move (Operand.tmp 10)
    intro xv W hE _
    simp only [putD, List.foldl_nil, List.getD_cons_zero, List.getD_cons_succ]
    refine OpGoal.plain ?_
    go_wp2_with fail
    exact ⟨rfl, Ext.refl _, rfl⟩
  case o5 => -- Op.call { callee := Callee.value (Operand.func 19), args := #[Operand.tmp 31, Op
    intro xv W hE hp
    have r3 : xv 3 = _ := hp.1
    have r4 : xv 4 = _ := hp.2.1
    clear hp
    simp only [putD, List.foldl_nil, List.foldl_cons, List.getD_cons_zero, List.getD_cons_succ, Act.put, List.setIfInBounds_toArray, List.set_cons_zero, List.set_cons_succ]
    refine OpGoal.plain ?_
    go_wp2_with fail
    refine (HHAP2.out W).mono ?_
    rintro e w' ⟨x2, rfl, hx2, hEt⟩
    go_wp2_with fail
    exact ⟨rfl, hEt, x2, rfl, by omega⟩
  case o6 => -- Op.move (Operand.tmp 2)
    intro xv W hE _
    simp only [putD, List.foldl_nil, List.getD_cons_zero, List.getD_cons_succ]
    refine OpGoal.plain ?_
    go_wp2_with fail
    exact ⟨rfl, Ext.refl _, rfl⟩
  case o7 => -- Op.move (Operand.tmp 2)
    intro xv W hE _
    simp only [putD, List.foldl_nil, List.getD_cons_zero, List.getD_cons_succ]
    refine OpGoal.plain ?_
    go_wp2_with fail
    exact ⟨rfl, Ext.refl _, rfl⟩
  case o8 => -- Op.call { callee := Callee.builtin Builtin.len, args := #[Operand.tmp 35], argTy
    intro xv W hE hp
    have r7 : xv 7 = _ := hp.1
    clear hp
    simp only [putD, List.foldl_nil, List.foldl_cons, List.getD_cons_zero, List.getD_cons_succ, Act.put, List.setIfInBounds_toArray, List.set_cons_zero, List.set_cons_succ]
    refine OpGoal.plain ?_
    go_wp2_with fail
    exact ⟨rfl, Ext.refl _, rfl⟩
  case o9 => -- Op.call { callee := Callee.builtin Builtin.min, args := #[Operand.tmp 36, Operan
    intro xv W hE hp
    have r8 : xv 8 = _ := hp.1
    clear hp
    simp only [putD, List.foldl_nil, List.foldl_cons, List.getD_cons_zero, List.getD_cons_succ, Act.put, List.setIfInBounds_toArray, List.set_cons_zero, List.set_cons_succ]
    refine OpGoal.plain ?_
    go_wp2_with fail
    exact ⟨rfl, Ext.refl _, rfl⟩
  case o10 => -- Op.slice 9 (Operand.tmp 34) none (some (Operand.tmp 37)) none
    intro xv W hE hp
    have r6 : xv 6 = _ := hp.1
    have r9 : xv 9 = _ := hp.2.1
    clear hp
    simp only [putD, List.foldl_nil, List.foldl_cons, List.getD_cons_zero, List.getD_cons_succ, Act.put, List.setIfInBounds_toArray, List.set_cons_zero, List.set_cons_succ]
    refine OpGoal.plain ?_
    go_wp2_with fail
    exact ⟨rfl, Ext.refl _, txt_of _ 100 (by rw [ByteArray.size_extract]; omega)⟩
  case o11 => -- Op.buildSlice 53 4 #[(0, Operand.tmp 28), (1, Operand.tmp 29), (2, Operand.tmp 3
    intro xv W hE hp
    have r0 : xv 0 = _ := hp.1
    have r1 : xv 1 = _ := hp.2.1
    obtain ⟨x2, r5, hx2⟩ := hp.2.2.1
    obtain ⟨x3, r10, hx3⟩ := hp.2.2.2.1
    clear hp
    simp only [putD, List.foldl_nil, List.foldl_cons, List.getD_cons_zero, List.getD_cons_succ, Act.put, List.setIfInBounds_toArray, List.set_cons_zero, List.set_cons_succ]
    refine OpGoal.plain ?_
    go_wp2_with fail
    have c0 : ∃ x : List UInt8, Value.string tv = .string ⟨x.toArray⟩ ∧ x.length ≤ 1300 := ⟨T, by rw [HTV.out], by omega⟩
    have c1 : ∃ x : List UInt8, Value.string xv1 = .string ⟨x.toArray⟩ ∧ x.length ≤ 1300 := ⟨x1, by rw [HXV1.out], by omega⟩
    refine ⟨rfl, Ext.alloc _ _, W.heap.size, 4, rfl, by simp, fun j hj => ?_⟩
    rw [World.cell?_alloc_new]
    match j, hj with
    | 0, _ => obtain ⟨x, e, h⟩ := c0; exact ⟨x, by rw [← e]; rfl, h⟩
    | 1, _ => obtain ⟨x, e, h⟩ := c1; exact ⟨x, by rw [← e]; rfl, h⟩
    | 2, _ => exact ⟨x2, rfl, by omega⟩
    | 3, _ => exact ⟨x3, rfl, by omega⟩
  case o12 => -- Op.call { callee := Callee.builtin Builtin.len, args := #[Operand.tmp 39], argTy
    intro xv W hE hp
    obtain ⟨gs, cs, r11, hgs, hcs⟩ := hp.1
    clear hp
    simp only [putD, List.foldl_nil, List.foldl_cons, List.getD_cons_zero, List.getD_cons_succ, Act.put, List.setIfInBounds_toArray, List.set_cons_zero, List.set_cons_succ]
    refine OpGoal.plain ?_
    go_wp2_with fail
    exact ⟨rfl, Ext.refl _, rfl⟩
  case o13 => -- Op.move (Operand.const (Value.int IntKind.i64 0))
    intro xv W hE _
    simp only [putD, List.foldl_nil, List.getD_cons_zero, List.getD_cons_succ]
    refine OpGoal.plain ?_
    go_wp2_with fail
    exact ⟨rfl, Ext.refl _, rfl⟩
  case last =>
    intro xv W hE hp
    have r0 : xv 0 = _ := hp.1
    have r1 : xv 1 = _ := hp.2.1
    have r2 : xv 2 = _ := hp.2.2.1
    have r3 : xv 3 = _ := hp.2.2.2.1
    have r4 : xv 4 = _ := hp.2.2.2.2.1
    obtain ⟨x2, r5, hx2⟩ := hp.2.2.2.2.2.1
    have r6 : xv 6 = _ := hp.2.2.2.2.2.2.1
    have r7 : xv 7 = _ := hp.2.2.2.2.2.2.2.1
    have r8 : xv 8 = _ := hp.2.2.2.2.2.2.2.2.1
    have r9 : xv 9 = _ := hp.2.2.2.2.2.2.2.2.2.1
    obtain ⟨x3, r10, hx3⟩ := hp.2.2.2.2.2.2.2.2.2.2.1
    obtain ⟨gs, cs, r11, hgs, hcs⟩ := hp.2.2.2.2.2.2.2.2.2.2.2.1
    have r12 : xv 12 = _ := hp.2.2.2.2.2.2.2.2.2.2.2.2.1
    have r13 : xv 13 = _ := hp.2.2.2.2.2.2.2.2.2.2.2.2.2.1
    clear hp
    simp only [putD, List.foldl_nil, List.foldl_cons, List.getD_cons_zero, List.getD_cons_succ, Act.put, List.length_cons, List.length_nil, List.range_succ, List.range_zero, List.nil_append, List.cons_append, List.setIfInBounds_toArray, List.set_cons_zero, List.set_cons_succ]
    have hE5 : Ext w4 W := (Ext.drew _).trans hE
    have hW5 : Ext w W := hE0.trans (hE04.trans hE5)
    have hT5 := hT4.ext hE5
    have r11' : xv 11 = .slice (some ⟨gs, 0, none⟩) 4 cs := r11
    have r12' : xv 12 = .int .i64 4 := r12
    have r13' : xv 13 = .int .i64 0 := r13
    rw [r11', r12', r13']
    clear r0 r1 r2 r3 r4 r5 r6 r7 r8 r9 r10 r11 r12 r13 r11' r12' r13' hE y3 y4 y5
    go_wp2_with fail
    go_loopw [41] (fun kv wr => ∃ q : Nat, q ≤ 4 ∧ kv = .int .i64 q ∧ Ext W wr) (fun kv _ => 4 - (intOf kv).toNat)
    case atStart => exact ⟨0, Nat.zero_le _, rfl, Ext.refl _⟩
    case round =>
      obtain ⟨q, hq, rfl, hEr⟩ := hrel
      by_cases hlt : q < 4
      · obtain ⟨y, hcy, hyl⟩ := hcs q hlt
        have hcw : wr.cell? ⟨gs, q, none⟩ = some (.string ⟨y.toArray⟩) := (hEr.old (p := ⟨gs, q, none⟩) hgs).trans hcy
        have hTr := hT5.ext hEr
        have tq : decide ((q : Int) < 4) = true := by simp; omega
        have PA := Lib.hid (parse_any y (by omega) wr hTr)
        have PB := Lib.hid (fun (V : World) => rparse_any y (by omega) V)
        obtain ⟨hok, hsz⟩ := parse_small (s := y) (by omega)
        have HOK := Lib.hid hok
        obtain ⟨yv, hyv⟩ : ∃ v : ByteArray, (⟨y.toArray⟩ : ByteArray) = v := ⟨_, rfl⟩
        rw [hyv] at hcw PA PB
        obtain ⟨⟨X, E⟩, hXE⟩ : ∃ p, parseE y = p := ⟨_, rfl⟩
        unfold ParseQ at PA PB
        rw [hXE] at PA hsz hok HOK
        simp only [hXE] at PB
        clear hyv hcy hXE hok
        have hsz' : X.size < 1099511627776 := hsz
        clear hsz
        go_wp2_with fail
        refine PA.out.mono ?_
        rintro e wa ⟨B1, k1, d1, rfl, hX1, hEa⟩
        change ExL wa _ d1 B1 X.l at hX1
        have hEb : Ext wa (wa.alloc (.cells (X.cells B1 k1).toArray 29)) := Ext.alloc _ _
        have hz1 := ExL.ext (hX1.more fun k hk => hk.2) hEb
        have hin1 := InBlk.new2 wa X B1 k1
        have hEab := hEa.trans hEb
        unfold Ex.cells at hEb hz1 hin1 hEab ⊢
        clear hX1 hEa hEb
        go_wp2_with fail
        refine (PB.out _).mono ?_
        rintro e wc ⟨B2, k2, d2, rfl, hX2, hEc⟩
        change ExL wc _ d2 B2 X.l at hX2
        have hEd : Ext wc (wc.alloc (.cells (X.cells B2 k2).toArray 29)) := Ext.alloc _ _
        have hz2 := ExL.ext (hX2.more fun k hk => hk.2) hEd
        have hin2 := InBlk.new2 wc X B2 k2
        have hEcd := hEc.trans hEd
        have hz1c := (hz1.ext hEc).ext hEd
        have hin1c := (hin1.ext hEc).ext hEd
        have hwac : wa.heap.size < wc.heap.size := Nat.lt_of_lt_of_le (by simp) hEc.sz
        have SM := Lib.hid (fun (V : World) (h : Ext _ V) => Same_any (max d1 d2) X X B1 B2 k1 k2 V ((hz1c.ext h).deep (Nat.le_max_left _ _)) ((hz2.ext h).deep (Nat.le_max_right _ _)) hsz' hsz')
        have RM := Lib.hid (fun (V : World) (h : Ext _ V) => rSame_any (max d1 d2) X X B1 B2 k1 k2 V ((hz1c.ext h).deep (Nat.le_max_left _ _)) ((hz2.ext h).deep (Nat.le_max_right _ _)) hsz' hsz')
        rw [show X.same X = true from (Ex.same_iff _ _).2 rfl] at SM RM
        have HIN1 := Lib.hid hin1c
        have HIN2 := Lib.hid hin2
        have HEE := Lib.hid ((hEr.trans hEab).trans hEcd)
        unfold Ex.cells at SM RM HIN1 HIN2 HEE
        obtain ⟨u0, u1, u2, u3, u4, u5, u6⟩ := hin1c.cells
        unfold Ex.cells at u0 u1 u2 u3 u4 u5 u6 ⊢
        clear hz1 hz2 hz1c hin1 hin2 hin1c hEcd hEab hX2 hEc hEd
        go_wp2_with fail
        refine (SM.out _ (Ext.refl _)).mono ?_
        rintro e we ⟨rfl, hEe⟩
        obtain ⟨a0, a1', a2', a3, a4, a5, a6⟩ := (HIN1.out.ext hEe).cells
        obtain ⟨e0, e1, e2, e3, e4, e5, e6⟩ := (HIN2.out.ext hEe).cells
        clear u0 u1 u2 u3 u4 u5 u6
        go_wp2_with fail
        refine (RM.out _ hEe).mono ?_
        rintro e wf ⟨rfl, hEf⟩
        go_wp2_with fail
        go_roundw
        case rel => exact ⟨q + 1, by omega, by go_num, (HEE.out.trans hEe).trans hEf⟩
        case measure => simp [intOf]; omega
      · obtain rfl : q = 4 := by omega
        go_wp2_with fail
        go_ret
        exact ⟨rfl, hW5.trans hEr⟩
end Go.Proofs.YtggkkjnfonbpkaaGreatDoor
