/- The law JournalReads: its walk. -/
import Derived.Test.YthppcmejffdicaaGreatDoorQKj
import Derived.Test.YthppcmejffdicaaGreatDoorQKl
import Derived.Deep.CutRange
import Derived.Deep.CutBlock
import Derived.Deep.QuietTactic
import Derived.BigQuiet

set_option linter.unusedSimpArgs false
set_option linter.unusedVariables false
namespace Go.Proofs.YthppcmejffdicaaGreatDoor
open Go.RowKit Hach Num Jn

theorem apply_any (a c : Nat) (i s : List UInt8) (w : World) (ha : a < 65536) (hc : c < 256) (hi : i.length < 9223372036854775808) (hs : s.length < 100000) :
    Calls Tryz.prog 32 #[.agg #[.int .u16 (a : Nat), .int .u8 (c : Nat), .string ⟨i.toArray⟩], .string ⟨s.toArray⟩] w fun e w' => ∃ x : List UInt8, e = .returned (.string ⟨x.toArray⟩) ∧ x.length ≤ s.length + 20 ∧ Ext w w' := by
  have hsv := toArr_size s
  have hiv := toArr_size i
  obtain ⟨sv, hsve⟩ : ∃ sv : ByteArray, (⟨s.toArray⟩ : ByteArray) = sv := ⟨_, rfl⟩
  obtain ⟨iv, hive⟩ : ∃ iv : ByteArray, (⟨i.toArray⟩ : ByteArray) = iv := ⟨_, rfl⟩
  rw [hsve] at hsv ⊢
  rw [hive] at hiv ⊢
  have hsz : sv.size < 100000 := by omega
  have hiz : iv.size < 9223372036854775808 := by omega
  have HS := Lib.hid hsv
  clear hsve hive hsv hiv hs hi
  obtain ⟨k, hk⟩ : ∃ k, a % (sv.size + 1) = k := ⟨_, rfl⟩
  have hks : k ≤ sv.size := by have := Nat.mod_lt a (show 0 < sv.size + 1 by omega); omega
  have hkk : (a : Int) % ((sv.size : Int) + 1) = k := by rw [← hk]; rfl
  have hkt : (a : Int).tmod ((sv.size : Int) + 1) = k := by rw [← hk]; rfl
  clear hk
  have key : ∀ (x1 x2 x3 : ByteArray) (r : Nat), x1.size ≤ sv.size → x2.size ≤ 20 → x1.size + x3.size ≤ sv.size → ∃ x : List UInt8, (x1 ++ x2) ++ x3 = ⟨x.toArray⟩ ∧ x.length ≤ s.length + 20 := by
    intro x1 x2 x3 r h1 h2 h3
    refine ⟨((x1 ++ x2) ++ x3).data.toList, by rw [Array.toArray_toList], ?_⟩
    have e : ((x1 ++ x2) ++ x3).data.toList.length = ((x1 ++ x2) ++ x3).size := by rw [Array.length_toList]; rfl
    rw [e, ByteArray.size_append, ByteArray.size_append]
    have := HS.out
    omega
  have KEY := Lib.hid key
  clear key
  go_enter Tryz.func32, Tryz.ntmps32
  go_wp2_with fail
  go_quiet (fail)
  go_wp2_with fail
  go_ret
  obtain ⟨x, e, hx⟩ := KEY.out (sv.extract 0 k) (iv.extract 0 (min (iv.size : Int) 20).toNat) (sv.extract (min (sv.size : Int) ((k : Int) + (c : Int) % 6)).toNat sv.size) 0 (by rw [ByteArray.size_extract]; omega) (by rw [ByteArray.size_extract]; omega) (by rw [ByteArray.size_extract, ByteArray.size_extract]; omega)
  exact ⟨x, by rw [← e]; rfl, hx, (Ext.alloc _ _).trans (ext_drewN _ _)⟩

/- a text of at most so many bytes -/
def txtUp (N : Nat) : SP := ⟨fun v _ => ∃ x : List UInt8, v = .string ⟨x.toArray⟩ ∧ x.length ≤ N, fun h _ => h⟩
def slUp (n N : Nat) : SP := ⟨fun v W => ∃ g cap, v = .slice (some ⟨g, 0, none⟩) n cap ∧ g < W.heap.size ∧ ∀ j, j < n → ∃ x : List UInt8, W.cell? ⟨g, j, none⟩ = some (.string ⟨x.toArray⟩) ∧ x.length ≤ N, fun h hE => by
  obtain ⟨g, cap, e, hg, hc⟩ := h
  exact ⟨g, cap, e, Nat.lt_of_lt_of_le hg hE.sz, fun j hj => by
    obtain ⟨x, hx, hN⟩ := hc j hj
    exact ⟨x, (hE.old (p := ⟨g, j, none⟩) hg).trans hx, hN⟩⟩⟩
theorem txt_of (b : ByteArray) (N : Nat) (h : b.size ≤ N) : ∃ x : List UInt8, Value.string b = .string ⟨x.toArray⟩ ∧ x.length ≤ N :=
  ⟨b.data.toList, by cases b; simp, by rw [Array.length_toList]; exact h⟩
theorem fresh_open (y : List UInt8) : ∃ d', (⟨y, y.length, false, false, 0⟩ : Dk).open_ = (true, d') ∧ DkOk ⟨y, y.length, false, false, 0⟩ ∨ 281474976710656 ≤ y.length := by
  by_cases h : y.length < 281474976710656
  · exact ⟨_, .inl ⟨Prod.ext (open_calm (show (⟨y, y.length, false, false, 0⟩ : Dk).calm from ⟨rfl, rfl⟩)).1 rfl, fresh_ok y h⟩⟩
  · exact ⟨Dk.new, .inr (by omega)⟩
/- the texts that are opened, one after the other: a round -/
set_option maxRecDepth 100000 in
set_option maxHeartbeats 4000000 in
theorem JournalReads_any (A : Option Addr) (n c a1 c1 a2 c2 : Nat) (i1 i2 raw : List UInt8) (xs : List (List UInt8)) (w : World) (hT : Tabs w) (hX : RowT w w.heap.size A n xs) (hn : n < 9223372036854775808) (hsm : ∀ k, (xs.getD k []).length < 9223372036854775808)
    (ha1 : a1 < 65536) (hc1 : c1 < 256) (hi1 : i1.length < 9223372036854775808) (ha2 : a2 < 65536) (hc2 : c2 < 256) (hi2 : i2.length < 9223372036854775808) (hraw : raw.length < 9223372036854775808) :
    Calls Tryz.prog 4 #[.slice A n c, .agg #[.int .u16 (a1 : Nat), .int .u8 (c1 : Nat), .string ⟨i1.toArray⟩, .int .u16 (a2 : Nat), .int .u8 (c2 : Nat), .string ⟨i2.toArray⟩], .string ⟨raw.toArray⟩] w fun e w' => e = .returned (.bool true) ∧ Below w.heap.size w w' := by
  have hxl := hX.1
  obtain ⟨w0, hw0⟩ : ∃ w0, w.alloc (.cells #[.int .u16 (a1 : Nat), .int .u8 (c1 : Nat), .string ⟨i1.toArray⟩, .int .u16 (a2 : Nat), .int .u8 (c2 : Nat), .string ⟨i2.toArray⟩] 48) = w0 := ⟨_, rfl⟩
  have hE0 : Ext w w0 := by rw [← hw0]; exact Ext.alloc _ _
  have hz0 : w.heap.size < w0.heap.size := by rw [← hw0]; simp
  have p0 : w0.cell? ⟨w.heap.size, 0, none⟩ = some (.int .u16 (a1 : Nat)) := by rw [← hw0, World.cell?_alloc_new]; rfl
  have p1 : w0.cell? ⟨w.heap.size, 1, none⟩ = some (.int .u8 (c1 : Nat)) := by rw [← hw0, World.cell?_alloc_new]; rfl
  have p2 : w0.cell? ⟨w.heap.size, 2, none⟩ = some (.string ⟨i1.toArray⟩) := by rw [← hw0, World.cell?_alloc_new]; rfl
  have p3 : w0.cell? ⟨w.heap.size, 3, none⟩ = some (.int .u16 (a2 : Nat)) := by rw [← hw0, World.cell?_alloc_new]; rfl
  have p4 : w0.cell? ⟨w.heap.size, 4, none⟩ = some (.int .u8 (c2 : Nat)) := by rw [← hw0, World.cell?_alloc_new]; rfl
  have p5 : w0.cell? ⟨w.heap.size, 5, none⟩ = some (.string ⟨i2.toArray⟩) := by rw [← hw0, World.cell?_alloc_new]; rfl
  have HI1 := Lib.hid hi1
  have HI2 := Lib.hid hi2
  obtain ⟨iv1, hiv1⟩ : ∃ v : ByteArray, (⟨i1.toArray⟩ : ByteArray) = v := ⟨_, rfl⟩
  obtain ⟨iv2, hiv2⟩ : ∃ v : ByteArray, (⟨i2.toArray⟩ : ByteArray) = v := ⟨_, rfl⟩
  have hrv := toArr_size raw
  obtain ⟨rv, hrve⟩ : ∃ v : ByteArray, (⟨raw.toArray⟩ : ByteArray) = v := ⟨_, rfl⟩
  rw [hrve] at hrv ⊢
  have hrs : rv.size < 9223372036854775808 := by omega
  rw [hiv1] at p2 hw0 ⊢
  rw [hiv2] at p5 hw0 ⊢
  have HV1 := Lib.hid hiv1
  have HV2 := Lib.hid hiv2
  have hT0 := hT.ext hE0
  clear hiv1 hiv2 hrve hrv hi1 hi2 hraw
  go_enter Tryz.func4, Tryz.ntmps4
  go_wp2_with fail
  clear hw0
  refine (sanity_any w0 hT0).mono ?_
  rintro e w1 ⟨rfl, hE1⟩
  have hT1 := hT0.ext hE1
  have hXW : Ext w w1 := hE0.trans hE1
  have hX1 := hX.ext hXW
  obtain ⟨m, hm⟩ : ∃ m, m = min n 5 := ⟨_, rfl⟩
  have hmn : m ≤ n := by omega
  have hm5 : m ≤ 5 := by omega
  have hmx : m ≤ xs.length := by omega
  have HM := Lib.hid hm
  clear hm
  go_upto_block 0 with fail
  go_cut [8] from 19 (fun sv wx => ∃ T : List UInt8, sv = .string ⟨T.toArray⟩ ∧ T.length ≤ 400 ∧ Ext w1 wx)
  case first =>
    go_wp2_with fail
    go_loopw [8, 9] (fun sv kv wr => ∃ j : Nat, j ≤ m ∧ kv = .int .i64 j ∧ sv = .string ⟨(flat (cutR xs j)).toArray⟩ ∧ Ext w1 wr) (fun _ kv _ => m - (intOf kv).toNat)
    case atStart => exact ⟨0, Nat.zero_le _, rfl, rfl, Ext.refl _⟩
    case round =>
      obtain ⟨j, hj, rfl, rfl, hEr⟩ := hrel
      have hX2 := hX1.ext hEr
      by_cases hlt : j < m
      · obtain ⟨ba, o, rfl, hbl, hc0⟩ := hX2.2 (by omega)
        have hc := hc0 j (by omega)
        have hsz := hsm j
        have hcs := cutR_succ (xs := xs) (j := j) (by omega)
        have hfl := cutR_flat (xs := xs) (j := j) (by omega)
        have hfs := flat_snoc (cutR xs j) ((xs.getD j []).take 20)
        rw [← hcs] at hfs
        have HFS := Lib.hid hfs
        clear hc0 hcs hfs
        unfold txv at hc
        generalize xs.getD j [] = s at hc hsz HFS
        have htk := take_min s 20
        have hsv := toArr_size s
        obtain ⟨sv, hsve⟩ : ∃ sv : ByteArray, (⟨s.toArray⟩ : ByteArray) = sv := ⟨_, rfl⟩
        rw [hsve] at hc htk hsv
        have HTK := Lib.hid htk
        have hsv2 : sv.size < 9223372036854775808 := by omega
        have HSV := Lib.hid hsv
        have hll := line_len (s := s.take 20) (by simp; omega)
        have hfz := toArr_size (flat (cutR xs j))
        obtain ⟨fv, hfv⟩ : ∃ v : ByteArray, (⟨(flat (cutR xs j)).toArray⟩ : ByteArray) = v := ⟨_, rfl⟩
        rw [hfv] at hfz ⊢
        have hfs4 : fv.size ≤ 400 := by omega
        have HFV := Lib.hid hfv
        have hlz := toArr_size (line (s.take 20))
        obtain ⟨lv, hlv⟩ : ∃ v : ByteArray, (⟨(line (s.take 20)).toArray⟩ : ByteArray) = v := ⟨_, rfl⟩
        rw [hlv] at hlz
        have hls8 : lv.size ≤ 80 := by omega
        have HLV := Lib.hid hlv
        clear hsve htk hsv hfz hfv hlz hlv
        have t1 : decide ((j : Int) < 5) = true := by simp; omega
        have t2 : decide ((j : Int) < (n : Int)) = true := by simp; omega
        go_wp2_with fail
        apply wp_region_seq (l := [_, _, _, _, _, _, _, _, _, _, _, _, _, _]) (t := [_]) [some 30, some 31, some 32, some 33, some 34, some 35, some 36, some 37, some 38, some 39, some 40, some 41, some 42, some 43, some 8] [[], [], [], [1, 2], [3], [], [], [5, 6], [7], [8], [9], [4, 10], [11], [0, 12], [13]] [14, 14, 14, 14, 14, 14, 14, 14, 14, 14, 14, 14, 14, 14] [eqv _, eqv _, eqv _, eqv _, eqv _, eqv _, eqv _, eqv _, eqv _, eqv _, eqv _, (eqv (.string ⟨(s.take 20).toArray⟩)), (eqv (.string lv)), eqv _] (by kernel_rfl) (by kernel_rfl) ⟨?o0, ?o1, ?o2, ?o3, ?o4, ?o5, ?o6, ?o7, ?o8, ?o9, ?o10, ?o11, ?o12, ?o13, trivial⟩ ?last
        case o0 => -- Op.move (Operand.tmp 8)
          intro xv W hE _
          simp only [putD, List.foldl_nil, List.getD_cons_zero]
          refine OpGoal.plain ?_
          go_wp2_with fail
          exact ⟨rfl, Ext.refl _, rfl⟩
        case o1 => -- Op.move (Operand.tmp 0)
          intro xv W hE _
          simp only [putD, List.foldl_nil, List.getD_cons_zero, List.getD_cons_succ]
          refine OpGoal.plain ?_
          go_wp2_with fail
          exact ⟨rfl, Ext.refl _, rfl⟩
        case o2 => -- Op.move (Operand.tmp 9)
          intro xv W hE _
          simp only [putD, List.foldl_nil, List.getD_cons_zero, List.getD_cons_succ]
          refine OpGoal.plain ?_
          go_wp2_with fail
          exact ⟨rfl, Ext.refl _, rfl⟩
        case o3 => -- Op.indexAddr 36 (Operand.tmp 31) (Operand.tmp 32)
          intro xv W hE hp
          have r1 : xv 1 = _ := hp.1
          have r2 : xv 2 = _ := hp.2.1
          clear hp
          simp only [putD, List.foldl_nil, List.foldl_cons, List.getD_cons_zero, List.getD_cons_succ, Act.put, List.setIfInBounds_toArray, List.set_cons_zero, List.set_cons_succ]
          refine OpGoal.plain ?_
          go_wp2_with fail
          exact ⟨rfl, Ext.refl _, rfl⟩
        case o4 => -- Op.load 9 (Operand.tmp 33)
          intro xv W hE hp
          have r3 : xv 3 = _ := hp.1
          clear hp
          have hcW : W.cell? ⟨ba, o + j, none⟩ = some (.string sv) := (hE.old (p := ⟨ba, o + j, none⟩) hbl).trans hc
          simp only [putD, List.foldl_nil, List.foldl_cons, List.getD_cons_zero, List.getD_cons_succ, Act.put, List.setIfInBounds_toArray, List.set_cons_zero, List.set_cons_succ]
          refine OpGoal.plain ?_
          go_wp2_with fail
          exact ⟨rfl, Ext.refl _, rfl⟩
        case o5 => -- Op.move (Operand.tmp 0)
          intro xv W hE _
          simp only [putD, List.foldl_nil, List.getD_cons_zero, List.getD_cons_succ]
          refine OpGoal.plain ?_
          go_wp2_with fail
          exact ⟨rfl, Ext.refl _, rfl⟩
        case o6 => -- Op.move (Operand.tmp 9)
          intro xv W hE _
          simp only [putD, List.foldl_nil, List.getD_cons_zero, List.getD_cons_succ]
          refine OpGoal.plain ?_
          go_wp2_with fail
          exact ⟨rfl, Ext.refl _, rfl⟩
        case o7 => -- Op.indexAddr 36 (Operand.tmp 35) (Operand.tmp 36)
          intro xv W hE hp
          have r5 : xv 5 = _ := hp.1
          have r6 : xv 6 = _ := hp.2.1
          clear hp
          simp only [putD, List.foldl_nil, List.foldl_cons, List.getD_cons_zero, List.getD_cons_succ, Act.put, List.setIfInBounds_toArray, List.set_cons_zero, List.set_cons_succ]
          refine OpGoal.plain ?_
          go_wp2_with fail
          exact ⟨rfl, Ext.refl _, rfl⟩
        case o8 => -- Op.load 9 (Operand.tmp 37)
          intro xv W hE hp
          have r7 : xv 7 = _ := hp.1
          clear hp
          have hcW : W.cell? ⟨ba, o + j, none⟩ = some (.string sv) := (hE.old (p := ⟨ba, o + j, none⟩) hbl).trans hc
          simp only [putD, List.foldl_nil, List.foldl_cons, List.getD_cons_zero, List.getD_cons_succ, Act.put, List.setIfInBounds_toArray, List.set_cons_zero, List.set_cons_succ]
          refine OpGoal.plain ?_
          go_wp2_with fail
          exact ⟨rfl, Ext.refl _, rfl⟩
        case o9 => -- Op.call { callee := Callee.builtin Builtin.len, args := #[Operand.tmp 38], argTy
          intro xv W hE hp
          have r8 : xv 8 = _ := hp.1
          clear hp
          simp only [putD, List.foldl_nil, List.foldl_cons, List.getD_cons_zero, List.getD_cons_succ, Act.put, List.setIfInBounds_toArray, List.set_cons_zero, List.set_cons_succ]
          refine OpGoal.plain ?_
          go_wp2_with fail
          exact ⟨rfl, Ext.refl _, rfl⟩
        case o10 => -- Op.call { callee := Callee.builtin Builtin.min, args := #[Operand.tmp 39, Operan
          intro xv W hE hp
          have r9 : xv 9 = _ := hp.1
          clear hp
          simp only [putD, List.foldl_nil, List.foldl_cons, List.getD_cons_zero, List.getD_cons_succ, Act.put, List.setIfInBounds_toArray, List.set_cons_zero, List.set_cons_succ]
          refine OpGoal.plain ?_
          go_wp2_with fail
          exact ⟨rfl, Ext.refl _, rfl⟩
        case o11 => -- Op.slice 9 (Operand.tmp 34) none (some (Operand.tmp 40)) none
          intro xv W hE hp
          have r4 : xv 4 = _ := hp.1
          have r10 : xv 10 = _ := hp.2.1
          clear hp
          simp only [putD, List.foldl_nil, List.foldl_cons, List.getD_cons_zero, List.getD_cons_succ, Act.put, List.setIfInBounds_toArray, List.set_cons_zero, List.set_cons_succ]
          refine OpGoal.plain ?_
          go_wp2_with fail
          refine ⟨rfl, Ext.refl _, ?_⟩
          show Value.string _ = Value.string _
          rw [← HTK.out, ← HSV.out]
          rw [show (min (sv.size : Int) 20).toNat = min sv.size 20 by omega]
        case o12 => -- Op.call { callee := Callee.value (Operand.func 31), args := #[Operand.tmp 41], a
          intro xv W hE hp
          have r11 : xv 11 = _ := hp.1
          clear hp
          simp only [putD, List.foldl_nil, List.foldl_cons, List.getD_cons_zero, List.getD_cons_succ, Act.put, List.setIfInBounds_toArray, List.set_cons_zero, List.set_cons_succ]
          refine OpGoal.plain ?_
          go_wp2_with fail
          refine (lineR_any (s.take 20) (by simp; omega) W).mono ?_
          rintro e w' ⟨rfl, hEt⟩
          rw [HLV.out]
          go_wp2_with fail
          exact ⟨rfl, hEt, rfl⟩
        case o13 => -- Op.binOp BinOp.add 9 (Operand.tmp 30) (Operand.tmp 42) 9
          intro xv W hE hp
          have r0 : xv 0 = _ := hp.1
          have r12 : xv 12 = _ := hp.2.1
          clear hp
          simp only [putD, List.foldl_nil, List.foldl_cons, List.getD_cons_zero, List.getD_cons_succ, Act.put, List.setIfInBounds_toArray, List.set_cons_zero, List.set_cons_succ]
          refine OpGoal.plain ?_
          go_wp2_with fail
          exact ⟨rfl, Ext.refl _, rfl⟩
        case last =>
          intro xv W hE hp
          have r0 : xv 0 = _ := hp.1
          have r1 : xv 1 = _ := hp.2.1
          have r2 : xv 2 = _ := hp.2.2.1
          have r3 : xv 3 = _ := hp.2.2.2.1
          have r4 : xv 4 = _ := hp.2.2.2.2.1
          have r5 : xv 5 = _ := hp.2.2.2.2.2.1
          have r6 : xv 6 = _ := hp.2.2.2.2.2.2.1
          have r7 : xv 7 = _ := hp.2.2.2.2.2.2.2.1
          have r8 : xv 8 = _ := hp.2.2.2.2.2.2.2.2.1
          have r9 : xv 9 = _ := hp.2.2.2.2.2.2.2.2.2.1
          have r10 : xv 10 = _ := hp.2.2.2.2.2.2.2.2.2.2.1
          have r11 : xv 11 = _ := hp.2.2.2.2.2.2.2.2.2.2.2.1
          have r12 : xv 12 = _ := hp.2.2.2.2.2.2.2.2.2.2.2.2.1
          have r13 : xv 13 = _ := hp.2.2.2.2.2.2.2.2.2.2.2.2.2.1
          clear hp
          simp only [putD, List.foldl_nil, List.foldl_cons, List.getD_cons_zero, List.getD_cons_succ, Act.put, List.length_cons, List.length_nil, List.range_succ, List.range_zero, List.nil_append, List.cons_append, List.setIfInBounds_toArray, List.set_cons_zero, List.set_cons_succ]
          have r13' : xv 13 = .string (fv ++ lv) := r13
          have e13 : fv ++ lv = ⟨(flat (cutR xs (j + 1))).toArray⟩ := by rw [HFS.out, ← HFV.out, ← HLV.out, ba_append]
          rw [r13', e13]
          go_wp2_with fail
          go_roundw
          case rel => exact ⟨j + 1, by omega, by go_num, rfl, (hEr.trans (Ext.drew _)).trans hE⟩
          case measure => simp [intOf]; omega
      · have hjm : j = m := by omega
        have hfl := cutR_flat (xs := xs) (j := j) (by omega)
        have hun : decide (j < n) = false ∨ decide (j < n) = true ∧ decide ((j : Int) < 5) = false := by
          have := HM.out
          by_cases h : j < n
          · right; simp; omega
          · left; simp; omega
        clear hjm
        rcases hun with t1 | ⟨t1, t2⟩
        all_goals
          go_wp2_with fail
          go_meet
          case rel => exact ⟨_, rfl, hfl, hEr⟩
  case rest =>
    obtain ⟨T, rfl, hTl, hEc⟩ := hcut
    have hTv := toArr_size T
    obtain ⟨tv, htv⟩ : ∃ v : ByteArray, (⟨T.toArray⟩ : ByteArray) = v := ⟨_, rfl⟩
    have hts : tv.size ≤ 400 := by rw [← htv]; omega
    rw [htv]
    have HTV := Lib.hid htv
    clear htv hTv
    have b0 : w.heap.size < w1.heap.size := by have := hE1.sz; omega
    have hE1c := hE1.trans hEc
    have z0 := (hE1c.old (p := ⟨w.heap.size, 0, none⟩) hz0).trans p0
    have z1 := (hE1c.old (p := ⟨w.heap.size, 1, none⟩) hz0).trans p1
    have z2 := (hE1c.old (p := ⟨w.heap.size, 2, none⟩) hz0).trans p2
    have HAP := fun (s : List UInt8) (W : World) (h : s.length < 100000) => apply_any a1 c1 i1 s W ha1 hc1 HI1.out h
    rw [HV1.out] at HAP
    have HHAP := Lib.hid (HAP T wc (by omega))
    rw [HTV.out] at HHAP
    clear HAP
    go_wp2_with fail
    refine HHAP.out.mono ?_
    rintro e w2 ⟨x1, rfl, hx1, hE2⟩
    have hE02 := hE1c.trans hE2
    have y3 := (hE02.old (p := ⟨w.heap.size, 3, none⟩) hz0).trans p3
    have y4 := (hE02.old (p := ⟨w.heap.size, 4, none⟩) hz0).trans p4
    have y5 := (hE02.old (p := ⟨w.heap.size, 5, none⟩) hz0).trans p5
    have hlw : w.heap.size < w2.heap.size := by have := hE02.sz; omega
    have hT2 := hT0.ext hE02
    have HAP := fun (W : World) => apply_any a2 c2 i2 x1 W ha2 hc2 HI2.out (by omega)
    rw [HV2.out] at HAP
    have hxz := toArr_size x1
    obtain ⟨xv1, hxv1⟩ : ∃ v : ByteArray, (⟨x1.toArray⟩ : ByteArray) = v := ⟨_, rfl⟩
    rw [hxv1] at HAP hxz ⊢
    have hxs : xv1.size ≤ 420 := by omega
    have HXV1 := Lib.hid hxv1
    have HHAP2 := Lib.hid HAP
    clear HAP hxv1 hxz HHAP z0 z1 z2
    go_wp2_with fail
    apply wp_region_seq (l := [_, _, _, _, _, _, _, _, _, _, _, _, _, _, _, _, _, _, _, _, _]) (t := []) [some 48, some 49, some 50, some 51, some 52, some 53, some 54, some 55, some 56, some 57, some 58, some 59, some 60, some 61, some 62, some 63, some 64, some 65, some 66, some 67, some 68] [[], [], [], [2], [], [3, 4], [], [], [7], [8], [6, 9], [], [], [], [13], [14], [12, 15], [11, 16], [0, 1, 5, 10, 17], [18], []] [] [eqv _, eqv _, eqv _, eqv _, eqv _, (txtUp 440), eqv _, eqv _, eqv _, eqv _, (txtUp 100), eqv _, eqv _, eqv _, eqv _, eqv _, eqv _, (txtUp 500), (slUp 5 500), eqv _, eqv _] (by kernel_rfl) (by kernel_rfl) ⟨?o0, ?o1, ?o2, ?o3, ?o4, ?o5, ?o6, ?o7, ?o8, ?o9, ?o10, ?o11, ?o12, ?o13, ?o14, ?o15, ?o16, ?o17, ?o18, ?o19, ?o20, trivial⟩ ?last
    case o0 => -- Op.move (Operand.tmp 8)
      intro xv W hE _
      simp only [putD, List.foldl_nil, List.getD_cons_zero]
      refine OpGoal.plain ?_
      go_wp2_with fail
      exact ⟨rfl, Ext.refl _, rfl⟩
    case o1 => -- Op.move (Operand.tmp 10)
      intro xv W hE _
      simp only [putD, List.foldl_nil, List.getD_cons_zero, List.getD_cons_succ]
      refine OpGoal.plain ?_
      go_wp2_with fail
      exact ⟨rfl, Ext.refl _, rfl⟩
    case o2 => -- Op.indexAddr 48 (Operand.tmp 4) (Operand.const (Value.int IntKind.i64 1))
      intro xv W hE _
      simp only [putD, List.foldl_nil, List.getD_cons_zero, List.getD_cons_succ]
      refine OpGoal.plain ?_
      go_wp2_with fail
      exact ⟨rfl, Ext.refl _, rfl⟩
    case o3 => -- Op.load 47 (Operand.tmp 50)
      intro xv W hE hp
      have r2 : xv 2 = _ := hp.1
      clear hp
      have d3 : W.cell? ⟨w.heap.size, 3, none⟩ = some (.int .u16 (a2 : Nat)) := (hE.old (p := ⟨w.heap.size, 3, none⟩) hlw).trans y3
      have d4 : W.cell? ⟨w.heap.size, 4, none⟩ = some (.int .u8 (c2 : Nat)) := (hE.old (p := ⟨w.heap.size, 4, none⟩) hlw).trans y4
      have d5 : W.cell? ⟨w.heap.size, 5, none⟩ = some (.string iv2) := (hE.old (p := ⟨w.heap.size, 5, none⟩) hlw).trans y5
      simp only [putD, List.foldl_nil, List.foldl_cons, List.getD_cons_zero, List.getD_cons_succ, Act.put, List.setIfInBounds_toArray, List.set_cons_zero, List.set_cons_succ]
      refine OpGoal.plain ?_
      go_wp2_with fail
      exact ⟨rfl, Ext.refl _, rfl⟩
    case o4 => -- Op.move (Operand.tmp 10)
      intro xv W hE _
      simp only [putD, List.foldl_nil, List.getD_cons_zero, List.getD_cons_succ]
      refine OpGoal.plain ?_
      go_wp2_with fail
      exact ⟨rfl, Ext.refl _, rfl⟩
    case o5 => -- Op.call { callee := Callee.value (Operand.func 32), args := #[Operand.tmp 51, Op
      intro xv W hE hp
      have r3 : xv 3 = _ := hp.1
      have r4 : xv 4 = _ := hp.2.1
      clear hp
      simp only [putD, List.foldl_nil, List.foldl_cons, List.getD_cons_zero, List.getD_cons_succ, Act.put, List.setIfInBounds_toArray, List.set_cons_zero, List.set_cons_succ]
      refine OpGoal.plain ?_
      go_wp2_with fail
      refine (HHAP2.out W).mono ?_
      rintro e w' ⟨x2, rfl, hx2, hEt⟩
      go_wp2_with fail
      exact ⟨rfl, hEt, x2, rfl, by omega⟩
    case o6 => -- Op.move (Operand.tmp 2)
      intro xv W hE _
      simp only [putD, List.foldl_nil, List.getD_cons_zero, List.getD_cons_succ]
      refine OpGoal.plain ?_
      go_wp2_with fail
      exact ⟨rfl, Ext.refl _, rfl⟩
    case o7 => -- Op.move (Operand.tmp 2)
      intro xv W hE _
      simp only [putD, List.foldl_nil, List.getD_cons_zero, List.getD_cons_succ]
      refine OpGoal.plain ?_
      go_wp2_with fail
      exact ⟨rfl, Ext.refl _, rfl⟩
    case o8 => -- Op.call { callee := Callee.builtin Builtin.len, args := #[Operand.tmp 55], argTy
      intro xv W hE hp
      have r7 : xv 7 = _ := hp.1
      clear hp
      simp only [putD, List.foldl_nil, List.foldl_cons, List.getD_cons_zero, List.getD_cons_succ, Act.put, List.setIfInBounds_toArray, List.set_cons_zero, List.set_cons_succ]
      refine OpGoal.plain ?_
      go_wp2_with fail
      exact ⟨rfl, Ext.refl _, rfl⟩
    case o9 => -- Op.call { callee := Callee.builtin Builtin.min, args := #[Operand.tmp 56, Operan
      intro xv W hE hp
      have r8 : xv 8 = _ := hp.1
      clear hp
      simp only [putD, List.foldl_nil, List.foldl_cons, List.getD_cons_zero, List.getD_cons_succ, Act.put, List.setIfInBounds_toArray, List.set_cons_zero, List.set_cons_succ]
      refine OpGoal.plain ?_
      go_wp2_with fail
      exact ⟨rfl, Ext.refl _, rfl⟩
    case o10 => -- Op.slice 9 (Operand.tmp 54) none (some (Operand.tmp 57)) none
      intro xv W hE hp
      have r6 : xv 6 = _ := hp.1
      have r9 : xv 9 = _ := hp.2.1
      clear hp
      simp only [putD, List.foldl_nil, List.foldl_cons, List.getD_cons_zero, List.getD_cons_succ, Act.put, List.setIfInBounds_toArray, List.set_cons_zero, List.set_cons_succ]
      refine OpGoal.plain ?_
      go_wp2_with fail
      exact ⟨rfl, Ext.refl _, txt_of _ 100 (by rw [ByteArray.size_extract]; omega)⟩
    case o11 => -- Op.move (Operand.tmp 8)
      intro xv W hE _
      simp only [putD, List.foldl_nil, List.getD_cons_zero, List.getD_cons_succ]
      refine OpGoal.plain ?_
      go_wp2_with fail
      exact ⟨rfl, Ext.refl _, rfl⟩
    case o12 => -- Op.move (Operand.tmp 2)
      intro xv W hE _
      simp only [putD, List.foldl_nil, List.getD_cons_zero, List.getD_cons_succ]
      refine OpGoal.plain ?_
      go_wp2_with fail
      exact ⟨rfl, Ext.refl _, rfl⟩
    case o13 => -- Op.move (Operand.tmp 2)
      intro xv W hE _
      simp only [putD, List.foldl_nil, List.getD_cons_zero, List.getD_cons_succ]
      refine OpGoal.plain ?_
      go_wp2_with fail
      exact ⟨rfl, Ext.refl _, rfl⟩
    case o14 => -- Op.call { callee := Callee.builtin Builtin.len, args := #[Operand.tmp 61], argTy
      intro xv W hE hp
      have r13 : xv 13 = _ := hp.1
      clear hp
      simp only [putD, List.foldl_nil, List.foldl_cons, List.getD_cons_zero, List.getD_cons_succ, Act.put, List.setIfInBounds_toArray, List.set_cons_zero, List.set_cons_succ]
      refine OpGoal.plain ?_
      go_wp2_with fail
      exact ⟨rfl, Ext.refl _, rfl⟩
    case o15 => -- Op.call { callee := Callee.builtin Builtin.min, args := #[Operand.tmp 62, Operan
      intro xv W hE hp
      have r14 : xv 14 = _ := hp.1
      clear hp
      simp only [putD, List.foldl_nil, List.foldl_cons, List.getD_cons_zero, List.getD_cons_succ, Act.put, List.setIfInBounds_toArray, List.set_cons_zero, List.set_cons_succ]
      refine OpGoal.plain ?_
      go_wp2_with fail
      exact ⟨rfl, Ext.refl _, rfl⟩
    case o16 => -- Op.slice 9 (Operand.tmp 60) none (some (Operand.tmp 63)) none
      intro xv W hE hp
      have r12 : xv 12 = _ := hp.1
      have r15 : xv 15 = _ := hp.2.1
      clear hp
      simp only [putD, List.foldl_nil, List.foldl_cons, List.getD_cons_zero, List.getD_cons_succ, Act.put, List.setIfInBounds_toArray, List.set_cons_zero, List.set_cons_succ]
      refine OpGoal.plain ?_
      go_wp2_with fail
      exact ⟨rfl, Ext.refl _, rfl⟩
    case o17 => -- Op.binOp BinOp.add 9 (Operand.tmp 59) (Operand.tmp 64) 9
      intro xv W hE hp
      have r11 : xv 11 = _ := hp.1
      have r16 : xv 16 = _ := hp.2.1
      clear hp
      simp only [putD, List.foldl_nil, List.foldl_cons, List.getD_cons_zero, List.getD_cons_succ, Act.put, List.setIfInBounds_toArray, List.set_cons_zero, List.set_cons_succ]
      refine OpGoal.plain ?_
      go_wp2_with fail
      exact ⟨rfl, Ext.refl _, txt_of _ 500 (by rw [ByteArray.size_append, ByteArray.size_extract]; omega)⟩
    case o18 => -- Op.buildSlice 36 5 #[(0, Operand.tmp 48), (1, Operand.tmp 49), (2, Operand.tmp 5
      intro xv W hE hp
      have r0 : xv 0 = _ := hp.1
      have r1 : xv 1 = _ := hp.2.1
      obtain ⟨x2, r5, hx2⟩ := hp.2.2.1
      obtain ⟨x3, r10, hx3⟩ := hp.2.2.2.1
      obtain ⟨x4, r17, hx4⟩ := hp.2.2.2.2.1
      clear hp
      simp only [putD, List.foldl_nil, List.foldl_cons, List.getD_cons_zero, List.getD_cons_succ, Act.put, List.setIfInBounds_toArray, List.set_cons_zero, List.set_cons_succ]
      refine OpGoal.plain ?_
      go_wp2_with fail
      have c0 : ∃ x : List UInt8, Value.string tv = .string ⟨x.toArray⟩ ∧ x.length ≤ 500 := ⟨T, by rw [HTV.out], by omega⟩
      have c1 : ∃ x : List UInt8, Value.string xv1 = .string ⟨x.toArray⟩ ∧ x.length ≤ 500 := ⟨x1, by rw [HXV1.out], by omega⟩
      refine ⟨rfl, Ext.alloc _ _, W.heap.size, 5, rfl, by simp, fun j hj => ?_⟩
      rw [World.cell?_alloc_new]
      match j, hj with
      | 0, _ => obtain ⟨x, e, h⟩ := c0; exact ⟨x, by rw [← e]; rfl, h⟩
      | 1, _ => obtain ⟨x, e, h⟩ := c1; exact ⟨x, by rw [← e]; rfl, h⟩
      | 2, _ => exact ⟨x2, rfl, by omega⟩
      | 3, _ => exact ⟨x3, rfl, by omega⟩
      | 4, _ => exact ⟨x4, rfl, by omega⟩
    case o19 => -- Op.call { callee := Callee.builtin Builtin.len, args := #[Operand.tmp 66], argTy
      intro xv W hE hp
      obtain ⟨gs, cs, r18, hgs, hcs⟩ := hp.1
      clear hp
      simp only [putD, List.foldl_nil, List.foldl_cons, List.getD_cons_zero, List.getD_cons_succ, Act.put, List.setIfInBounds_toArray, List.set_cons_zero, List.set_cons_succ]
      refine OpGoal.plain ?_
      go_wp2_with fail
      exact ⟨rfl, Ext.refl _, rfl⟩
    case o20 => -- Op.move (Operand.const (Value.int IntKind.i64 0))
      intro xv W hE _
      simp only [putD, List.foldl_nil, List.getD_cons_zero, List.getD_cons_succ]
      refine OpGoal.plain ?_
      go_wp2_with fail
      exact ⟨rfl, Ext.refl _, rfl⟩
    case last =>
      intro xv W hE hp
      have r0 : xv 0 = _ := hp.1
      have r1 : xv 1 = _ := hp.2.1
      have r2 : xv 2 = _ := hp.2.2.1
      have r3 : xv 3 = _ := hp.2.2.2.1
      have r4 : xv 4 = _ := hp.2.2.2.2.1
      obtain ⟨x2, r5, hx2⟩ := hp.2.2.2.2.2.1
      have r6 : xv 6 = _ := hp.2.2.2.2.2.2.1
      have r7 : xv 7 = _ := hp.2.2.2.2.2.2.2.1
      have r8 : xv 8 = _ := hp.2.2.2.2.2.2.2.2.1
      have r9 : xv 9 = _ := hp.2.2.2.2.2.2.2.2.2.1
      obtain ⟨x3, r10, hx3⟩ := hp.2.2.2.2.2.2.2.2.2.2.1
      have r11 : xv 11 = _ := hp.2.2.2.2.2.2.2.2.2.2.2.1
      have r12 : xv 12 = _ := hp.2.2.2.2.2.2.2.2.2.2.2.2.1
      have r13 : xv 13 = _ := hp.2.2.2.2.2.2.2.2.2.2.2.2.2.1
      have r14 : xv 14 = _ := hp.2.2.2.2.2.2.2.2.2.2.2.2.2.2.1
      have r15 : xv 15 = _ := hp.2.2.2.2.2.2.2.2.2.2.2.2.2.2.2.1
      have r16 : xv 16 = _ := hp.2.2.2.2.2.2.2.2.2.2.2.2.2.2.2.2.1
      obtain ⟨x4, r17, hx4⟩ := hp.2.2.2.2.2.2.2.2.2.2.2.2.2.2.2.2.2.1
      obtain ⟨gs, cs, r18, hgs, hcs⟩ := hp.2.2.2.2.2.2.2.2.2.2.2.2.2.2.2.2.2.2.1
      have r19 : xv 19 = _ := hp.2.2.2.2.2.2.2.2.2.2.2.2.2.2.2.2.2.2.2.1
      have r20 : xv 20 = _ := hp.2.2.2.2.2.2.2.2.2.2.2.2.2.2.2.2.2.2.2.2.1
      clear hp
      simp only [putD, List.foldl_nil, List.foldl_cons, List.getD_cons_zero, List.getD_cons_succ, Act.put, List.length_cons, List.length_nil, List.range_succ, List.range_zero, List.nil_append, List.cons_append, List.setIfInBounds_toArray, List.set_cons_zero, List.set_cons_succ]
      have hE5 : Ext w2 W := (Ext.drew _).trans hE
      have hW5 : Ext w W := hE0.trans (hE02.trans hE5)
      have hT5 := hT2.ext hE5
      have r18' : xv 18 = .slice (some ⟨gs, 0, none⟩) 5 cs := r18
      have r19' : xv 19 = .int .i64 5 := r19
      have r20' : xv 20 = .int .i64 0 := r20
      rw [r18', r19', r20']
      clear r0 r1 r2 r3 r4 r5 r6 r7 r8 r9 r10 r11 r12 r13 r14 r15 r16 r17 r18 r19 r20 r18' r19' r20' hE y3 y4 y5
      go_wp2_with fail
      go_loopw [68] (fun kv wr => ∃ q : Nat, q ≤ 5 ∧ kv = .int .i64 q ∧ Ext W wr) (fun kv _ => 5 - (intOf kv).toNat)
      case atStart => exact ⟨0, Nat.zero_le _, rfl, Ext.refl _⟩
      case round =>
        obtain ⟨q, hq, rfl, hEr⟩ := hrel
        by_cases hlt : q < 5
        · obtain ⟨y, hcy, hyl⟩ := hcs q hlt
          have hcw : wr.cell? ⟨gs, q, none⟩ = some (.string ⟨y.toArray⟩) := (hEr.old (p := ⟨gs, q, none⟩) hgs).trans hcy
          have hTr := hT5.ext hEr
          have h6 : 6 ≤ wr.heap.size := by have := hTr.sz; omega
          have tq : decide ((q : Int) < 5) = true := by simp; omega
          obtain ⟨yv, hyv⟩ : ∃ v : ByteArray, (⟨y.toArray⟩ : ByteArray) = v := ⟨_, rfl⟩
          rw [hyv] at hcw
          have WP := fun (b : Nat) (V : World) (h : DkAt 65 V b Dk.new) => write_p b Dk.new y V h new_ok (by show 0 + y.length < _; omega)
          have WR := fun (b : Nat) (V : World) (h : DkAt 68 V b Dk.new) => write_r b Dk.new y V h new_ok (by show 0 + y.length < _; omega)
          simp only [write_qz] at WP WR
          rw [hyv] at WP WR
          have okf := fresh_ok y (by omega)
          obtain ⟨d', hd'⟩ : ∃ d', (⟨y, y.length, false, false, 0⟩ : Dk).open_.2 = d' := ⟨_, rfl⟩
          have hop : (⟨y, y.length, false, false, 0⟩ : Dk).open_ = (true, d') := Prod.ext (open_calm (show (⟨y, y.length, false, false, 0⟩ : Dk).calm from ⟨rfl, rfl⟩)).1 hd'
          have hdl : d'.text.length ≤ 501 := by have := open_len ⟨y, y.length, false, false, 0⟩; rw [hd'] at this; show d'.text.length ≤ 501; simp only at this; omega
          have hcnt := recs_le d'.text
          have OP := fun (b : Nat) (V : World) (h : DkAt 65 V b ⟨y, y.length, false, false, 0⟩) (h2 : Tabs V) (h3 : 6 ≤ b) => openPS h okf (by show y.length < _; omega) h2 h3 hop rfl
          have OR := fun (b : Nat) (V : World) (h : DkAt 68 V b ⟨y, y.length, false, false, 0⟩) => openR_any b _ V h okf (by show y.length < _; omega)
          obtain ⟨G, hG⟩ : ∃ G, recs d'.text = G := ⟨_, rfl⟩
          rw [hG] at OP hcnt
          have HOPN := Lib.hid hop
          have HG := Lib.hid hG
          have HWP := Lib.hid WP
          have HWR := Lib.hid WR
          have HOP := Lib.hid OP
          have HOR := Lib.hid OR
          have hGl : G.length ≤ 501 := by omega
          clear WP WR OP OR hop hG hyv hcy hd' okf hcnt
          go_wp2_with fail
          refine (new_p wr).mono ?_
          rintro e wa ⟨rfl, hDa, hEa⟩
          have hla : wr.heap.size < wa.heap.size := hDa.lt
          go_wp2_with fail
          refine (new_r wa).mono ?_
          rintro e wb ⟨rfl, hDb, hEb⟩
          have hlb : wa.heap.size < wb.heap.size := hDb.lt
          have hDa2 := hDa.ext hEb
          have hTb := (hTr.ext hEa).ext hEb
          have hBb : Below wr.heap.size wr wb := Ext.trans hEa hEb
          obtain ⟨bp, hbp⟩ : ∃ b, b = wr.heap.size := ⟨_, rfl⟩
          obtain ⟨br, hbr⟩ : ∃ b, b = wa.heap.size := ⟨_, rfl⟩
          rw [← hbp] at hDa2 ⊢
          rw [← hbr] at hDb ⊢
          have hbpr : bp < br := by omega
          have hrb : br < wb.heap.size := by omega
          have h6p : 6 ≤ bp := by omega
          have hpw : wr.heap.size ≤ bp := by omega
          have HBP := Lib.hid hbp
          have HBR := Lib.hid hbr
          clear hbp hbr hDa hla hlb
          go_wp2_with fail
          refine (HWP.out bp wb hDa2).mono ?_
          rintro e wc2 ⟨rfl, hDc, gc⟩
          have hDbc := hDb.own gc (by simp; omega)
          go_wp2_with fail
          refine (HWR.out br wc2 hDbc).mono ?_
          rintro e wd ⟨rfl, hDd, gd⟩
          have hDcd := hDc.own gd (by simp; omega)
          have K1 : KB [bp, br] wb wd := (KB.grown gc (by simp)).trans (KB.grown gd (by simp))
          have hTd := hTb.kb K1 (by simp; omega)
          have hBd : Below wr.heap.size wr wd := bkb hBb K1 (by have := hBb.size; omega) (by simp; omega)
          go_wp2_with fail
          refine (HOP.out bp wd hDcd hTd h6p).mono ?_
          rintro e we ⟨gp, Ap, cp, rfl, hgp, Pp, Op, Kp⟩
          have hDde := Kp.dk hDd (by simp; omega)
          have hBe : Below wr.heap.size wr we := bkb hBd Kp (by have := hBd.size; omega) (by simp; omega)
          have hbd1 : br < wd.heap.size := hDd.lt
          have hde : wd.heap.size ≤ we.heap.size := Kp.size
          go_wp2_with fail
          refine (HOR.out br we hDde).mono ?_
          intro e wf hx
          unfold OpenEnd at hx
          rw [HOPN.out] at hx
          simp only at hx
          rw [HG.out] at hx
          obtain ⟨hDf, Kf, hx⟩ := hx
          rcases hx with ⟨hc, _⟩ | ⟨_, gr, vr, rfl, hgr, hgr2, Lr, Or⟩
          · cases hc
          · obtain ⟨Ar, cr, rfl⟩ := own_form Or
            have Lp := Kf.lg Pp.lg (by simp; omega)
            have Dp := Kf.dk Pp.dk (by simp; omega)
            have Op2 := Op.kb1 Kf (by intro k e; have h2 := (OwnT.lt Op k e).1; simp; omega)
            have hBf : Below wr.heap.size wr wf := bkb hBe Kf (by have := hBe.size; omega) (by simp; omega)
            obtain ⟨_, _, eqa, Ra⟩ := OwnT.form Op2
            obtain ⟨_, _, eqb, Rb⟩ := OwnT.form Or
            simp only [Value.slice.injEq, true_and] at eqa eqb
            obtain ⟨rfl, rfl⟩ := eqa
            obtain ⟨rfl, rfl⟩ := eqb
            clear HOPN HG HWP HWR HOP HOR
            go_wp2_with fail
            refine (same_T Ap Ar G.length G.length cp cr G G wf Ra Rb (by omega) (by omega)).mono ?_
            rintro e wg ⟨rfl, hEg⟩
            rw [decide_eq_true (rfl : G = G)]
            have RP := read_p bp d' wg (Dp.ext hEg)
            have RR := read_r br d' wg (hDf.ext hEg)
            generalize (⟨d'.text.toArray⟩ : ByteArray) = zv at RP RR
            have HRP := Lib.hid RP
            have HRR := Lib.hid RR
            clear RP RR
            go_wp2_with fail
            refine (count_p gp G.length (some bp) false wg (Lp.ext hEg)).mono ?_
            rintro e w' ⟨rfl, rfl⟩
            go_wp2_with fail
            refine (count_r gr G.length (some br) false _ (Lr.ext hEg)).mono ?_
            rintro e w' ⟨rfl, rfl⟩
            go_wp2_with fail
            refine HRP.out.mono ?_
            rintro e w' ⟨rfl, rfl⟩
            go_wp2_with fail
            refine HRR.out.mono ?_
            rintro e w' ⟨rfl, rfl⟩
            go_wp2_with fail
            go_roundw
            case rel => exact ⟨q + 1, by omega, by go_num, hEr.trans (Below.trans hBf (hEg.below.mono hBf.size))⟩
            case measure => simp [intOf]; omega
        · have tq : decide ((q : Int) < 5) = false := by simp; omega
          go_wp2_with fail
          go_ret
          exact ⟨rfl, hW5.trans hEr⟩
end Go.Proofs.YthppcmejffdicaaGreatDoor
