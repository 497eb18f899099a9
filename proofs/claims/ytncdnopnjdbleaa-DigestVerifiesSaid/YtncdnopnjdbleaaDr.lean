/- The statement DigestOne: at every input the call returns true and its arguments read as they did. No condition. -/
import Derived.Test.YtncdnopnjdbleaaDo
import Derived.Test.YtncdnopnjdbleaaDq
namespace Go.Proofs.Ytncdnopnjdbleaa
open Go.RowKit Hach
open Go.ChangeShapes Go.WideShapes Go.ChangeAt
open Go.ChangeMaps (open_string shut_string)

theorem bits_xor_u8 (a b : Nat) (ha : a < 256) (hb : b < 256) : bits .xor .u8 (a : Int) (b : Int) = ((a ^^^ b : Nat) : Int) := by
  have hx : a ^^^ b < 2 ^ 8 := Nat.xor_lt_two_pow (by omega) (by omega)
  have h1 : (BitVec.ofInt 8 (a : Int)).toNat = a := by
    rw [BitVec.ofInt_natCast, BitVec.toNat_ofNat]; exact Nat.mod_eq_of_lt (by omega)
  have h2 : (BitVec.ofInt 8 (b : Int)).toNat = b := by
    rw [BitVec.ofInt_natCast, BitVec.toNat_ofNat]; exact Nat.mod_eq_of_lt (by omega)
  show IntKind.u8.wrap ((BitVec.ofInt 8 (a : Int) ^^^ BitVec.ofInt 8 (b : Int)).toNat : Int) = _
  rw [BitVec.toNat_xor, h1, h2, IntKind.wrap_u8]
  omega
theorem xor_ne {x z : UInt8} (h : ¬ z = 0) : x ≠ x ^^^ z := fun e => h (by
  have e2 : x ^^^ (x ^^^ z) = x ^^^ x := by rw [← e]
  rw [← UInt8.xor_assoc, UInt8.xor_self, UInt8.zero_xor] at e2
  exact e2)
theorem byte_text {w : World} {g : Nat} {y : UInt8} (h : w.cell? ⟨g, 0, none⟩ = some (.int .u8 (y.toNat : Nat))) (c : Nat) : (convert 32 9 (.slice (some ⟨g, 0, none⟩) 1 c)).run Try.prog w = .ok (.string ⟨#[y]⟩) w := by
  have hc := run_convert_bytes_arg (P := Try.prog) w 32 5 Try.underlying32 Try.underlying5 g 0 1 c [(y.toNat : Int)] rfl (by
    intro i hi
    obtain rfl : i = 0 := by simpa using hi
    exact h) 9 Try.underlying9
  rw [hc]
  simp [strOfNums]
theorem get_data (s : ByteArray) (k : Nat) (h : k < s.size) : s[k] = s.data.toList.getD k 0 := by
  have hl : k < s.data.toList.length := by rw [Array.length_toList]; exact h
  rw [List.getD, List.getElem?_eq_getElem hl]
  simp
  rfl

theorem root_one (s : ByteArray) : rootS [s] = lf s := by
  unfold rootS lvs fill
  rw [rootL_one (by simp [p2, p2f])]
  rfl

set_option maxHeartbeats 400000 in
theorem DigestOne_none (s : ByteArray) (n c : Int) (w : World) (hs : s.size ≤ maxLen) (h : s.size = 0) :
    Calls Try.prog 5 #[.string s, .int .u16 n, .int .u8 c] w fun e w' => e = .returned (.bool true) ∧ Below w.heap.size w w' := by
  have h0 : (cut200 s).size = 0 := by unfold cut200; rw [ByteArray.size_extract]; omega
  have t : (((cut200 s).size : Int) == 0) = true := by rw [h0]; rfl
  clear h h0
  go_enter Try.func5, Try.ntmps5
  go_wp2_with fail
  refine (sanity_any _).mono ?_
  rintro e w1 ⟨rfl, hb1⟩
  go_wp2_with fail
  refine (cut_any s _ hs).mono ?_
  rintro e w' ⟨rfl, rfl⟩
  generalize cut200 s = s at t
  go_wp2_with fail
  go_ret
  exact ⟨rfl, hb1⟩

set_option maxHeartbeats 400000 in
theorem DigestOne_some (s : ByteArray) (n c : Nat) (w : World) (hs : s.size ≤ maxLen) (hn : n < 65536) (hc : c < 256) (h : 0 < s.size) :
    Calls Try.prog 5 #[.string s, .int .u16 n, .int .u8 c] w fun e w' => e = .returned (.bool true) ∧ Below w.heap.size w w' := by
  have h0 : 0 < (cut200 s).size := by unfold cut200; rw [ByteArray.size_extract]; omega
  have h1 := cut200_size s
  clear h
  go_enter Try.func5, Try.ntmps5
  go_wp2_with fail
  refine (sanity_any _).mono ?_
  rintro e w1 ⟨rfl, hb1⟩
  go_wp2_with fail
  refine (cut_any s _ hs).mono ?_
  rintro e w' ⟨rfl, rfl⟩
  generalize cut200 s = s at h0 h1
  have t : ((s.size : Int) == 0) = false := by rw [beq_eq_false_iff_ne]; omega
  obtain ⟨k, hk⟩ : ∃ k, n % s.size = k := ⟨_, rfl⟩
  have hks : k < s.size := by rw [← hk]; exact Nat.mod_lt _ h0
  have hkk : (n : Int) % (s.size : Int) = k := by rw [← hk]; rfl
  have hkt : (n : Int).tmod (s.size : Int) = k := by rw [← hk]; rfl
  go_wp2_with fail
  obtain ⟨x, hx⟩ : ∃ x : UInt8, s.data.toList.getD k 0 = x := ⟨_, rfl⟩
  obtain ⟨y, hy⟩ : ∃ y : UInt8, x ^^^ UInt8.ofNat (max c 1) = y := ⟨_, rfl⟩
  have HX := Lib.hid hx
  have HY := Lib.hid hy
  clear hx hy
  apply wp_region_seq (l := [_, _, _, _, _, _, _, _, _, _, _, _, _, _, _, _]) (t := [_, _]) [some 22, some 23, some 24, some 25, some 26, some 27, some 28, some 29, some 30, some 31, some 32, some 33, some 34, some 35, some 36, some 37, some 38, some 9] [[], [], [0, 1], [], [], [3, 4], [], [6], [5, 7], [8], [9], [2, 10], [], [], [13], [12, 14], [11, 15], [16]] [2, 2, 11, 5, 5, 8, 7, 8, 9, 10, 11, 16, 15, 14, 15, 16] [eqv _, eqv _, eqv _, eqv _, eqv _, (eqv (.int .u8 (x.toNat : Nat))), eqv _, eqv _, (eqv (.int .u8 (y.toNat : Nat))), (slBytes [y]), (eqv (.string ⟨#[y]⟩)), eqv _, eqv _, eqv _, eqv _, eqv _] (by kernel_rfl) (by kernel_rfl) ⟨?o0, ?o1, ?o2, ?o3, ?o4, ?o5, ?o6, ?o7, ?o8, ?o9, ?o10, ?o11, ?o12, ?o13, ?o14, ?o15, trivial⟩ ?last
  case o0 => -- Op.move (Operand.tmp 0)
    intro xv W hE _
    simp only [putD, List.foldl_nil, List.getD_cons_zero]
    refine OpGoal.plain ?_
    go_wp2_with fail
    exact ⟨rfl, Ext.refl _, rfl⟩
  case o1 => -- Op.move (Operand.tmp 8)
    intro xv W hE _
    simp only [putD, List.foldl_nil, List.getD_cons_zero, List.getD_cons_succ]
    refine OpGoal.plain ?_
    go_wp2_with fail
    exact ⟨rfl, Ext.refl _, rfl⟩
  case o2 => -- Op.slice 9 (Operand.tmp 22) none (some (Operand.tmp 23)) none
    intro xv W hE hp
    have r0 : xv 0 = _ := hp.1
    have r1 : xv 1 = _ := hp.2.1
    clear hp
    simp only [putD, List.foldl_nil, List.foldl_cons, List.getD_cons_zero, List.getD_cons_succ, Act.put, List.setIfInBounds_toArray, List.set_cons_zero, List.set_cons_succ]
    refine OpGoal.plain ?_
    go_wp2_with fail
    exact ⟨rfl, Ext.refl _, rfl⟩
  case o3 => -- Op.move (Operand.tmp 0)
    intro xv W hE _
    simp only [putD, List.foldl_nil, List.getD_cons_zero, List.getD_cons_succ]
    refine OpGoal.plain ?_
    go_wp2_with fail
    exact ⟨rfl, Ext.refl _, rfl⟩
  case o4 => -- Op.move (Operand.tmp 8)
    intro xv W hE _
    simp only [putD, List.foldl_nil, List.getD_cons_zero, List.getD_cons_succ]
    refine OpGoal.plain ?_
    go_wp2_with fail
    exact ⟨rfl, Ext.refl _, rfl⟩
  case o5 => -- Op.index 9 (Operand.tmp 25) (Operand.tmp 26)
    intro xv W hE hp
    have r3 : xv 3 = _ := hp.1
    have r4 : xv 4 = _ := hp.2.1
    clear hp
    simp only [putD, List.foldl_nil, List.foldl_cons, List.getD_cons_zero, List.getD_cons_succ, Act.put, List.setIfInBounds_toArray, List.set_cons_zero, List.set_cons_succ]
    refine OpGoal.plain ?_
    go_wp2_with fail
    refine ⟨rfl, Ext.refl _, ?_⟩
    show Value.int .u8 _ = Value.int .u8 _
    rw [get_data s k hks, HX.out]
  case o6 => -- Op.move (Operand.tmp 2)
    intro xv W hE _
    simp only [putD, List.foldl_nil, List.getD_cons_zero, List.getD_cons_succ]
    refine OpGoal.plain ?_
    go_wp2_with fail
    exact ⟨rfl, Ext.refl _, rfl⟩
  case o7 => -- Op.call { callee := Callee.builtin Builtin.max, args := #[Operand.tmp 28, Operan
    intro xv W hE hp
    have r6 : xv 6 = _ := hp.1
    clear hp
    simp only [putD, List.foldl_nil, List.foldl_cons, List.getD_cons_zero, List.getD_cons_succ, Act.put, List.setIfInBounds_toArray, List.set_cons_zero, List.set_cons_succ]
    refine OpGoal.plain ?_
    go_wp2_with fail
    exact ⟨rfl, Ext.refl _, rfl⟩
  case o8 => -- Op.binOp BinOp.xor 5 (Operand.tmp 27) (Operand.tmp 29) 5
    intro xv W hE hp
    have r5 : xv 5 = _ := hp.1
    have r7 : xv 7 = _ := hp.2.1
    clear hp
    simp only [putD, List.foldl_nil, List.foldl_cons, List.getD_cons_zero, List.getD_cons_succ, Act.put, List.setIfInBounds_toArray, List.set_cons_zero, List.set_cons_succ]
    refine OpGoal.plain ?_
    go_wp2_with fail
    refine ⟨rfl, Ext.refl _, ?_⟩
    show Value.int .u8 _ = Value.int .u8 _
    rw [show (max (c : Int) 1) = ((max c 1 : Nat) : Int) by omega, bits_xor_u8 _ _ x.toNat_lt (by omega), ← HY.out, UInt8.toNat_xor, UInt8.toNat_ofNat_of_lt' (by show max c 1 < 256; omega)]
  case o9 => -- Op.buildSlice 32 1 #[(0, Operand.tmp 30)]
    intro xv W hE hp
    have r8 : xv 8 = _ := hp.1
    clear hp
    simp only [putD, List.foldl_nil, List.foldl_cons, List.getD_cons_zero, List.getD_cons_succ, Act.put, List.setIfInBounds_toArray, List.set_cons_zero, List.set_cons_succ]
    refine OpGoal.plain ?_
    go_wp2_with fail
    refine ⟨rfl, Ext.alloc _ _, W.heap.size, 1, rfl, by simp, fun j hj => ?_⟩
    obtain rfl : j = 0 := by simpa using hj
    simp
  case o10 => -- Op.convert 32 9 (Operand.tmp 31)
    intro xv W hE hp
    obtain ⟨g, cap, r9, hg⟩ := hp.1
    clear hp
    have q0 := hg.2 0 (by simp)
    simp only [List.getElem_cons_zero] at q0
    have hcv := byte_text q0 cap
    simp only [putD, List.foldl_nil, List.foldl_cons, List.getD_cons_zero, List.getD_cons_succ, Act.put, List.setIfInBounds_toArray, List.set_cons_zero, List.set_cons_succ]
    refine OpGoal.plain ?_
    go_wp2_with fail
    exact ⟨rfl, Ext.refl _, rfl⟩
  case o11 => -- Op.binOp BinOp.add 9 (Operand.tmp 24) (Operand.tmp 32) 9
    intro xv W hE hp
    have r2 : xv 2 = _ := hp.1
    have r10 : xv 10 = _ := hp.2.1
    clear hp
    simp only [putD, List.foldl_nil, List.foldl_cons, List.getD_cons_zero, List.getD_cons_succ, Act.put, List.setIfInBounds_toArray, List.set_cons_zero, List.set_cons_succ]
    refine OpGoal.plain ?_
    go_wp2_with fail
    exact ⟨rfl, Ext.refl _, rfl⟩
  case o12 => -- Op.move (Operand.tmp 0)
    intro xv W hE _
    simp only [putD, List.foldl_nil, List.getD_cons_zero, List.getD_cons_succ]
    refine OpGoal.plain ?_
    go_wp2_with fail
    exact ⟨rfl, Ext.refl _, rfl⟩
  case o13 => -- Op.move (Operand.tmp 8)
    intro xv W hE _
    simp only [putD, List.foldl_nil, List.getD_cons_zero, List.getD_cons_succ]
    refine OpGoal.plain ?_
    go_wp2_with fail
    exact ⟨rfl, Ext.refl _, rfl⟩
  case o14 => -- Op.binOp BinOp.add 3 (Operand.tmp 35) (Operand.const (Value.int IntKind.i64 1)) 
    intro xv W hE hp
    have r13 : xv 13 = _ := hp.1
    clear hp
    simp only [putD, List.foldl_nil, List.foldl_cons, List.getD_cons_zero, List.getD_cons_succ, Act.put, List.setIfInBounds_toArray, List.set_cons_zero, List.set_cons_succ]
    refine OpGoal.plain ?_
    go_wp2_with fail
    exact ⟨rfl, Ext.refl _, rfl⟩
  case o15 => -- Op.slice 9 (Operand.tmp 34) (some (Operand.tmp 36)) none none
    intro xv W hE hp
    have r12 : xv 12 = _ := hp.1
    have r14 : xv 14 = _ := hp.2.1
    clear hp
    simp only [putD, List.foldl_nil, List.foldl_cons, List.getD_cons_zero, List.getD_cons_succ, Act.put, List.setIfInBounds_toArray, List.set_cons_zero, List.set_cons_succ]
    refine OpGoal.plain ?_
    go_wp2_with fail
    exact ⟨rfl, Ext.refl _, rfl⟩
  case last =>
    intro xv W hE hp
    have r0 : xv 0 = _ := hp.1
    have r1 : xv 1 = _ := hp.2.1
    have r2 : xv 2 = _ := hp.2.2.1
    have r3 : xv 3 = _ := hp.2.2.2.1
    have r4 : xv 4 = _ := hp.2.2.2.2.1
    have r5 : xv 5 = _ := hp.2.2.2.2.2.1
    have r6 : xv 6 = _ := hp.2.2.2.2.2.2.1
    have r7 : xv 7 = _ := hp.2.2.2.2.2.2.2.1
    have r8 : xv 8 = _ := hp.2.2.2.2.2.2.2.2.1
    obtain ⟨g, cap, r9, hg⟩ := hp.2.2.2.2.2.2.2.2.2.1
    have r10 : xv 10 = _ := hp.2.2.2.2.2.2.2.2.2.2.1
    have r11 : xv 11 = _ := hp.2.2.2.2.2.2.2.2.2.2.2.1
    have r12 : xv 12 = _ := hp.2.2.2.2.2.2.2.2.2.2.2.2.1
    have r13 : xv 13 = _ := hp.2.2.2.2.2.2.2.2.2.2.2.2.2.1
    have r14 : xv 14 = _ := hp.2.2.2.2.2.2.2.2.2.2.2.2.2.2.1
    have r15 : xv 15 = _ := hp.2.2.2.2.2.2.2.2.2.2.2.2.2.2.2.1
    clear hp
    simp only [putD, List.foldl_nil, List.foldl_cons, List.getD_cons_zero, List.getD_cons_succ, Act.put, List.length_cons, List.length_nil, List.range_succ, List.range_zero, List.nil_append, List.cons_append, List.setIfInBounds_toArray, List.set_cons_zero, List.set_cons_succ]
    go_wp2_with fail
    obtain ⟨o, ho⟩ : ∃ o, s.extract 0 k ++ ⟨#[y]⟩ ++ s.extract (k + 1) s.size = o := ⟨_, rfl⟩
    have hD : Differs s o := by
      rw [← ho]
      refine set1_differs hks ?_
      rw [HX.out, ← HY.out]
      refine xor_ne fun e => ?_
      have := congrArg UInt8.toNat e
      rw [UInt8.toNat_ofNat_of_lt' (by show max c 1 < 256; omega)] at this
      have z : (0 : UInt8).toNat = 0 := rfl
      omega
    have hos : o.size < 201 := by rw [← hD.size]; exact h1
    rw [ho]
    clear ho
    refine (Of_any _ _ (by omega)).mono ?_
    rintro e w2 ⟨rfl, hb2⟩
    go_wp2_with fail
    refine (Of_any _ _ (by omega)).mono ?_
    rintro e w3 ⟨rfl, hb3⟩
    have n1 : ((dg s).toList == (dg o).toList) = false := beq_eq_false_iff_ne.2 fun e => hD.dg (eq_of_toList e)
    go_wp2_with fail
    refine (Chain_any _ _ _ (by decide) (by omega)).mono ?_
    rintro e w4 ⟨rfl, hb4⟩
    go_wp2_with fail
    refine (Chain_any _ _ _ (by decide) (by omega)).mono ?_
    rintro e w5 ⟨rfl, hb5⟩
    have n2 : ((chn ⟨#[97]⟩ s).toList == (chn ⟨#[97]⟩ o).toList) = false := beq_eq_false_iff_ne.2 fun e => hD.chn _ (eq_of_toList e)
    go_wp2_with fail
    refine (Mark_any _ _ _ (by decide) (by omega)).mono ?_
    rintro e w6 ⟨rfl, hb6⟩
    go_wp2_with fail
    refine (Mark_any _ _ _ (by decide) (by omega)).mono ?_
    rintro e w7 ⟨rfl, hb7⟩
    have n3 : ((mrk ⟨#[97]⟩ s).toList == (mrk ⟨#[97]⟩ o).toList) = false := beq_eq_false_iff_ne.2 fun e => hD.mrk _ (eq_of_toList e)
    go_wp2_with fail
    refine (Root_any (some ⟨w7.heap.size, 0, none⟩) 1 1 [s] _ (strs_new w7 [s] _ _ _ rfl) (by decide) (getD_small (by decide) (fun z hz => by simp only [List.mem_singleton] at hz; subst hz; omega))).mono ?_
    rintro e w8 ⟨rfl, hb8⟩
    have hE8 : Ext w7 w8 := (Ext.alloc w7 _).trans hb8
    go_wp2_with fail
    refine (Root_any (some ⟨w8.heap.size, 0, none⟩) 1 1 [o] _ (strs_new w8 [o] _ _ _ rfl) (by decide) (getD_small (by decide) (fun z hz => by simp only [List.mem_singleton] at hz; subst hz; omega))).mono ?_
    rintro e w9 ⟨rfl, hb9⟩
    have hE9 : Ext w8 w9 := (Ext.alloc w8 _).trans hb9
    have n4 : ((rootS [s]).toList == (rootS [o]).toList) = false := beq_eq_false_iff_ne.2 fun e => hD.lf (by have := eq_of_toList e; rwa [root_one, root_one] at this)
    go_wp2_with fail
    go_ret
    have c2 : Ext w W := (show Ext w w1 from hb1).trans ((Ext.drew w1).trans hE)
    have c7 : Ext w w7 := (((((c2.trans hb2).trans hb3).trans hb4).trans hb5).trans hb6).trans hb7
    exact ⟨rfl, (c7.trans hE8).trans hE9⟩

theorem DigestOne_any (s : ByteArray) (n c : Int) (w : World) (hs : s.size ≤ maxLen) (hn : (Lit.int .u16 n).wf = true) (hc : (Lit.int .u8 c).wf = true) :
    Calls Try.prog 5 #[.string s, .int .u16 n, .int .u8 c] w fun e w' => e = .returned (.bool true) ∧ Below w.heap.size w w' := by
  by_cases h : s.size = 0
  · exact DigestOne_none s n c w hs h
  · have hn' := bounds_u16 hn
    have hc' := bounds_u8 hc
    obtain ⟨n', rfl⟩ : ∃ k : Nat, n = k := ⟨n.toNat, by omega⟩
    obtain ⟨c', rfl⟩ : ∃ k : Nat, c = k := ⟨c.toNat, by omega⟩
    exact DigestOne_some s n' c' w hs (by omega) (by omega) (by omega)

set_option maxRecDepth 100000 in
theorem digestOne_lifted (os : Os) (started : os.Started) (H : Type) (enc : TypeId × Value → H) :
    ReturnsInHanded {} Try.checked os 5 .any (Rows.digestOneSpec.pre6 enc Try.prog Try.f5 Rows.digestOneRow.domain false) (Rows.digestOneSpec.post enc Try.prog Try.f5 false true false false) := by
  refine returnsInHanded_of_change (C := Try.checked) knob started (by kernel_rfl) Try.func5
    (ChangeSpec.witness6 (enc := enc) (C := Try.checked) false ⟨#[], #[.string ByteArray.empty, .int .u16 0, .int .u8 0], []⟩ 8 (by kernel_rfl) (by kernel_rfl) (by kernel_rfl) (by kernel_rfl)) ?_
  intro W base args ds gs before hval0 hW hcnd _
  have hval : ∀ (j : Nat) t v, Try.f5.params[j]? = some t → args[j]? = some v → Value.okWide Try.prog W .any base t v := hval0
  have hW' := hW
  obtain ⟨p, q, hA0, hV, rfl, hfz, hnd⟩ := hW
  have hA : DataW.TrodAll enc Try.prog W 0 (fun _ => true) true Try.f5.params.toList args.toList ds p := hA0
  rw [Try.params5] at hA hval
  obtain ⟨v0, vs0, d0, ds0, p0, q0, hargs, rfl, rfl, h0, r0⟩ := trodAll_cons hA
  obtain ⟨v1, vs1, d1, ds1, p1, q1, rfl, rfl, rfl, h1, r1⟩ := trodAll_cons r0
  obtain ⟨v2, vs2, d2, ds2, p2, q2, rfl, rfl, rfl, h2, r2⟩ := trodAll_cons r1
  obtain ⟨rfl, rfl, rfl⟩ := trodAll_nil r2
  obtain rfl : args = #[v0, v1, v2] := by cases args; simp_all
  obtain ⟨rfl, rfl⟩ := trodVars_none hV
  obtain ⟨a0, rfl, rfl, rfl, w0⟩ := open_string Try.underlying9 (hval 0 9 v0 rfl rfl) h0
  obtain ⟨a1, rfl, rfl, rfl, w1⟩ := open_int Try.underlying31 (hval 1 31 v1 rfl rfl) h1
  obtain ⟨a2, rfl, rfl, rfl, w2⟩ := open_int Try.underlying5 (hval 2 5 v2 rfl rfl) h2
  clear hA0 hval0
  simp only [List.append_nil] at hW'
  refine (DigestOne_any a0 a1 a2 W w0 w1 w2).mono fun e W' ⟨he, hg⟩ => ?_
  subst he
  exact ⟨_, rfl, _, _, _, [], [], [], hW', trodAll_cons_mk (shut_bool Try.underlying4 _) trodAll_mk0, trodAll_cons_mk (shut_string Try.underlying9 w0) (trodAll_cons_mk (shut_int Try.underlying31 w1) (trodAll_cons_mk (shut_int Try.underlying5 w2) trodAll_mk0)), rfl, hg.frame _, fun h => by cases h⟩

theorem digestOne_holds : Rows.DigestOneSaid :=
  OpenClaim.holds_of_wide 5 Try.f5 rfl rfl rfl rfl rfl rfl rfl ⟨rfl, rfl, rfl, rfl, rfl⟩ rfl rfl rfl rfl rfl (by kernel_rfl) Try.func5 (by kernel_rfl)
    (of_decide_eq_true (by kernel_rfl)) (by unfold Func.isWrapper; first | (rw [if_pos (by decide +kernel)]; kernel_rfl) | (rw [if_neg (by decide +kernel)]; exact ⟨rfl, rfl⟩))
    (fun os started H enc _ => digestOne_lifted os started H enc)
#print axioms digestOne_holds
end Go.Proofs.Ytncdnopnjdbleaa
