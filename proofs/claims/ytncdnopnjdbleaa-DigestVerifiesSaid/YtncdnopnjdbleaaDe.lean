/- The contract of digest.Check. -/
import Derived.Test.YtncdnopnjdbleaaDd
import Derived.Test.YtncdnopnjdbleaaMono
import Derived.BigQuiet
import Derived.Deep.QuietTactic
namespace Go.Proofs.Ytncdnopnjdbleaa
open Go.RowKit Hach

theorem list8 {α : Type} (l : List α) (h : l.length = 8) : ∃ a b c d e f g i, l = [a, b, c, d, e, f, g, i] := by
  match l, h with
  | [a, b, c, d, e, f, g, i], _ => exact ⟨a, b, c, d, e, f, g, i, rfl⟩

/- a slice of eight bytes as an array; arrays compared -/
theorem run_arrayAt8 (w : World) (a : Addr) (c : Nat) : (Instr.arrayAt 52 (.slice (some a) 8 c)).run Try.prog w = .ok (.pointer (some a)) w := by
  unfold Instr.arrayAt
  simp [run_underlying Try.underlying52]
theorem run_eqarr (w : World) (x0 x1 x2 x3 x4 x5 x6 x7 y0 y1 y2 y3 y4 y5 y6 y7 : Int) :
    (Op.equalIn 10000 52 (.agg #[.int .u8 x0, .int .u8 x1, .int .u8 x2, .int .u8 x3, .int .u8 x4, .int .u8 x5, .int .u8 x6, .int .u8 x7]) (.agg #[.int .u8 y0, .int .u8 y1, .int .u8 y2, .int .u8 y3, .int .u8 y4, .int .u8 y5, .int .u8 y6, .int .u8 y7])).run Try.prog w =
      .ok (([x0, x1, x2, x3, x4, x5, x6, x7] : List Int) == [y0, y1, y2, y3, y4, y5, y6, y7]) w := by
  have he : ∀ (a b : Int), (Op.equalIn 9999 5 (.int .u8 a) (.int .u8 b)).run Try.prog w = .ok (a == b) w := fun a b => run_equalIn_int w 9998 _ _ _ a b Try.underlying5
  have hr : List.range' 0 8 = [0, 1, 2, 3, 4, 5, 6, 7] := rfl
  unfold Op.equalIn
  simp [run_underlying Try.underlying52, hr, part, he, Try.sizeOf5, Try.isAgg5]
  (repeat' split) <;> simp [*]
/- a digest and a string of eight bytes -/
theorem nat_beq (c d : UInt8) : ((c.toNat : Int) == (d.toNat : Int)) = (c == d) := by
  rw [Bool.eq_iff_iff, beq_iff_eq, beq_iff_eq]
  exact ⟨fun h => UInt8.toNat_inj.1 (Int.ofNat.inj h), fun h => by rw [h]⟩
theorem same8 (L : List UInt8) (c0 c1 c2 c3 c4 c5 c6 c7 : UInt8) :
    ((c0.toNat : Int) == (dgb L 0 : Int) && ((c1.toNat : Int) == (dgb L 1 : Int) && ((c2.toNat : Int) == (dgb L 2 : Int) && ((c3.toNat : Int) == (dgb L 3 : Int) && ((c4.toNat : Int) == (dgb L 4 : Int) && ((c5.toNat : Int) == (dgb L 5 : Int) && ((c6.toNat : Int) == (dgb L 6 : Int) && (c7.toNat : Int) == (dgb L 7 : Int))))))))
      = ((⟨#[c0, c1, c2, c3, c4, c5, c6, c7]⟩ : ByteArray).toList == (dgs L).toList) := by
  rw [ByteArray.toList_eq, ByteArray.toList_eq]
  unfold dgb dgs
  obtain ⟨d0, d1, d2, d3, d4, d5, d6, d7, e⟩ := list8 (dgl L) (dgl_length L)
  rw [e]
  simp only [List.getD_cons_zero, List.getD_cons_succ, nat_beq]
  rw [Bool.eq_iff_iff, beq_iff_eq]
  simp
theorem chk_ne {k m x : ByteArray} (hx : ¬ x.size = 8) : chk k m x = false := by
  unfold chk
  have : (x.toList == (mrk k m).toList) = false := by
    rw [beq_eq_false_iff_ne, ByteArray.toList_eq, ByteArray.toList_eq]
    intro e
    rw [ba_ext e] at hx
    exact hx (mrk_size k m)
  rw [this, Bool.and_false]

set_option maxHeartbeats 400000 in
theorem Check_any (k m x : ByteArray) (w : World) (h : k.size < 429496729) (h2 : m.size < 429496729) :
    Calls Try.prog 18 #[.string k, .string m, .string x] w fun e w' => e = .returned (.bool (chk k m x)) ∧ Below w.heap.size w w' := by
  by_cases hk : k.toList = []
  · have hk2 : (!k.toList.isEmpty) = false := by rw [hk]; rfl
    go_enter Try.func18, Try.ntmps18
    go_wp2_with fail
    go_quiet (fail)
    go_wp2_with fail
    go_ret
    exact ⟨by simp [chk, hk], below_drewN (Below.refl _ _) _⟩
  · have hk2 : (!k.toList.isEmpty) = true := by simp [hk]
    by_cases hx : x.size = 8
    · obtain ⟨l⟩ := x
      obtain ⟨l⟩ := l
      obtain ⟨c0, c1, c2, c3, c4, c5, c6, c7, rfl⟩ := list8 l hx
      have hconv := fun (wx : World) (s : ByteArray) => run_bytes_of_string (P := Try.prog) wx 9 32 5 s Try.underlying9 Try.underlying32 Try.underlying5
      have harr := fun (wx : World) (a : Addr) (c : Nat) => run_arrayAt8 wx a c
      have heq := run_eqarr
      obtain ⟨L, hL⟩ : ∃ L, cat [⟨#[2]⟩, b4 k.size, k, m, k] = L := ⟨_, rfl⟩
      have HL := Lib.hid hL
      clear hL
      go_enter Try.func18, Try.ntmps18
      go_wp2_with fail
      apply wp_region_seq (l := [_, _, _, _, _, _, _, _, _, _, _, _, _, _, _, _, _]) (t := [_]) [some 7, some 8, some 9, some 10, some 11, some 12, some 13, some 14, some 15, some 16, some 17, some 18, some 19, some 20, some 21, some 22, some 23, some 6] [[], [0], [1], [2], [2, 3], [2, 4], [2, 5], [6], [7], [7, 8], [7, 9], [7, 10], [7], [7], [7, 12, 13], [7, 11, 14], [7, 15], [16]] [17, 17, 17, 17, 17, 17, 17, 17, 17, 17, 17, 17, 17, 17, 17, 17, 17] [eqv _, eqv _, eqv _, eqv _, eqv _, eqv _, eqv _, eqv _, eqv _, (slBytes [c0, c1, c2, c3, c4, c5, c6, c7]), (ptrBytes [c0, c1, c2, c3, c4, c5, c6, c7]), eqv _, eqv _, eqv _, (eqv (.agg #[.int .u8 (dgb L 0), .int .u8 (dgb L 1), .int .u8 (dgb L 2), .int .u8 (dgb L 3), .int .u8 (dgb L 4), .int .u8 (dgb L 5), .int .u8 (dgb L 6), .int .u8 (dgb L 7)])), eqv _, eqv _] (by kernel_rfl) (by kernel_rfl) ⟨?o0, ?o1, ?o2, ?o3, ?o4, ?o5, ?o6, ?o7, ?o8, ?o9, ?o10, ?o11, ?o12, ?o13, ?o14, ?o15, ?o16, trivial⟩ ?last
      case o0 => -- Op.move (Operand.tmp 0)
        intro xv W hE _
        simp only [putD, List.foldl_nil, List.getD_cons_zero]
        refine OpGoal.plain ?_
        go_wp2_with fail
        exact ⟨rfl, Ext.refl _, rfl⟩
      case o1 => -- Op.binOp BinOp.neq 9 (Operand.tmp 7) (Operand.const (Value.string { data := #[] 
        intro xv W hE hp
        have r0 : xv 0 = _ := hp.1
        clear hp
        simp only [putD, List.foldl_nil, List.foldl_cons, List.getD_cons_zero, List.getD_cons_succ, Act.put, List.setIfInBounds_toArray, List.set_cons_zero, List.set_cons_succ]
        refine OpGoal.plain ?_
        go_wp2_with fail
        exact ⟨rfl, Ext.refl _, rfl⟩
      case o2 => -- Op.move (Operand.tmp 8)
        intro xv W hE hp
        have r1 : xv 1 = _ := hp.1
        clear hp
        simp only [putD, List.foldl_nil, List.foldl_cons, List.getD_cons_zero, List.getD_cons_succ, Act.put, List.setIfInBounds_toArray, List.set_cons_zero, List.set_cons_succ]
        refine OpGoal.plain ?_
        go_wp2_with fail
        exact ⟨rfl, Ext.refl _, rfl⟩
      case o3 => -- Op.move (Operand.tmp 2)  GUARD (2, 'true')
        intro xv W hE hp
        have r2 : xv 2 = _ := hp.1
        clear hp
        simp only [putD, List.foldl_nil, List.foldl_cons, List.getD_cons_zero, List.getD_cons_succ, Act.put, List.setIfInBounds_toArray, List.set_cons_zero, List.set_cons_succ]
        refine OpGoal.yes (by simp [yieldD, r2]) ?_
        go_wp2_with fail
        exact ⟨rfl, Ext.refl _, rfl⟩
      case o4 => -- Op.call { callee := Callee.builtin Builtin.len, args := #[Operand.tmp 10], argTy
        intro xv W hE hp
        have r2 : xv 2 = _ := hp.1
        have r3 : xv 3 = _ := hp.2.1
        clear hp
        simp only [putD, List.foldl_nil, List.foldl_cons, List.getD_cons_zero, List.getD_cons_succ, Act.put, List.setIfInBounds_toArray, List.set_cons_zero, List.set_cons_succ]
        refine OpGoal.yes (by simp [yieldD, r2]) ?_
        go_wp2_with fail
        exact ⟨rfl, Ext.refl _, rfl⟩
      case o5 => -- Op.binOp BinOp.eql 3 (Operand.tmp 11) (Operand.const (Value.int IntKind.i64 8)) 
        intro xv W hE hp
        have r2 : xv 2 = _ := hp.1
        have r4 : xv 4 = _ := hp.2.1
        clear hp
        simp only [putD, List.foldl_nil, List.foldl_cons, List.getD_cons_zero, List.getD_cons_succ, Act.put, List.setIfInBounds_toArray, List.set_cons_zero, List.set_cons_succ]
        refine OpGoal.yes (by simp [yieldD, r2]) ?_
        go_wp2_with fail
        exact ⟨rfl, Ext.refl _, rfl⟩
      case o6 => -- Op.pick (Operand.tmp 9) (Operand.tmp 12) (Operand.const (Value.bool false))
        intro xv W hE hp
        have r2 : xv 2 = _ := hp.1
        have r5 : xv 5 = _ := hp.2.1
        clear hp
        simp only [putD, List.foldl_nil, List.foldl_cons, List.getD_cons_zero, List.getD_cons_succ, Act.put, List.setIfInBounds_toArray, List.set_cons_zero, List.set_cons_succ]
        refine OpGoal.plain ?_
        go_wp2_with fail
        exact ⟨rfl, Ext.refl _, rfl⟩
      case o7 => -- Op.move (Operand.tmp 13)
        intro xv W hE hp
        have r6 : xv 6 = _ := hp.1
        clear hp
        simp only [putD, List.foldl_nil, List.foldl_cons, List.getD_cons_zero, List.getD_cons_succ, Act.put, List.setIfInBounds_toArray, List.set_cons_zero, List.set_cons_succ]
        refine OpGoal.plain ?_
        go_wp2_with fail
        exact ⟨rfl, Ext.refl _, rfl⟩
      case o8 => -- Op.move (Operand.tmp 2)  GUARD (7, 'true')
        intro xv W hE hp
        have r7 : xv 7 = _ := hp.1
        clear hp
        simp only [putD, List.foldl_nil, List.foldl_cons, List.getD_cons_zero, List.getD_cons_succ, Act.put, List.setIfInBounds_toArray, List.set_cons_zero, List.set_cons_succ]
        refine OpGoal.yes (by simp [yieldD, r7]) ?_
        go_wp2_with fail
        exact ⟨rfl, Ext.refl _, rfl⟩
      case o9 => -- Op.convert 9 32 (Operand.tmp 15)  GUARD (7, 'true')
        intro xv W hE hp
        have r7 : xv 7 = _ := hp.1
        have r8 : xv 8 = _ := hp.2.1
        clear hp
        simp only [putD, List.foldl_nil, List.foldl_cons, List.getD_cons_zero, List.getD_cons_succ, Act.put, List.setIfInBounds_toArray, List.set_cons_zero, List.set_cons_succ]
        refine OpGoal.yes (by simp [yieldD, r7]) ?_
        go_wp2_with fail
        refine ⟨rfl, ((Ext.alloc _ _).trans (Ext.drew _)), _, _, rfl, by simp, fun j hj => ?_⟩
        have := bytesRow_at ⟨#[c0, c1, c2, c3, c4, c5, c6, c7]⟩ (grownCap W 8 0 5) j (by simpa using hj)
        rw [World.cell?_drew, World.cell?_alloc_mark]
        exact this
      case o10 => -- Op.sliceToArrayPointer 52 (Operand.tmp 16)  GUARD (7, 'true')
        intro xv W hE hp
        have r7 : xv 7 = _ := hp.1
        obtain ⟨g, cap, r9, hg⟩ := hp.2.1
        clear hp
        simp only [putD, List.foldl_nil, List.foldl_cons, List.getD_cons_zero, List.getD_cons_succ, Act.put, List.setIfInBounds_toArray, List.set_cons_zero, List.set_cons_succ]
        refine OpGoal.yes (by simp [yieldD, r7]) ?_
        go_wp2_with fail
        exact ⟨rfl, Ext.refl _, g, rfl, hg⟩
      case o11 => -- Op.load 52 (Operand.tmp 17)  GUARD (7, 'true')
        intro xv W hE hp
        have r7 : xv 7 = _ := hp.1
        obtain ⟨g, r10, hg⟩ := hp.2.1
        clear hp
        have q0 := hg.2 0 (by simp)
        have q1 := hg.2 1 (by simp)
        have q2 := hg.2 2 (by simp)
        have q3 := hg.2 3 (by simp)
        have q4 := hg.2 4 (by simp)
        have q5 := hg.2 5 (by simp)
        have q6 := hg.2 6 (by simp)
        have q7 := hg.2 7 (by simp)
        simp only [List.getElem_cons_zero, List.getElem_cons_succ] at q0 q1 q2 q3 q4 q5 q6 q7
        simp only [putD, List.foldl_nil, List.foldl_cons, List.getD_cons_zero, List.getD_cons_succ, Act.put, List.setIfInBounds_toArray, List.set_cons_zero, List.set_cons_succ]
        refine OpGoal.yes (by simp [yieldD, r7]) ?_
        go_wp2_with fail
        exact ⟨rfl, Ext.refl _, rfl⟩
      case o12 => -- Op.move (Operand.tmp 0)  GUARD (7, 'true')
        intro xv W hE hp
        have r7 : xv 7 = _ := hp.1
        clear hp
        simp only [putD, List.foldl_nil, List.foldl_cons, List.getD_cons_zero, List.getD_cons_succ, Act.put, List.setIfInBounds_toArray, List.set_cons_zero, List.set_cons_succ]
        refine OpGoal.yes (by simp [yieldD, r7]) ?_
        go_wp2_with fail
        exact ⟨rfl, Ext.refl _, rfl⟩
      case o13 => -- Op.move (Operand.tmp 1)  GUARD (7, 'true')
        intro xv W hE hp
        have r7 : xv 7 = _ := hp.1
        clear hp
        simp only [putD, List.foldl_nil, List.foldl_cons, List.getD_cons_zero, List.getD_cons_succ, Act.put, List.setIfInBounds_toArray, List.set_cons_zero, List.set_cons_succ]
        refine OpGoal.yes (by simp [yieldD, r7]) ?_
        go_wp2_with fail
        exact ⟨rfl, Ext.refl _, rfl⟩
      case o14 => -- Op.call { callee := Callee.value (Operand.func 35), args := #[Operand.tmp 19, Op
        intro xv W hE hp
        have r7 : xv 7 = _ := hp.1
        have r12 : xv 12 = _ := hp.2.1
        have r13 : xv 13 = _ := hp.2.2.1
        clear hp
        simp only [putD, List.foldl_nil, List.foldl_cons, List.getD_cons_zero, List.getD_cons_succ, Act.put, List.setIfInBounds_toArray, List.set_cons_zero, List.set_cons_succ]
        refine OpGoal.yes (by simp [yieldD, r7]) ?_
        go_wp2_with fail
        refine (marked_any k m W (by omega) (by omega)).mono ?_
        rintro e w' ⟨rfl, hb⟩
        go_wp2_with fail
        exact ⟨rfl, hb, by rw [HL.out]; rfl⟩
      case o15 => -- Op.binOp BinOp.eql 52 (Operand.tmp 18) (Operand.tmp 21) 52  GUARD (7, 'true')
        intro xv W hE hp
        have r7 : xv 7 = _ := hp.1
        have r11 : xv 11 = _ := hp.2.1
        have r14 : xv 14 = _ := hp.2.2.1
        clear hp
        simp only [putD, List.foldl_nil, List.foldl_cons, List.getD_cons_zero, List.getD_cons_succ, Act.put, List.setIfInBounds_toArray, List.set_cons_zero, List.set_cons_succ]
        refine OpGoal.yes (by simp [yieldD, r7]) ?_
        go_wp2_with fail
        exact ⟨rfl, Ext.refl _, rfl⟩
      case o16 => -- Op.pick (Operand.tmp 14) (Operand.tmp 22) (Operand.const (Value.bool false))
        intro xv W hE hp
        have r7 : xv 7 = _ := hp.1
        have r15 : xv 15 = _ := hp.2.1
        clear hp
        simp only [putD, List.foldl_nil, List.foldl_cons, List.getD_cons_zero, List.getD_cons_succ, Act.put, List.setIfInBounds_toArray, List.set_cons_zero, List.set_cons_succ]
        refine OpGoal.plain ?_
        go_wp2_with fail
        exact ⟨rfl, Ext.refl _, rfl⟩
      case last =>
        intro xv W hE hp
        have r0 : xv 0 = _ := hp.1
        have r1 : xv 1 = _ := hp.2.1
        have r2 : xv 2 = _ := hp.2.2.1
        have r3 : xv 3 = _ := hp.2.2.2.1
        have r4 : xv 4 = _ := hp.2.2.2.2.1
        have r5 : xv 5 = _ := hp.2.2.2.2.2.1
        have r6 : xv 6 = _ := hp.2.2.2.2.2.2.1
        have r7 : xv 7 = _ := hp.2.2.2.2.2.2.2.1
        have r8 : xv 8 = _ := hp.2.2.2.2.2.2.2.2.1
        obtain ⟨g, cap, r9, hg⟩ := hp.2.2.2.2.2.2.2.2.2.1
        obtain ⟨g, r10, hg⟩ := hp.2.2.2.2.2.2.2.2.2.2.1
        have r11 : xv 11 = _ := hp.2.2.2.2.2.2.2.2.2.2.2.1
        have r12 : xv 12 = _ := hp.2.2.2.2.2.2.2.2.2.2.2.2.1
        have r13 : xv 13 = _ := hp.2.2.2.2.2.2.2.2.2.2.2.2.2.1
        have r14 : xv 14 = _ := hp.2.2.2.2.2.2.2.2.2.2.2.2.2.2.1
        have r15 : xv 15 = _ := hp.2.2.2.2.2.2.2.2.2.2.2.2.2.2.2.1
        have r16 : xv 16 = _ := hp.2.2.2.2.2.2.2.2.2.2.2.2.2.2.2.2.1
        clear hp
        simp only [putD, List.foldl_nil, List.foldl_cons, List.getD_cons_zero, List.getD_cons_succ, Act.put, List.length_cons, List.length_nil, List.range_succ, List.range_zero, List.nil_append, List.cons_append, List.setIfInBounds_toArray, List.set_cons_zero, List.set_cons_succ]
        go_wp2_with fail
        go_ret
        refine ⟨?_, (Ext.drew w).trans hE⟩
        show Ending.returned (.bool _) = _
        rw [same8, ← HL.out, mrk_cat, chk, hk2, Bool.true_and]
    · have hx2 : decide ((x.size : Int) = 8) = false := by simp; omega
      have hx3 : ((x.size : Int) == 8) = false := by simp; omega
      go_enter Try.func18, Try.ntmps18
      go_wp2_with fail
      go_quiet (fail)
      go_wp2_with fail
      go_ret
      exact ⟨by rw [chk_ne hx]; rfl, below_drewN (Below.refl _ _) _⟩
end Go.Proofs.Ytncdnopnjdbleaa
