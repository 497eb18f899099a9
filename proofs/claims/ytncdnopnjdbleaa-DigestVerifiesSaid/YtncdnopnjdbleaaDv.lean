/- The contract of digest.Verify. -/
import Derived.Test.YtncdnopnjdbleaaDe
import Derived.Test.YtncdnopnjdbleaaDg
import Derived.Test.YtncdnopnjdbleaaDt
namespace Go.Proofs.Ytncdnopnjdbleaa
open Go.RowKit Hach

/- a variable that holds a digest -/
def dobj (L : List UInt8) : Obj := .cells #[.int .u8 (dgb L 0), .int .u8 (dgb L 1), .int .u8 (dgb L 2), .int .u8 (dgb L 3), .int .u8 (dgb L 4), .int .u8 (dgb L 5), .int .u8 (dgb L 6), .int .u8 (dgb L 7)] 52
theorem dobj_cell {w : World} {g : Nat} {L : List UInt8} (h : w.heap[g]? = some (dobj L)) {j : Nat} (hj : j < 8) : w.cell? ⟨g, j, none⟩ = some (.int .u8 (dgb L j)) := by
  simp only [World.cell?, h, dobj]
  match j, hj with
  | 0, _ => rfl
  | 1, _ => rfl
  | 2, _ => rfl
  | 3, _ => rfl
  | 4, _ => rfl
  | 5, _ => rfl
  | 6, _ => rfl
  | 7, _ => rfl
theorem dobj_free {w : World} {g : Nat} {L : List UInt8} (h : w.heap[g]? = some (dobj L)) (j : Nat) : w.frozen? ⟨g, j, none⟩ = false := by simp [World.frozen?, h, dobj]
theorem dobj_store {w : World} {g : Nat} {L L' : List UInt8} (h : w.heap[g]? = some (dobj L)) : ((((((((w.setCell ⟨g, 0, none⟩ (.int .u8 (dgb L' 0))).setCell ⟨g, 1, none⟩ (.int .u8 (dgb L' 1))).setCell ⟨g, 2, none⟩ (.int .u8 (dgb L' 2))).setCell ⟨g, 3, none⟩ (.int .u8 (dgb L' 3))).setCell ⟨g, 4, none⟩ (.int .u8 (dgb L' 4))).setCell ⟨g, 5, none⟩ (.int .u8 (dgb L' 5))).setCell ⟨g, 6, none⟩ (.int .u8 (dgb L' 6))).setCell ⟨g, 7, none⟩ (.int .u8 (dgb L' 7))).heap[g]? = some (dobj L') := by
  unfold dobj at h ⊢
  have h0 := heap_setCell_same w g 0 _ _ (.int .u8 (dgb L' 0)) h
  have h1 := heap_setCell_same _ g 1 _ _ (.int .u8 (dgb L' 1)) h0
  have h2 := heap_setCell_same _ g 2 _ _ (.int .u8 (dgb L' 2)) h1
  have h3 := heap_setCell_same _ g 3 _ _ (.int .u8 (dgb L' 3)) h2
  have h4 := heap_setCell_same _ g 4 _ _ (.int .u8 (dgb L' 4)) h3
  have h5 := heap_setCell_same _ g 5 _ _ (.int .u8 (dgb L' 5)) h4
  have h6 := heap_setCell_same _ g 6 _ _ (.int .u8 (dgb L' 6)) h5
  have h7 := heap_setCell_same _ g 7 _ _ (.int .u8 (dgb L' 7)) h6
  refine h7.trans ?_
  simp only [List.setIfInBounds_toArray, List.set_cons_zero, List.set_cons_succ]
theorem dobj_text {w : World} {g : Nat} {L : List UInt8} (h : w.heap[g]? = some (dobj L)) (c : Nat) : (convert 32 9 (.slice (some ⟨g, 0, none⟩) 8 c)).run Try.prog w = .ok (.string (dgs L)) w := by
  have hc := run_convert_bytes_arg (P := Try.prog) w 32 5 Try.underlying32 Try.underlying5 g 0 8 c [(dgb L 0 : Int), dgb L 1, dgb L 2, dgb L 3, dgb L 4, dgb L 5, dgb L 6, dgb L 7] rfl (by
    intro i hi
    rw [Nat.zero_add, dobj_cell h hi]
    match i, hi with
    | 0, _ => rfl
    | 1, _ => rfl
    | 2, _ => rfl
    | 3, _ => rfl
    | 4, _ => rfl
    | 5, _ => rfl
    | 6, _ => rfl
    | 7, _ => rfl) 9 Try.underlying9
  rw [hc, ← dgs_of]
  simp [strOfNums]

theorem below_store {B : Nat} {a w : World} {g : Nat} (hb : Below B a w) (hg : B ≤ g) (u0 u1 u2 u3 u4 u5 u6 u7 : Value) : Below B a ((((((((w.setCell ⟨g, 0, none⟩ u0).setCell ⟨g, 1, none⟩ u1).setCell ⟨g, 2, none⟩ u2).setCell ⟨g, 3, none⟩ u3).setCell ⟨g, 4, none⟩ u4).setCell ⟨g, 5, none⟩ u5).setCell ⟨g, 6, none⟩ u6).setCell ⟨g, 7, none⟩ u7) :=
  (((((((hb.setCell hg u0).setCell hg u1).setCell hg u2).setCell hg u3).setCell hg u4).setCell hg u5).setCell hg u6).setCell hg u7
theorem some_lt {w : World} {g : Nat} {o : Obj} (h : w.heap[g]? = some o) : g < w.heap.size := by
  rcases Nat.lt_or_ge g w.heap.size with k | k
  · exact k
  · rw [Array.getElem?_eq_none k] at h; cases h

set_option maxHeartbeats 400000 in
theorem Verify_no (r x : ByteArray) (i : Int) (A : Option Addr) (n c : Nat) (w : World) (hn : n < 4294967296) (hi : -9223372036854775808 ≤ i ∧ i ≤ 9223372036854775807) (h : upOk i n = false ∨ ¬ r.size = 8) :
    Calls Try.prog 27 #[.string r, .string x, .int .i64 i, .slice A n c] w fun e w' => e = .returned (.bool false) ∧ w = w' := by
  by_cases h1 : i < 0
  · clear h
    go_enter Try.func27, Try.ntmps27
    go_wp2_with fail
    go_ret
    exact ⟨rfl, rfl⟩
  · by_cases h2 : 40 < n
    · clear h
      go_enter Try.func27, Try.ntmps27
      go_wp2_with fail
      go_ret
      exact ⟨rfl, rfl⟩
    · have hp := pow_bound n (by omega)
      have hw : wrap64 ((2 : Int) ^ n) = 2 ^ n := IntWalk.wrap64_in _ ⟨by omega, by omega⟩
      have t2 : decide ((40 : Int) < (n : Int)) = false := by simp; omega
      by_cases h3 : (2 : Int) ^ n ≤ i
      · clear h
        have t1 : decide ((2 : Int) ^ n ≤ i) = true := by simpa using h3
        go_enter Try.func27, Try.ntmps27
        go_wp2_with fail
        go_ret
        exact ⟨rfl, rfl⟩
      · have t1 : decide ((2 : Int) ^ n ≤ i) = false := by simpa using h3
        have h8 : ¬ r.size = 8 := by
          rcases h with h | h
          · unfold upOk at h
            simp at h
            have := h (by omega) (by omega)
            omega
          · exact h
        clear h
        have t3 : ((r.size : Int) == 8) = false := by simp; omega
        have t4 : (!((r.size : Int) == 8)) = true := by simp; omega
        clear h8 h3
        go_enter Try.func27, Try.ntmps27
        go_wp2_with fail
        go_ret
        exact ⟨rfl, rfl⟩

set_option maxHeartbeats 1000000 in
theorem Verify_yes (r x : ByteArray) (i : Nat) (A : Option Addr) (n c : Nat) (ps : List ByteArray) (w : World) (hS : Strs w w.heap.size A n ps) (hsm : Sm ps) (hx : x.size < 429496729) (h : upOk i n = true) (h8 : r.size = 8) :
    Calls Try.prog 27 #[.string r, .string x, .int .i64 i, .slice A n c] w fun e w' => e = .returned (.bool (ver r x i ps)) ∧ Below w.heap.size w w' := by
  have hv := ver_pos (r := r) (x := x) (i := i) (ps := ps) (by rw [hS.len]; exact h)
  have HV := Lib.hid hv
  clear hv
  unfold upOk at h
  simp at h
  obtain ⟨h2, h3⟩ := h
  have hp := pow_bound n h2
  have hw : wrap64 ((2 : Int) ^ n) = 2 ^ n := IntWalk.wrap64_in _ ⟨by omega, by omega⟩
  have t1 : decide ((2 : Int) ^ n ≤ (i : Int)) = false := by simp; omega
  have t2 : decide ((40 : Int) < (n : Int)) = false := by simp; omega
  have t0 : decide ((i : Int) < 0) = false := by simp
  have t3 : ((r.size : Int) == 8) = true := by simp; omega
  have t4 : ((r.size : Int) != 8) = false := by simp; omega
  have h4 : i < 1099511627776 := by omega
  have H8 := Lib.hid h8
  clear hp h3 h8
  go_enter Try.func27, Try.ntmps27
  go_wp2_with fail
  refine (of_lit [⟨#[3]⟩, x] _ _ _ w rfl rfl (by simp) (.cons (Nat.lt_of_sub_pos (by decide)) (.cons (by omega) .nil))).mono ?_
  rintro e w1 ⟨rfl, hb1⟩
  generalize hL : cat [⟨#[3]⟩, x] = L0
  have hl0 : dgs L0 = lf x := by rw [← hL, lf_cat]
  have HL0 := Lib.hid hl0
  clear hl0 hL
  unfold dgv
  go_wp2_with fail
  go_loopw [2, 36] (fun vi vk wr => ∃ (k j : Nat) (L : List UInt8), k ≤ n ∧ vk = .int .i64 k ∧ vi = .int .i64 j ∧ j < 1099511627776 ∧ wr.heap[w1.heap.size]? = some (dobj L) ∧ up (ps.drop k) (dgs L) j = up ps (lf x) i ∧ Below w.heap.size w wr) (fun _ vk _ => n - (intOf vk).toNat)
  case atStart => exact ⟨0, i, L0, Nat.zero_le _, rfl, rfl, h4, heap_alloc_new w1 _, by rw [HL0.out]; rfl, hb1.alloc hb1.size _⟩
  case round =>
    obtain ⟨k, j, L, hk, rfl, rfl, hj, hbox, hup, hb⟩ := hrel
    have HUP := Lib.hid hup
    have HB := Lib.hid hbox
    clear hup hbox
    by_cases hlt : k < n
    · obtain ⟨b1, o1, rfl, hbl1, hc1⟩ := hS.at_ hlt
      have hx1 : wr.cell? ⟨b1, o1 + k, none⟩ = some (.string (ps.getD k ByteArray.empty)) := (hb.cell (p := ⟨b1, o1 + k, none⟩) hbl1).trans (hc1 k hlt)
      have hl : k < ps.length := by rw [hS.len]; exact hlt
      have hdr : ps.drop k = ps.getD k ByteArray.empty :: ps.drop (k + 1) := by
        rw [List.drop_eq_getElem_cons hl]; simp [List.getD, List.getElem?_eq_getElem hl]
      have HD := Lib.hid hdr
      have hps := hsm k
      clear hc1 hdr
      generalize ps.getD k ByteArray.empty = p at hx1 HD hps
      by_cases hp8 : p.size = 8
      · have s1 : ((p.size : Int) == 8) = true := by simp; omega
        have s2 : (!((p.size : Int) == 8)) = false := by simp; omega
        have HP8 := Lib.hid hp8
        have hp9 : p.size < 9 := by omega
        clear hp8
        have hconv := dobj_text HB.out 8
        by_cases h0 : j % 2 = 0
        · have t5 : ((j : Int) % 2 == 0) = true := by simp; omega
          have H0 := Lib.hid h0
          clear h0
          go_wp2_with fail
          refine (of_lit [⟨#[4]⟩, dgs L, p] _ _ _ wr rfl rfl (by simp) (.cons (Nat.lt_of_sub_pos (by decide)) (.cons (by rw [dgs_size]; omega) (.cons (by omega) .nil)))).mono ?_
          rintro e w2 ⟨rfl, hb2⟩
          generalize hL2 : cat [⟨#[4]⟩, dgs L, p] = L2
          have hl2 : dgs L2 = node (dgs L) p := by rw [← hL2, node_cat]
          have HL2 := Lib.hid hl2
          clear hl2 hL2
          have hbx : w2.heap[w1.heap.size]? = some (dobj L) := (hb2.block _ (some_lt HB.out)).trans HB.out
          have HB2 := Lib.hid hbx
          clear hbx
          have q0 := dobj_cell HB2.out (j := 0) (by omega)
          have q1 := dobj_cell HB2.out (j := 1) (by omega)
          have q2 := dobj_cell HB2.out (j := 2) (by omega)
          have q3 := dobj_cell HB2.out (j := 3) (by omega)
          have q4 := dobj_cell HB2.out (j := 4) (by omega)
          have q5 := dobj_cell HB2.out (j := 5) (by omega)
          have q6 := dobj_cell HB2.out (j := 6) (by omega)
          have q7 := dobj_cell HB2.out (j := 7) (by omega)
          have fr := fun j => dobj_free HB2.out j
          clear hconv
          unfold dgv
          go_wp2_with fail
          go_roundw
          case rel =>
            refine ⟨k + 1, j / 2, L2, by omega, by go_num, by go_num, by omega, dobj_store HB2.out, ?_, below_store (hb.trans (hb2.mono hb.size)) hb1.size _ _ _ _ _ _ _ _⟩
            rw [HL2.out, ← HUP.out, HD.out]
            simp only [up, HP8.out, H0.out, if_true]
          case measure => simp [intOf]; omega
        · have t5 : ((j : Int) % 2 == 0) = false := by simp; omega
          have H0 := Lib.hid h0
          clear h0
          go_wp2_with fail
          refine (of_lit [⟨#[4]⟩, p, dgs L] _ _ _ wr rfl rfl (by simp) (.cons (Nat.lt_of_sub_pos (by decide)) (.cons (by omega) (.cons (by rw [dgs_size]; omega) .nil)))).mono ?_
          rintro e w2 ⟨rfl, hb2⟩
          generalize hL2 : cat [⟨#[4]⟩, p, dgs L] = L2
          have hl2 : dgs L2 = node p (dgs L) := by rw [← hL2, node_cat]
          have HL2 := Lib.hid hl2
          clear hl2 hL2
          have hbx : w2.heap[w1.heap.size]? = some (dobj L) := (hb2.block _ (some_lt HB.out)).trans HB.out
          have HB2 := Lib.hid hbx
          clear hbx
          have q0 := dobj_cell HB2.out (j := 0) (by omega)
          have q1 := dobj_cell HB2.out (j := 1) (by omega)
          have q2 := dobj_cell HB2.out (j := 2) (by omega)
          have q3 := dobj_cell HB2.out (j := 3) (by omega)
          have q4 := dobj_cell HB2.out (j := 4) (by omega)
          have q5 := dobj_cell HB2.out (j := 5) (by omega)
          have q6 := dobj_cell HB2.out (j := 6) (by omega)
          have q7 := dobj_cell HB2.out (j := 7) (by omega)
          have fr := fun j => dobj_free HB2.out j
          clear hconv
          unfold dgv
          go_wp2_with fail
          go_roundw
          case rel =>
            refine ⟨k + 1, j / 2, L2, by omega, by go_num, by go_num, by omega, dobj_store HB2.out, ?_, below_store (hb.trans (hb2.mono hb.size)) hb1.size _ _ _ _ _ _ _ _⟩
            rw [HL2.out, ← HUP.out, HD.out]
            simp only [up, HP8.out, if_neg H0.out, if_true]
          case measure => simp [intOf]; omega
      · have s1 : ((p.size : Int) == 8) = false := by simp; omega
        have s2 : (!((p.size : Int) == 8)) = true := by simp; omega
        have HP8 := Lib.hid hp8
        clear hp8
        go_wp2_with fail
        go_ret
        refine ⟨?_, hb⟩
        rw [HV.out, ← HUP.out, HD.out]
        simp only [up, if_neg HP8.out]
        rfl
    · obtain rfl : k = n := by omega
      obtain ⟨l⟩ := r
      obtain ⟨l⟩ := l
      obtain ⟨c0, c1, c2, c3, c4, c5, c6, c7, rfl⟩ := list8 l H8.out
      have hcv := fun (wx : World) (s : ByteArray) => run_bytes_of_string (P := Try.prog) wx 9 32 5 s Try.underlying9 Try.underlying32 Try.underlying5
      have harr := fun (wx : World) (a : Addr) (c : Nat) => run_arrayAt8 wx a c
      have heq := run_eqarr
      go_wp2_with fail
      apply wp_region_seq (l := [_, _, _, _, _, _]) (t := [_]) [some 59, some 60, some 61, some 62, some 63, some 64, some 8] [[], [0], [1], [2], [], [3, 4], [5]] [6, 6, 6, 6, 6, 6] [eqv _, (slBytes [c0, c1, c2, c3, c4, c5, c6, c7]), (ptrBytes [c0, c1, c2, c3, c4, c5, c6, c7]), eqv _, eqv _, eqv _] (by kernel_rfl) (by kernel_rfl) ⟨?o0, ?o1, ?o2, ?o3, ?o4, ?o5, trivial⟩ ?last
      case o0 => -- Op.move (Operand.tmp 0)
        intro xv W hE _
        simp only [putD, List.foldl_nil, List.getD_cons_zero]
        refine OpGoal.plain ?_
        go_wp2_with fail
        exact ⟨rfl, Ext.refl _, rfl⟩
      case o1 => -- Op.convert 9 32 (Operand.tmp 59)
        intro xv W hE hp
        have r0 : xv 0 = _ := hp.1
        clear hp
        simp only [putD, List.foldl_nil, List.foldl_cons, List.getD_cons_zero, List.getD_cons_succ, Act.put, List.setIfInBounds_toArray, List.set_cons_zero, List.set_cons_succ]
        refine OpGoal.plain ?_
        go_wp2_with fail
        refine ⟨rfl, ((Ext.alloc _ _).trans (Ext.drew _)), _, _, rfl, by simp, fun j hj => ?_⟩
        have := bytesRow_at ⟨#[c0, c1, c2, c3, c4, c5, c6, c7]⟩ (grownCap W 8 0 5) j (by simpa using hj)
        rw [World.cell?_drew, World.cell?_alloc_mark]
        exact this
      case o2 => -- Op.sliceToArrayPointer 52 (Operand.tmp 60)
        intro xv W hE hp
        obtain ⟨g, cap, r1, hg⟩ := hp.1
        clear hp
        simp only [putD, List.foldl_nil, List.foldl_cons, List.getD_cons_zero, List.getD_cons_succ, Act.put, List.setIfInBounds_toArray, List.set_cons_zero, List.set_cons_succ]
        refine OpGoal.plain ?_
        go_wp2_with fail
        exact ⟨rfl, Ext.refl _, g, rfl, hg⟩
      case o3 => -- Op.load 52 (Operand.tmp 61)
        intro xv W hE hp
        obtain ⟨g, r2, hg⟩ := hp.1
        clear hp
        have q0 := hg.2 0 (by simp)
        have q1 := hg.2 1 (by simp)
        have q2 := hg.2 2 (by simp)
        have q3 := hg.2 3 (by simp)
        have q4 := hg.2 4 (by simp)
        have q5 := hg.2 5 (by simp)
        have q6 := hg.2 6 (by simp)
        have q7 := hg.2 7 (by simp)
        simp only [List.getElem_cons_zero, List.getElem_cons_succ] at q0 q1 q2 q3 q4 q5 q6 q7
        simp only [putD, List.foldl_nil, List.foldl_cons, List.getD_cons_zero, List.getD_cons_succ, Act.put, List.setIfInBounds_toArray, List.set_cons_zero, List.set_cons_succ]
        refine OpGoal.plain ?_
        go_wp2_with fail
        exact ⟨rfl, Ext.refl _, rfl⟩
      case o4 => -- Op.load 52 (Operand.tmp 9)
        intro xv W hE _
        have hbx : W.heap[w1.heap.size]? = some (dobj L) := (hE.block _ (some_lt HB.out)).trans HB.out
        have HB2 := Lib.hid hbx
        clear hbx
        have q0 := dobj_cell HB2.out (j := 0) (by omega)
        have q1 := dobj_cell HB2.out (j := 1) (by omega)
        have q2 := dobj_cell HB2.out (j := 2) (by omega)
        have q3 := dobj_cell HB2.out (j := 3) (by omega)
        have q4 := dobj_cell HB2.out (j := 4) (by omega)
        have q5 := dobj_cell HB2.out (j := 5) (by omega)
        have q6 := dobj_cell HB2.out (j := 6) (by omega)
        have q7 := dobj_cell HB2.out (j := 7) (by omega)
        simp only [putD, List.foldl_nil, List.getD_cons_zero, List.getD_cons_succ]
        refine OpGoal.plain ?_
        go_wp2_with fail
        exact ⟨rfl, Ext.refl _, rfl⟩
      case o5 => -- Op.binOp BinOp.eql 52 (Operand.tmp 62) (Operand.tmp 63) 52
        intro xv W hE hp
        have r3 : xv 3 = _ := hp.1
        have r4 : xv 4 = _ := hp.2.1
        clear hp
        simp only [putD, List.foldl_nil, List.foldl_cons, List.getD_cons_zero, List.getD_cons_succ, Act.put, List.setIfInBounds_toArray, List.set_cons_zero, List.set_cons_succ]
        refine OpGoal.plain ?_
        go_wp2_with fail
        exact ⟨rfl, Ext.refl _, rfl⟩
      case last =>
        intro xv W hE hp
        have r0 : xv 0 = _ := hp.1
        obtain ⟨g, cap, r1, hg⟩ := hp.2.1
        obtain ⟨g, r2, hg⟩ := hp.2.2.1
        have r3 : xv 3 = _ := hp.2.2.2.1
        have r4 : xv 4 = _ := hp.2.2.2.2.1
        have r5 : xv 5 = _ := hp.2.2.2.2.2.1
        clear hp
        simp only [putD, List.foldl_nil, List.foldl_cons, List.getD_cons_zero, List.getD_cons_succ, Act.put, List.length_cons, List.length_nil, List.range_succ, List.range_zero, List.nil_append, List.cons_append, List.setIfInBounds_toArray, List.set_cons_zero, List.set_cons_succ]
        go_wp2_with fail
        go_ret
        refine ⟨?_, hb.trans (((Ext.drew wr).trans hE).mono hb.size)⟩
        show Ending.returned (.bool _) = _
        rw [same8, HV.out, ← HUP.out, List.drop_of_length_le (by rw [hS.len]; exact Nat.le_refl _)]
        simp only [up]
        rw [Bool.beq_comm]
end Go.Proofs.Ytncdnopnjdbleaa
