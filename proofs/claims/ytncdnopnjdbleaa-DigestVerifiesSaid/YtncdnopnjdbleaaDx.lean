/- The statement DigestProves: at every input the call returns true and its arguments read as they did. No condition. -/
import Derived.Test.YtncdnopnjdbleaaDu
import Derived.Test.YtncdnopnjdbleaaDy
namespace Go.Proofs.Ytncdnopnjdbleaa
open Go.RowKit Hach
open Go.ChangeShapes Go.WideShapes Go.ChangeAt

theorem Up_any (d : ByteArray) (i : Int) (A : Option Addr) (n c : Nat) (ps : List ByteArray) (w : World) (hS : Strs w w.heap.size A n ps) (hn : n < 4294967296) (hsm : Sm ps) (hd : d.size < 429496729) (hi : -9223372036854775808 ≤ i ∧ i ≤ 9223372036854775807) :
    Calls Try.prog 29 #[.string d, .int .i64 i, .slice A n c] w fun e w' => e = .returned (upV (upF d i ps)) ∧ Below w.heap.size w w' := by
  by_cases h : upOk i n = true
  · obtain ⟨k, rfl⟩ : ∃ k : Nat, i = k := ⟨i.toNat, by unfold upOk at h; simp at h; omega⟩
    rw [upF_pos (by rw [hS.len]; exact h), Int.toNat_natCast]
    exact Up_yes d k A n c ps w hS hsm hd h
  · refine (Up_no d i A n c w hn hi (by simpa using h)).mono ?_
    rintro e w' ⟨rfl, rfl⟩
    exact ⟨by rw [upF_neg (by rw [hS.len]; simpa using h)], Below.refl _ _⟩

set_option maxHeartbeats 400000 in
theorem DigestProves_none (A : Option Addr) (n c : Nat) (ss : List ByteArray) (p q : Int) (o : Value) (x1 x2 x3 : Value) (ho : o = .agg #[x1, x2, x3]) (w : World) (hS : Strs w w.heap.size A n ss) (hn : n < 9223372036854775808) (hsm : ∀ k, (ss.getD k ByteArray.empty).size < 9223372036854775808) (h : (lst ss).length = 0) :
    Calls Try.prog 8 #[.slice A n c, .agg #[.int .u8 p, .int .u8 q], o] w fun e w' => e = .returned (.bool true) ∧ Below w.heap.size w w' := by
  subst ho
  go_enter Try.func8, Try.ntmps8
  go_wp2_with fail
  refine (sanity_any _).mono ?_
  rintro e w1 ⟨rfl, hb1⟩
  have hE1 : Ext w w1 := ((Ext.alloc _ _).trans (Ext.alloc _ _)).trans hb1
  go_wp2_with fail
  refine (list_any A n c ss w1 ((hS.below hE1 (Nat.le_refl _)).more hE1.sz) hn hsm).mono ?_
  rintro e w2 ⟨v, rfl, hO, hb2⟩
  obtain ⟨A2, c2, rfl, hS2⟩ := hO.form
  rw [h]
  go_wp2_with fail
  go_ret
  exact ⟨rfl, hE1.trans hb2⟩

set_option maxRecDepth 100000 in
set_option maxHeartbeats 1000000 in
theorem DigestProves_some (A : Option Addr) (n c : Nat) (ss : List ByteArray) (p q : Nat) (so : ByteArray) (no co : Nat) (w : World) (hS : Strs w w.heap.size A n ss) (hn : n < 9223372036854775808) (hsm : ∀ k, (ss.getD k ByteArray.empty).size < 9223372036854775808) (hp : p < 256) (hq : q < 256) (hno : no < 256) (hco : co < 256) (h : 0 < (lst ss).length) :
    Calls Try.prog 8 #[.slice A n c, .agg #[.int .u8 (p : Nat), .int .u8 (q : Nat)], .agg #[.string so, .int .u8 (no : Nat), .int .u8 (co : Nat)]] w fun e w' => e = .returned (.bool true) ∧ Below w.heap.size w w' := by
  go_enter Try.func8, Try.ntmps8
  go_wp2_with fail
  obtain ⟨w0, hw0⟩ : ∃ w0, (w.alloc (.cells #[.int .u8 (p : Nat), .int .u8 (q : Nat)] 41)).alloc (.cells #[.string so, .int .u8 (no : Nat), .int .u8 (co : Nat)] 27) = w0 := ⟨_, rfl⟩
  have hE0 : Ext w w0 := by rw [← hw0]; exact (Ext.alloc _ _).trans (Ext.alloc _ _)
  have hz0 : w0.heap.size = w.heap.size + 2 := by rw [← hw0]; simp
  have cp : w0.cell? ⟨w.heap.size, 0, none⟩ = some (.int .u8 (p : Nat)) := by
    rw [← hw0]; exact (World.cell?_of_block (a := ⟨w.heap.size, 0, none⟩) (Below.heap_alloc _ _ _ (by simp))).trans (by rw [World.cell?_alloc_new]; rfl)
  have cq : w0.cell? ⟨w.heap.size, 1, none⟩ = some (.int .u8 (q : Nat)) := by
    rw [← hw0]; exact (World.cell?_of_block (a := ⟨w.heap.size, 1, none⟩) (Below.heap_alloc _ _ _ (by simp))).trans (by rw [World.cell?_alloc_new]; rfl)
  have co_ : ∀ j, j < 3 → w0.cell? ⟨w.heap.size + 1, j, none⟩ = (#[.string so, .int .u8 (no : Nat), .int .u8 (co : Nat)] : Array Value)[j]? := by
    intro j hj
    rw [← hw0]
    have := World.cell?_alloc_new (w.alloc (.cells #[.int .u8 (p : Nat), .int .u8 (q : Nat)] 41)) #[.string so, .int .u8 (no : Nat), .int .u8 (co : Nat)] 27 j
    rw [World.size_alloc] at this
    exact this
  rw [hw0]
  clear hw0
  refine (sanity_any _).mono ?_
  rintro e w1 ⟨rfl, hb1⟩
  have hE1 : Ext w w1 := hE0.trans hb1
  go_wp2_with fail
  refine (list_any A n c ss w1 ((hS.below hE1 (Nat.le_refl _)).more hE1.sz) hn hsm).mono ?_
  rintro e w2 ⟨v, rfl, hO, hb2⟩
  have hE2 : Ext w0 w2 := Ext.trans hb1 hb2
  have hl := lst_length ss
  have hls := lst_small ss
  generalize lst ss = l at hO hl hls h
  obtain ⟨A2, c2, rfl, hS2⟩ := hO.form
  obtain ⟨m, hm⟩ : ∃ m, l.length = m := ⟨_, rfl⟩
  have HM := Lib.hid hm
  rw [hm] at hS2 hl h ⊢
  clear hm
  obtain ⟨b2, o2, rfl, hbl2, hc2⟩ := hS2.at_ (k := 0) h
  have tm : ((m : Int) == 0) = false := by rw [beq_eq_false_iff_ne]; omega
  have hlt2 : w.heap.size + 1 < w2.heap.size := by have := hE2.sz; omega
  have cp2 : w2.cell? ⟨w.heap.size, 0, none⟩ = some (.int .u8 (p : Nat)) := (hE2.old (p := ⟨w.heap.size, 0, none⟩) (by show w.heap.size < _; omega)).trans cp
  have cq2 : w2.cell? ⟨w.heap.size, 1, none⟩ = some (.int .u8 (q : Nat)) := (hE2.old (p := ⟨w.heap.size, 1, none⟩) (by show w.heap.size < _; omega)).trans cq
  have co2 : ∀ j, j < 3 → w2.cell? ⟨w.heap.size + 1, j, none⟩ = (#[.string so, .int .u8 (no : Nat), .int .u8 (co : Nat)] : Array Value)[j]? := fun j hj => (hE2.old (p := ⟨w.heap.size + 1, j, none⟩) (by show w.heap.size + 1 < _; omega)).trans (co_ j hj)
  obtain ⟨i, hi⟩ : ∃ i, p % m = i := ⟨_, rfl⟩
  have him : i < m := by rw [← hi]; exact Nat.mod_lt _ h
  have e1 : (p : Int) % (m : Int) = i := by rw [← hi]; rfl
  have e2 : (p : Int).tmod (m : Int) = i := by rw [← hi]; rfl
  obtain ⟨k, hk⟩ : ∃ k, q % 32 = k := ⟨_, rfl⟩
  have hk32 : k < 32 := by omega
  have e3 : (q : Int) % 32 = k := by rw [← hk]; rfl
  have e4 : (q : Int).tmod 32 = k := by rw [← hk]; rfl
  clear hi hk cp cq co_
  have c21 := co2 0 (by omega)
  have c22 := co2 1 (by omega)
  have c23 := co2 2 (by omega)
  simp only [List.getElem?_toArray, List.getElem?_cons_zero, List.getElem?_cons_succ] at c21 c22 c23
  clear co2
  go_wp2_with fail
  apply wp_region_seq (l := [_, _, _, _, _, _, _, _, _, _, _, _]) (t := []) [some 23, some 24, some 25, some 26, some 27, some 28, some 29, some 30, some 31, some 32, some 8, some 9] [[], [0], [1], [], [3], [2, 4], [], [6], [7], [8], [5], [9]] [] [eqv _, eqv _, eqv _, eqv _, eqv _, eqv _, eqv _, eqv _, eqv _, eqv _, eqv _, eqv _] (by kernel_rfl) (by kernel_rfl) ⟨?o0, ?o1, ?o2, ?o3, ?o4, ?o5, ?o6, ?o7, ?o8, ?o9, ?o10, ?o11, trivial⟩ ?last
  case o0 => -- Op.indexAddr 41 (Operand.tmp 4) (Operand.const (Value.int IntKind.i64 0))
    intro xv W hE _
    simp only [putD, List.foldl_nil, List.getD_cons_zero]
    refine OpGoal.plain ?_
    go_wp2_with fail
    exact ⟨rfl, Ext.refl _, rfl⟩
  case o1 => -- Op.load 5 (Operand.tmp 23)
    intro xv W hE hp
    have r0 : xv 0 = _ := hp.1
    clear hp
    have cpW : W.cell? ⟨w.heap.size, 0, none⟩ = some (.int .u8 (p : Nat)) := (hE.old (p := ⟨w.heap.size, 0, none⟩) (by show w.heap.size < w2.heap.size; omega)).trans cp2
    have cqW : W.cell? ⟨w.heap.size, 1, none⟩ = some (.int .u8 (q : Nat)) := (hE.old (p := ⟨w.heap.size, 1, none⟩) (by show w.heap.size < w2.heap.size; omega)).trans cq2
    simp only [putD, List.foldl_nil, List.foldl_cons, List.getD_cons_zero, List.getD_cons_succ, Act.put, List.setIfInBounds_toArray, List.set_cons_zero, List.set_cons_succ]
    refine OpGoal.plain ?_
    go_wp2_with fail
    exact ⟨rfl, Ext.refl _, rfl⟩
  case o2 => -- Op.convert 5 3 (Operand.tmp 24)
    intro xv W hE hp
    have r1 : xv 1 = _ := hp.1
    clear hp
    simp only [putD, List.foldl_nil, List.foldl_cons, List.getD_cons_zero, List.getD_cons_succ, Act.put, List.setIfInBounds_toArray, List.set_cons_zero, List.set_cons_succ]
    refine OpGoal.plain ?_
    go_wp2_with fail
    exact ⟨rfl, Ext.refl _, rfl⟩
  case o3 => -- Op.move (Operand.tmp 0)
    intro xv W hE _
    simp only [putD, List.foldl_nil, List.getD_cons_zero, List.getD_cons_succ]
    refine OpGoal.plain ?_
    go_wp2_with fail
    exact ⟨rfl, Ext.refl _, rfl⟩
  case o4 => -- Op.call { callee := Callee.builtin Builtin.len, args := #[Operand.tmp 26], argTy
    intro xv W hE hp
    have r3 : xv 3 = _ := hp.1
    clear hp
    simp only [putD, List.foldl_nil, List.foldl_cons, List.getD_cons_zero, List.getD_cons_succ, Act.put, List.setIfInBounds_toArray, List.set_cons_zero, List.set_cons_succ]
    refine OpGoal.plain ?_
    go_wp2_with fail
    exact ⟨rfl, Ext.refl _, rfl⟩
  case o5 => -- Op.binOp BinOp.rem 3 (Operand.tmp 25) (Operand.tmp 27) 3
    intro xv W hE hp
    have r2 : xv 2 = _ := hp.1
    have r4 : xv 4 = _ := hp.2.1
    clear hp
    simp only [putD, List.foldl_nil, List.foldl_cons, List.getD_cons_zero, List.getD_cons_succ, Act.put, List.setIfInBounds_toArray, List.set_cons_zero, List.set_cons_succ]
    refine OpGoal.plain ?_
    go_wp2_with fail
    exact ⟨rfl, Ext.refl _, rfl⟩
  case o6 => -- Op.indexAddr 41 (Operand.tmp 4) (Operand.const (Value.int IntKind.i64 1))
    intro xv W hE _
    simp only [putD, List.foldl_nil, List.getD_cons_zero, List.getD_cons_succ]
    refine OpGoal.plain ?_
    go_wp2_with fail
    exact ⟨rfl, Ext.refl _, rfl⟩
  case o7 => -- Op.load 5 (Operand.tmp 29)
    intro xv W hE hp
    have r6 : xv 6 = _ := hp.1
    clear hp
    have cpW : W.cell? ⟨w.heap.size, 0, none⟩ = some (.int .u8 (p : Nat)) := (hE.old (p := ⟨w.heap.size, 0, none⟩) (by show w.heap.size < w2.heap.size; omega)).trans cp2
    have cqW : W.cell? ⟨w.heap.size, 1, none⟩ = some (.int .u8 (q : Nat)) := (hE.old (p := ⟨w.heap.size, 1, none⟩) (by show w.heap.size < w2.heap.size; omega)).trans cq2
    simp only [putD, List.foldl_nil, List.foldl_cons, List.getD_cons_zero, List.getD_cons_succ, Act.put, List.setIfInBounds_toArray, List.set_cons_zero, List.set_cons_succ]
    refine OpGoal.plain ?_
    go_wp2_with fail
    exact ⟨rfl, Ext.refl _, rfl⟩
  case o8 => -- Op.convert 5 3 (Operand.tmp 30)
    intro xv W hE hp
    have r7 : xv 7 = _ := hp.1
    clear hp
    simp only [putD, List.foldl_nil, List.foldl_cons, List.getD_cons_zero, List.getD_cons_succ, Act.put, List.setIfInBounds_toArray, List.set_cons_zero, List.set_cons_succ]
    refine OpGoal.plain ?_
    go_wp2_with fail
    exact ⟨rfl, Ext.refl _, rfl⟩
  case o9 => -- Op.binOp BinOp.rem 3 (Operand.tmp 31) (Operand.const (Value.int IntKind.i64 32))
    intro xv W hE hp
    have r8 : xv 8 = _ := hp.1
    clear hp
    simp only [putD, List.foldl_nil, List.foldl_cons, List.getD_cons_zero, List.getD_cons_succ, Act.put, List.setIfInBounds_toArray, List.set_cons_zero, List.set_cons_succ]
    refine OpGoal.plain ?_
    go_wp2_with fail
    exact ⟨rfl, Ext.refl _, rfl⟩
  case o10 => -- Op.assign (Operand.tmp 28)
    intro xv W hE hp
    have r5 : xv 5 = _ := hp.1
    clear hp
    simp only [putD, List.foldl_nil, List.foldl_cons, List.getD_cons_zero, List.getD_cons_succ, Act.put, List.setIfInBounds_toArray, List.set_cons_zero, List.set_cons_succ]
    refine OpGoal.plain ?_
    go_wp2_with fail
    exact ⟨rfl, Ext.refl _, rfl⟩
  case o11 => -- Op.assign (Operand.tmp 32)
    intro xv W hE hp
    have r9 : xv 9 = _ := hp.1
    clear hp
    simp only [putD, List.foldl_nil, List.foldl_cons, List.getD_cons_zero, List.getD_cons_succ, Act.put, List.setIfInBounds_toArray, List.set_cons_zero, List.set_cons_succ]
    refine OpGoal.plain ?_
    go_wp2_with fail
    exact ⟨rfl, Ext.refl _, rfl⟩
  case last =>
    intro xv W hE hp
    have r0 : xv 0 = _ := hp.1
    have r1 : xv 1 = _ := hp.2.1
    have r2 : xv 2 = _ := hp.2.2.1
    have r3 : xv 3 = _ := hp.2.2.2.1
    have r4 : xv 4 = _ := hp.2.2.2.2.1
    have r5 : xv 5 = _ := hp.2.2.2.2.2.1
    have r6 : xv 6 = _ := hp.2.2.2.2.2.2.1
    have r7 : xv 7 = _ := hp.2.2.2.2.2.2.2.1
    have r8 : xv 8 = _ := hp.2.2.2.2.2.2.2.2.1
    have r9 : xv 9 = _ := hp.2.2.2.2.2.2.2.2.2.1
    have r10 : xv 10 = _ := hp.2.2.2.2.2.2.2.2.2.2.1
    have r11 : xv 11 = _ := hp.2.2.2.2.2.2.2.2.2.2.2.1
    clear hp
    simp only [putD, List.foldl_nil, List.foldl_cons, List.getD_cons_zero, List.getD_cons_succ, Act.put, List.length_cons, List.length_nil, List.range_succ, List.range_zero, List.nil_append, List.cons_append, List.setIfInBounds_toArray, List.set_cons_zero, List.set_cons_succ]
    go_wp2_with fail
    have hEW : Ext w W := ((hE0.trans hE2).trans (Ext.drew w2)).trans hE
    have hE2W : Ext w2 W := (Ext.drew w2).trans hE
    have hSW := (hS2.below hE2W (Nat.le_refl _)).more hE2W.sz
    have hlW : b2 < W.heap.size := by have := hE2W.sz; omega
    refine (Root_any (some ⟨b2, o2, none⟩) m c2 l W hSW (by omega) (fun k => Nat.lt_trans (hls k) (by decide))).mono ?_
    rintro e x1 ⟨rfl, kb1⟩
    have hv1 := ver_prove l i (by rw [HM.out]; exact him) (by rw [HM.out]; omega)
    have hok := prvS_ok l i (by rw [HM.out]; exact him) (by rw [HM.out]; omega)
    have hsp := (dgs_prvS l i (by rw [HM.out]; exact him)).sm
    have hr8 := rootS_size l
    generalize rootS l = r at hv1 hr8
    go_wp2_with fail
    refine (Prove_yes (some ⟨b2, o2, none⟩) m c2 i l x1 ((hSW.below kb1 (Nat.le_refl _)).more (Below.size kb1)) (by omega) (fun k => Nat.lt_trans (hls k) (by decide)) him).mono ?_
    rintro e x2 ⟨v3, rfl, o3, kb2⟩
    obtain ⟨B3, d3, rfl, s3⟩ := o3.form
    generalize prvS l i = ps at hv1 hok hsp s3 o3
    obtain ⟨hok1, hok2⟩ := hok
    have hEx2 : Ext w x2 := (hEW.trans kb1).trans kb2
    have hW2 : Ext W x2 := (show Ext W x1 from kb1).trans kb2
    have cl2 : x2.cell? ⟨b2, o2 + i, none⟩ = some (.string (l.getD i ByteArray.empty)) := ((hE2W.trans hW2).old (p := ⟨b2, o2 + i, none⟩) hbl2).trans (hc2 i him)
    have hli := hls i
    generalize l.getD i ByteArray.empty = li at cl2 hli hv1
    have hb22 : b2 < x2.heap.size := by have := hW2.sz; omega
    have c31 : x2.cell? ⟨w.heap.size + 1, 0, none⟩ = some (.string so) := ((hE2W.trans hW2).old (p := ⟨w.heap.size + 1, 0, none⟩) hlt2).trans c21
    have c32 : x2.cell? ⟨w.heap.size + 1, 1, none⟩ = some (.int .u8 (no : Nat)) := ((hE2W.trans hW2).old (p := ⟨w.heap.size + 1, 1, none⟩) hlt2).trans c22
    have c33 : x2.cell? ⟨w.heap.size + 1, 2, none⟩ = some (.int .u8 (co : Nat)) := ((hE2W.trans hW2).old (p := ⟨w.heap.size + 1, 2, none⟩) hlt2).trans c23
    have hltx2 : w.heap.size + 1 < x2.heap.size := by have := (hE2W.trans hW2).sz; omega
    clear hc2 cp2 cq2 c21 c22 c23 r0 r1 r2 r3 r4 r5 r6 r7 r8 r9 r10 r11
    go_wp2_with fail
    refine (Verify_any r li i B3 _ d3 ps x2 s3 (by omega) hsp (by omega) (by omega)).mono ?_
    rintro e x3 ⟨rfl, kb3⟩
    rw [hv1]
    have c41 : x3.cell? ⟨w.heap.size + 1, 0, none⟩ = some (.string so) := (Below.cell kb3 (p := ⟨w.heap.size + 1, 0, none⟩) hltx2).trans c31
    have c42 : x3.cell? ⟨w.heap.size + 1, 1, none⟩ = some (.int .u8 (no : Nat)) := (Below.cell kb3 (p := ⟨w.heap.size + 1, 1, none⟩) hltx2).trans c32
    have c43 : x3.cell? ⟨w.heap.size + 1, 2, none⟩ = some (.int .u8 (co : Nat)) := (Below.cell kb3 (p := ⟨w.heap.size + 1, 2, none⟩) hltx2).trans c33
    have cl3 : x3.cell? ⟨b2, o2 + i, none⟩ = some (.string li) := (Below.cell kb3 (p := ⟨b2, o2 + i, none⟩) hb22).trans cl2
    have hltx3 : w.heap.size + 1 < x3.heap.size := by have := Below.size kb3; omega
    have hb23 : b2 < x3.heap.size := by have := Below.size kb3; omega
    go_wp2_with fail
    obtain ⟨ot, hot⟩ : ∃ ot, chg no co li = ot := ⟨_, rfl⟩
    have hots : ot.size < 31 := by rw [← hot, chg_size]; exact hli
    apply wp_region_seq (l := [_, _, _, _, _, _]) (t := [_]) [some 54, some 55, some 56, some 57, some 58, some 59, some 13] [[], [], [], [1, 2], [3], [0, 4], [5]] [6, 6, 6, 6, 6, 6] [eqv _, eqv _, eqv _, eqv _, eqv _, (eqv (.string ot))] (by kernel_rfl) (by kernel_rfl) ⟨?o0, ?o1, ?o2, ?o3, ?o4, ?o5, trivial⟩ ?last
    case o0 => -- Op.load 27 (Operand.tmp 5)
      intro xv W' hE _
      have clW : W'.cell? ⟨b2, o2 + i, none⟩ = some (.string li) := (hE.old (p := ⟨b2, o2 + i, none⟩) hb23).trans cl3
      have c51 : W'.cell? ⟨w.heap.size + 1, 0, none⟩ = some (.string so) := (hE.old (p := ⟨w.heap.size + 1, 0, none⟩) hltx3).trans c41
      have c52 : W'.cell? ⟨w.heap.size + 1, 1, none⟩ = some (.int .u8 (no : Nat)) := (hE.old (p := ⟨w.heap.size + 1, 1, none⟩) hltx3).trans c42
      have c53 : W'.cell? ⟨w.heap.size + 1, 2, none⟩ = some (.int .u8 (co : Nat)) := (hE.old (p := ⟨w.heap.size + 1, 2, none⟩) hltx3).trans c43
      simp only [putD, List.foldl_nil, List.getD_cons_zero]
      refine OpGoal.plain ?_
      go_wp2_with fail
      exact ⟨rfl, Ext.refl _, rfl⟩
    case o1 => -- Op.move (Operand.tmp 0)
      intro xv W' hE _
      simp only [putD, List.foldl_nil, List.getD_cons_zero, List.getD_cons_succ]
      refine OpGoal.plain ?_
      go_wp2_with fail
      exact ⟨rfl, Ext.refl _, rfl⟩
    case o2 => -- Op.move (Operand.tmp 8)
      intro xv W' hE _
      simp only [putD, List.foldl_nil, List.getD_cons_zero, List.getD_cons_succ]
      refine OpGoal.plain ?_
      go_wp2_with fail
      exact ⟨rfl, Ext.refl _, rfl⟩
    case o3 => -- Op.indexAddr 28 (Operand.tmp 55) (Operand.tmp 56)
      intro xv W' hE hp
      have r1 : xv 1 = _ := hp.1
      have r2 : xv 2 = _ := hp.2.1
      clear hp
      simp only [putD, List.foldl_nil, List.foldl_cons, List.getD_cons_zero, List.getD_cons_succ, Act.put, List.setIfInBounds_toArray, List.set_cons_zero, List.set_cons_succ]
      refine OpGoal.plain ?_
      go_wp2_with fail
      exact ⟨rfl, Ext.refl _, rfl⟩
    case o4 => -- Op.load 9 (Operand.tmp 57)
      intro xv W' hE hp
      have r3 : xv 3 = _ := hp.1
      clear hp
      have clW : W'.cell? ⟨b2, o2 + i, none⟩ = some (.string li) := (hE.old (p := ⟨b2, o2 + i, none⟩) hb23).trans cl3
      have c51 : W'.cell? ⟨w.heap.size + 1, 0, none⟩ = some (.string so) := (hE.old (p := ⟨w.heap.size + 1, 0, none⟩) hltx3).trans c41
      have c52 : W'.cell? ⟨w.heap.size + 1, 1, none⟩ = some (.int .u8 (no : Nat)) := (hE.old (p := ⟨w.heap.size + 1, 1, none⟩) hltx3).trans c42
      have c53 : W'.cell? ⟨w.heap.size + 1, 2, none⟩ = some (.int .u8 (co : Nat)) := (hE.old (p := ⟨w.heap.size + 1, 2, none⟩) hltx3).trans c43
      simp only [putD, List.foldl_nil, List.foldl_cons, List.getD_cons_zero, List.getD_cons_succ, Act.put, List.setIfInBounds_toArray, List.set_cons_zero, List.set_cons_succ]
      refine OpGoal.plain ?_
      go_wp2_with fail
      exact ⟨rfl, Ext.refl _, rfl⟩
    case o5 => -- Op.call { callee := Callee.value (Operand.func 17), args := #[Operand.tmp 54, Op
      intro xv W' hE hp
      have r0 : xv 0 = _ := hp.1
      have r4 : xv 4 = _ := hp.2.1
      clear hp
      simp only [putD, List.foldl_nil, List.foldl_cons, List.getD_cons_zero, List.getD_cons_succ, Act.put, List.setIfInBounds_toArray, List.set_cons_zero, List.set_cons_succ]
      refine OpGoal.plain ?_
      go_wp2_with fail
      refine (change_any so no co li W' hno hco (by omega)).mono ?_
      rintro e w' ⟨rfl, hb⟩
      rw [hot]
      go_wp2_with fail
      exact ⟨rfl, hb, rfl⟩
    case last =>
      intro xv W' hE hp
      have r0 : xv 0 = _ := hp.1
      have r1 : xv 1 = _ := hp.2.1
      have r2 : xv 2 = _ := hp.2.2.1
      have r3 : xv 3 = _ := hp.2.2.2.1
      have r4 : xv 4 = _ := hp.2.2.2.2.1
      have r5 : xv 5 = _ := hp.2.2.2.2.2.1
      clear hp
      simp only [putD, List.foldl_nil, List.foldl_cons, List.getD_cons_zero, List.getD_cons_succ, Act.put, List.length_cons, List.length_nil, List.range_succ, List.range_zero, List.nil_append, List.cons_append, List.setIfInBounds_toArray, List.set_cons_zero, List.set_cons_succ]
      have hEc : Ext x3 W' := (Ext.drew x3).trans hE
      go_wp2_with fail
      refine (rLeaf_any ot W' (by omega)).mono ?_
      rintro e x4 ⟨rfl, kb4⟩
      have hE24 : Ext x2 x4 := ((show Ext x2 x3 from kb3).trans hEc).trans kb4
      have s4 := (s3.below hE24 (Nat.le_refl _)).more hE24.sz
      go_wp2_with fail
      refine (Up_any (lf ot) i B3 _ d3 ps x4 s4 (by omega) hsp (by rw [lf_size]; omega) (by omega)).mono ?_
      rintro e x4b ⟨rfl, kb4b⟩
      have hE24b : Ext x2 x4b := hE24.trans kb4b
      have s4b := (s3.below hE24b (Nat.le_refl _)).more hE24b.sz
      have cl4b : x4b.cell? ⟨b2, o2 + i, none⟩ = some (.string li) := (hE24b.old (p := ⟨b2, o2 + i, none⟩) hb22).trans cl2
      have hv3 := ver_up r ot i ps
      cases hu : upF (lf ot) i ps with
      | none =>
        clear hv3
        unfold upV
        by_cases hoe : (ot.toList == li.toList) = true
        · skip
          have hE5 : Ext w x4b := (hEx2.trans ((((show Ext x2 x3 from kb3).trans hEc).trans kb4).trans kb4b))
          have s5 := (s3.below (show Ext x2 x4b from (((show Ext x2 x3 from kb3).trans hEc).trans kb4).trans kb4b) (Nat.le_refl _)).more (show Ext x2 x4b from (((show Ext x2 x3 from kb3).trans hEc).trans kb4).trans kb4b).sz
          have hb5 : b2 < x4b.heap.size := by have := hE24b.sz; omega
          have cl5 : x4b.cell? ⟨b2, o2 + i, none⟩ = some (.string li) := ((show Ext x2 x4b from (((show Ext x2 x3 from kb3).trans hEc).trans kb4).trans kb4b).old (p := ⟨b2, o2 + i, none⟩) hb22).trans cl2
          go_wp2_with fail
          refine (rLeaf_any li x4b (by omega)).mono ?_
          rintro e x6 ⟨rfl, kb6⟩
          have s6 := (s5.below kb6 (Nat.le_refl _)).more (Below.size kb6)
          have cl6 : x6.cell? ⟨b2, o2 + i, none⟩ = some (.string li) := (Below.cell kb6 (p := ⟨b2, o2 + i, none⟩) hb5).trans cl5
          go_wp2_with fail
          refine (Up_any (lf li) k B3 _ d3 ps x6 s6 (by omega) hsp (by rw [lf_size]; omega) (by omega)).mono ?_
          rintro e x7 ⟨rfl, kb7⟩
          have s7 := (s6.below kb7 (Nat.le_refl _)).more (Below.size kb7)
          have cl7 : x7.cell? ⟨b2, o2 + i, none⟩ = some (.string li) := (Below.cell kb7 (p := ⟨b2, o2 + i, none⟩) (Nat.lt_of_lt_of_le hb5 (Below.size kb6))).trans cl6
          have hE7 : Ext w x7 := (hE5.trans kb6).trans kb7
          have hv2 := ver_up r li k ps
          by_cases hki : k = i
          · have tk : ((k : Int) == (i : Int)) = true := by rw [beq_iff_eq]; omega
            cases hu2 : upF (lf li) k ps with
            | none =>
              clear hv2
              unfold upV
              go_wp2_with fail
              go_ret
              exact ⟨rfl, hE7⟩
            | some d' =>
              clear hv2
              unfold upV
              go_wp2_with fail
              go_ret
              exact ⟨rfl, hE7⟩
          · have tk : ((k : Int) == (i : Int)) = false := by rw [beq_eq_false_iff_ne]; omega
            cases hu2 : upF (lf li) k ps with
            | none =>
              rw [hu2] at hv2
              unfold upV
              go_wp2_with fail
              refine (Verify_any r li k B3 _ d3 ps x7 s7 (by omega) hsp (by omega) (by omega)).mono ?_
              rintro e x8 ⟨rfl, kb8⟩
              rw [hv2]
              go_wp2_with fail
              go_ret
              exact ⟨rfl, hE7.trans kb8⟩
            | some d' =>
              rw [hu2] at hv2
              simp only at hv2
              unfold upV
              by_cases hd' : (d'.toList == r.toList) = true
              · go_wp2_with fail
                go_ret
                exact ⟨rfl, hE7⟩
              · have hd2 : (d'.toList == r.toList) = false := by simpa using hd'
                rw [hd2] at hv2
                clear hd'
                go_wp2_with fail
                refine (Verify_any r li k B3 _ d3 ps x7 s7 (by omega) hsp (by omega) (by omega)).mono ?_
                rintro e x8 ⟨rfl, kb8⟩
                rw [hv2]
                go_wp2_with fail
                go_ret
                exact ⟨rfl, hE7.trans kb8⟩
        · have hoe2 : (ot.toList == li.toList) = false := by simpa using hoe
          clear hoe
          have hE5 : Ext w x4b := (hEx2.trans ((((show Ext x2 x3 from kb3).trans hEc).trans kb4).trans kb4b))
          have s5 := (s3.below (show Ext x2 x4b from (((show Ext x2 x3 from kb3).trans hEc).trans kb4).trans kb4b) (Nat.le_refl _)).more (show Ext x2 x4b from (((show Ext x2 x3 from kb3).trans hEc).trans kb4).trans kb4b).sz
          have hb5 : b2 < x4b.heap.size := by have := hE24b.sz; omega
          have cl5 : x4b.cell? ⟨b2, o2 + i, none⟩ = some (.string li) := ((show Ext x2 x4b from (((show Ext x2 x3 from kb3).trans hEc).trans kb4).trans kb4b).old (p := ⟨b2, o2 + i, none⟩) hb22).trans cl2
          go_wp2_with fail
          refine (rLeaf_any li x4b (by omega)).mono ?_
          rintro e x6 ⟨rfl, kb6⟩
          have s6 := (s5.below kb6 (Nat.le_refl _)).more (Below.size kb6)
          have cl6 : x6.cell? ⟨b2, o2 + i, none⟩ = some (.string li) := (Below.cell kb6 (p := ⟨b2, o2 + i, none⟩) hb5).trans cl5
          go_wp2_with fail
          refine (Up_any (lf li) k B3 _ d3 ps x6 s6 (by omega) hsp (by rw [lf_size]; omega) (by omega)).mono ?_
          rintro e x7 ⟨rfl, kb7⟩
          have s7 := (s6.below kb7 (Nat.le_refl _)).more (Below.size kb7)
          have cl7 : x7.cell? ⟨b2, o2 + i, none⟩ = some (.string li) := (Below.cell kb7 (p := ⟨b2, o2 + i, none⟩) (Nat.lt_of_lt_of_le hb5 (Below.size kb6))).trans cl6
          have hE7 : Ext w x7 := (hE5.trans kb6).trans kb7
          have hv2 := ver_up r li k ps
          by_cases hki : k = i
          · have tk : ((k : Int) == (i : Int)) = true := by rw [beq_iff_eq]; omega
            cases hu2 : upF (lf li) k ps with
            | none =>
              clear hv2
              unfold upV
              go_wp2_with fail
              go_ret
              exact ⟨rfl, hE7⟩
            | some d' =>
              clear hv2
              unfold upV
              go_wp2_with fail
              go_ret
              exact ⟨rfl, hE7⟩
          · have tk : ((k : Int) == (i : Int)) = false := by rw [beq_eq_false_iff_ne]; omega
            cases hu2 : upF (lf li) k ps with
            | none =>
              rw [hu2] at hv2
              unfold upV
              go_wp2_with fail
              refine (Verify_any r li k B3 _ d3 ps x7 s7 (by omega) hsp (by omega) (by omega)).mono ?_
              rintro e x8 ⟨rfl, kb8⟩
              rw [hv2]
              go_wp2_with fail
              go_ret
              exact ⟨rfl, hE7.trans kb8⟩
            | some d' =>
              rw [hu2] at hv2
              simp only at hv2
              unfold upV
              by_cases hd' : (d'.toList == r.toList) = true
              · go_wp2_with fail
                go_ret
                exact ⟨rfl, hE7⟩
              · have hd2 : (d'.toList == r.toList) = false := by simpa using hd'
                rw [hd2] at hv2
                clear hd'
                go_wp2_with fail
                refine (Verify_any r li k B3 _ d3 ps x7 s7 (by omega) hsp (by omega) (by omega)).mono ?_
                rintro e x8 ⟨rfl, kb8⟩
                rw [hv2]
                go_wp2_with fail
                go_ret
                exact ⟨rfl, hE7.trans kb8⟩
      | some d =>
        rw [hu] at hv3
        simp only at hv3
        unfold upV
        by_cases hoe : (ot.toList == li.toList) = true
        · clear hv3
          have hE5 : Ext w x4b := (hEx2.trans ((((show Ext x2 x3 from kb3).trans hEc).trans kb4).trans kb4b))
          have s5 := (s3.below (show Ext x2 x4b from (((show Ext x2 x3 from kb3).trans hEc).trans kb4).trans kb4b) (Nat.le_refl _)).more (show Ext x2 x4b from (((show Ext x2 x3 from kb3).trans hEc).trans kb4).trans kb4b).sz
          have hb5 : b2 < x4b.heap.size := by have := hE24b.sz; omega
          have cl5 : x4b.cell? ⟨b2, o2 + i, none⟩ = some (.string li) := ((show Ext x2 x4b from (((show Ext x2 x3 from kb3).trans hEc).trans kb4).trans kb4b).old (p := ⟨b2, o2 + i, none⟩) hb22).trans cl2
          go_wp2_with fail
          refine (rLeaf_any li x4b (by omega)).mono ?_
          rintro e x6 ⟨rfl, kb6⟩
          have s6 := (s5.below kb6 (Nat.le_refl _)).more (Below.size kb6)
          have cl6 : x6.cell? ⟨b2, o2 + i, none⟩ = some (.string li) := (Below.cell kb6 (p := ⟨b2, o2 + i, none⟩) hb5).trans cl5
          go_wp2_with fail
          refine (Up_any (lf li) k B3 _ d3 ps x6 s6 (by omega) hsp (by rw [lf_size]; omega) (by omega)).mono ?_
          rintro e x7 ⟨rfl, kb7⟩
          have s7 := (s6.below kb7 (Nat.le_refl _)).more (Below.size kb7)
          have cl7 : x7.cell? ⟨b2, o2 + i, none⟩ = some (.string li) := (Below.cell kb7 (p := ⟨b2, o2 + i, none⟩) (Nat.lt_of_lt_of_le hb5 (Below.size kb6))).trans cl6
          have hE7 : Ext w x7 := (hE5.trans kb6).trans kb7
          have hv2 := ver_up r li k ps
          by_cases hki : k = i
          · have tk : ((k : Int) == (i : Int)) = true := by rw [beq_iff_eq]; omega
            cases hu2 : upF (lf li) k ps with
            | none =>
              clear hv2
              unfold upV
              go_wp2_with fail
              go_ret
              exact ⟨rfl, hE7⟩
            | some d' =>
              clear hv2
              unfold upV
              go_wp2_with fail
              go_ret
              exact ⟨rfl, hE7⟩
          · have tk : ((k : Int) == (i : Int)) = false := by rw [beq_eq_false_iff_ne]; omega
            cases hu2 : upF (lf li) k ps with
            | none =>
              rw [hu2] at hv2
              unfold upV
              go_wp2_with fail
              refine (Verify_any r li k B3 _ d3 ps x7 s7 (by omega) hsp (by omega) (by omega)).mono ?_
              rintro e x8 ⟨rfl, kb8⟩
              rw [hv2]
              go_wp2_with fail
              go_ret
              exact ⟨rfl, hE7.trans kb8⟩
            | some d' =>
              rw [hu2] at hv2
              simp only at hv2
              unfold upV
              by_cases hd' : (d'.toList == r.toList) = true
              · go_wp2_with fail
                go_ret
                exact ⟨rfl, hE7⟩
              · have hd2 : (d'.toList == r.toList) = false := by simpa using hd'
                rw [hd2] at hv2
                clear hd'
                go_wp2_with fail
                refine (Verify_any r li k B3 _ d3 ps x7 s7 (by omega) hsp (by omega) (by omega)).mono ?_
                rintro e x8 ⟨rfl, kb8⟩
                rw [hv2]
                go_wp2_with fail
                go_ret
                exact ⟨rfl, hE7.trans kb8⟩
        · have hoe2 : (ot.toList == li.toList) = false := by simpa using hoe
          clear hoe
          by_cases hd : (d.toList == r.toList) = true
          · clear hv3
            have hE5 : Ext w x4b := (hEx2.trans ((((show Ext x2 x3 from kb3).trans hEc).trans kb4).trans kb4b))
            have s5 := (s3.below (show Ext x2 x4b from (((show Ext x2 x3 from kb3).trans hEc).trans kb4).trans kb4b) (Nat.le_refl _)).more (show Ext x2 x4b from (((show Ext x2 x3 from kb3).trans hEc).trans kb4).trans kb4b).sz
            have hb5 : b2 < x4b.heap.size := by have := hE24b.sz; omega
            have cl5 : x4b.cell? ⟨b2, o2 + i, none⟩ = some (.string li) := ((show Ext x2 x4b from (((show Ext x2 x3 from kb3).trans hEc).trans kb4).trans kb4b).old (p := ⟨b2, o2 + i, none⟩) hb22).trans cl2
            go_wp2_with fail
            refine (rLeaf_any li x4b (by omega)).mono ?_
            rintro e x6 ⟨rfl, kb6⟩
            have s6 := (s5.below kb6 (Nat.le_refl _)).more (Below.size kb6)
            have cl6 : x6.cell? ⟨b2, o2 + i, none⟩ = some (.string li) := (Below.cell kb6 (p := ⟨b2, o2 + i, none⟩) hb5).trans cl5
            go_wp2_with fail
            refine (Up_any (lf li) k B3 _ d3 ps x6 s6 (by omega) hsp (by rw [lf_size]; omega) (by omega)).mono ?_
            rintro e x7 ⟨rfl, kb7⟩
            have s7 := (s6.below kb7 (Nat.le_refl _)).more (Below.size kb7)
            have cl7 : x7.cell? ⟨b2, o2 + i, none⟩ = some (.string li) := (Below.cell kb7 (p := ⟨b2, o2 + i, none⟩) (Nat.lt_of_lt_of_le hb5 (Below.size kb6))).trans cl6
            have hE7 : Ext w x7 := (hE5.trans kb6).trans kb7
            have hv2 := ver_up r li k ps
            by_cases hki : k = i
            · have tk : ((k : Int) == (i : Int)) = true := by rw [beq_iff_eq]; omega
              cases hu2 : upF (lf li) k ps with
              | none =>
                clear hv2
                unfold upV
                go_wp2_with fail
                go_ret
                exact ⟨rfl, hE7⟩
              | some d' =>
                clear hv2
                unfold upV
                go_wp2_with fail
                go_ret
                exact ⟨rfl, hE7⟩
            · have tk : ((k : Int) == (i : Int)) = false := by rw [beq_eq_false_iff_ne]; omega
              cases hu2 : upF (lf li) k ps with
              | none =>
                rw [hu2] at hv2
                unfold upV
                go_wp2_with fail
                refine (Verify_any r li k B3 _ d3 ps x7 s7 (by omega) hsp (by omega) (by omega)).mono ?_
                rintro e x8 ⟨rfl, kb8⟩
                rw [hv2]
                go_wp2_with fail
                go_ret
                exact ⟨rfl, hE7.trans kb8⟩
              | some d' =>
                rw [hu2] at hv2
                simp only at hv2
                unfold upV
                by_cases hd' : (d'.toList == r.toList) = true
                · go_wp2_with fail
                  go_ret
                  exact ⟨rfl, hE7⟩
                · have hd2 : (d'.toList == r.toList) = false := by simpa using hd'
                  rw [hd2] at hv2
                  clear hd'
                  go_wp2_with fail
                  refine (Verify_any r li k B3 _ d3 ps x7 s7 (by omega) hsp (by omega) (by omega)).mono ?_
                  rintro e x8 ⟨rfl, kb8⟩
                  rw [hv2]
                  go_wp2_with fail
                  go_ret
                  exact ⟨rfl, hE7.trans kb8⟩
          · have hd2 : (d.toList == r.toList) = false := by simpa using hd
            rw [hd2] at hv3
            clear hd
            go_wp2_with fail
            refine (Verify_any r ot i B3 _ d3 ps x4b s4b (by omega) hsp (by omega) (by omega)).mono ?_
            rintro e x5 ⟨rfl, kb5⟩
            rw [hv3]
            have hE5 : Ext w x5 := (hEx2.trans (((((show Ext x2 x3 from kb3).trans hEc).trans kb4).trans kb4b).trans kb5))
            have s5 := (s3.below (show Ext x2 x5 from ((((show Ext x2 x3 from kb3).trans hEc).trans kb4).trans kb4b).trans kb5) (Nat.le_refl _)).more (show Ext x2 x5 from ((((show Ext x2 x3 from kb3).trans hEc).trans kb4).trans kb4b).trans kb5).sz
            have hb5 : b2 < x5.heap.size := by have := hE24b.sz; have := Below.size kb5; omega
            have cl5 : x5.cell? ⟨b2, o2 + i, none⟩ = some (.string li) := ((show Ext x2 x5 from ((((show Ext x2 x3 from kb3).trans hEc).trans kb4).trans kb4b).trans kb5).old (p := ⟨b2, o2 + i, none⟩) hb22).trans cl2
            go_wp2_with fail
            refine (rLeaf_any li x5 (by omega)).mono ?_
            rintro e x6 ⟨rfl, kb6⟩
            have s6 := (s5.below kb6 (Nat.le_refl _)).more (Below.size kb6)
            have cl6 : x6.cell? ⟨b2, o2 + i, none⟩ = some (.string li) := (Below.cell kb6 (p := ⟨b2, o2 + i, none⟩) hb5).trans cl5
            go_wp2_with fail
            refine (Up_any (lf li) k B3 _ d3 ps x6 s6 (by omega) hsp (by rw [lf_size]; omega) (by omega)).mono ?_
            rintro e x7 ⟨rfl, kb7⟩
            have s7 := (s6.below kb7 (Nat.le_refl _)).more (Below.size kb7)
            have cl7 : x7.cell? ⟨b2, o2 + i, none⟩ = some (.string li) := (Below.cell kb7 (p := ⟨b2, o2 + i, none⟩) (Nat.lt_of_lt_of_le hb5 (Below.size kb6))).trans cl6
            have hE7 : Ext w x7 := (hE5.trans kb6).trans kb7
            have hv2 := ver_up r li k ps
            by_cases hki : k = i
            · have tk : ((k : Int) == (i : Int)) = true := by rw [beq_iff_eq]; omega
              cases hu2 : upF (lf li) k ps with
              | none =>
                clear hv2
                unfold upV
                go_wp2_with fail
                go_ret
                exact ⟨rfl, hE7⟩
              | some d' =>
                clear hv2
                unfold upV
                go_wp2_with fail
                go_ret
                exact ⟨rfl, hE7⟩
            · have tk : ((k : Int) == (i : Int)) = false := by rw [beq_eq_false_iff_ne]; omega
              cases hu2 : upF (lf li) k ps with
              | none =>
                rw [hu2] at hv2
                unfold upV
                go_wp2_with fail
                refine (Verify_any r li k B3 _ d3 ps x7 s7 (by omega) hsp (by omega) (by omega)).mono ?_
                rintro e x8 ⟨rfl, kb8⟩
                rw [hv2]
                go_wp2_with fail
                go_ret
                exact ⟨rfl, hE7.trans kb8⟩
              | some d' =>
                rw [hu2] at hv2
                simp only at hv2
                unfold upV
                by_cases hd' : (d'.toList == r.toList) = true
                · go_wp2_with fail
                  go_ret
                  exact ⟨rfl, hE7⟩
                · have hd2 : (d'.toList == r.toList) = false := by simpa using hd'
                  rw [hd2] at hv2
                  clear hd'
                  go_wp2_with fail
                  refine (Verify_any r li k B3 _ d3 ps x7 s7 (by omega) hsp (by omega) (by omega)).mono ?_
                  rintro e x8 ⟨rfl, kb8⟩
                  rw [hv2]
                  go_wp2_with fail
                  go_ret
                  exact ⟨rfl, hE7.trans kb8⟩

/- an array of two bytes, a value of Other among the arguments -/
theorem two_open {H : Type} {enc : TypeId × Value → H} {r : Reach} {b0 : Nat} {W : World} {v : Value} {d : DataW H} {ps : List MemPlace} (hv : Value.okWide Try.prog W r b0 41 v) (h : DataW.Trod enc Try.prog W 0 (fun _ => true) true 41 v d ps) :
    ∃ a b : Nat, v = .agg #[.int .u8 (a : Nat), .int .u8 (b : Nat)] ∧ a < 256 ∧ b < 256 := by
  simp only [Value.okWide, Try.underlying41] at hv
  obtain ⟨cs, rfl, hsz, _⟩ := hv
  obtain ⟨c0, c1, rfl⟩ := Joins.array2 (hsz.trans (show Try.prog.cellsOf 41 = 2 by kernel_rfl))
  obtain ⟨fuel, hf⟩ := h
  obtain ⟨xs, m, _, _, _, hl, hget⟩ := DataW.trod_array Try.underlying41 hf
  have hc : Try.prog.cellsOf 5 = 1 := by kernel_rfl
  have g0 := hget 0 (by omega)
  have g1 := hget 1 (by omega)
  rw [hc] at g0 g1
  match xs, hl with
  | [x0, x1], _ =>
    obtain ⟨a, e0, _, wa⟩ := DataW.trod_int Try.underlying5 (show DataW.trod enc Try.prog W 0 (fun _ => true) true m 5 [c0] = some x0 from g0)
    obtain ⟨b, e1, _, wb⟩ := DataW.trod_int Try.underlying5 (show DataW.trod enc Try.prog W 0 (fun _ => true) true m 5 [c1] = some x1 from g1)
    simp only [List.cons.injEq, and_true] at e0 e1
    subst e0 e1
    have ba := bounds_u8 wa
    have bb := bounds_u8 wb
    obtain ⟨a', rfl⟩ : ∃ k : Nat, a = k := ⟨a.toNat, by omega⟩
    obtain ⟨b', rfl⟩ : ∃ k : Nat, b = k := ⟨b.toNat, by omega⟩
    exact ⟨a', b', rfl, by omega, by omega⟩
theorem other_open {H : Type} {enc : TypeId × Value → H} {r : Reach} {b0 : Nat} {W : World} {v : Value} {d : DataW H} {ps : List MemPlace} (hv : Value.okWide Try.prog W r b0 27 v) (h : DataW.Trod enc Try.prog W 0 (fun _ => true) true 27 v d ps) :
    ∃ (s : ByteArray) (a b : Nat), v = .agg #[.string s, .int .u8 (a : Nat), .int .u8 (b : Nat)] ∧ s.size ≤ maxLen ∧ a < 256 ∧ b < 256 := by
  obtain ⟨c0, c1, c2, y0, y1, y2, m0, rfl, _, _, hy0, hy1, hy2⟩ := Joins.open_agg3 Try.underlying27 (by kernel_rfl) (show Try.prog.cellsOf 27 = 3 by kernel_rfl) hv h
  obtain ⟨sq, e0, _, wq⟩ := DataW.trod_string Try.underlying9 hy0
  obtain ⟨nq, e1, _, wn⟩ := DataW.trod_int Try.underlying5 hy1
  obtain ⟨cq, e2, _, wc⟩ := DataW.trod_int Try.underlying5 hy2
  simp only [List.cons.injEq, and_true] at e0 e1 e2
  subst e0 e1 e2
  have bn := bounds_u8 wn
  have bc := bounds_u8 wc
  obtain ⟨nn, rfl⟩ : ∃ k : Nat, nq = k := ⟨nq.toNat, by omega⟩
  obtain ⟨cn, rfl⟩ : ∃ k : Nat, cq = k := ⟨cq.toNat, by omega⟩
  exact ⟨sq, nn, cn, rfl, wq, by omega, by omega⟩
theorem DigestProves_any (A : Option Addr) (n c : Nat) (ss : List ByteArray) (p q : Nat) (so : ByteArray) (no co : Nat) (w : World) (hS : Strs w w.heap.size A n ss) (hn : n < 9223372036854775808) (hsm : ∀ k, (ss.getD k ByteArray.empty).size < 9223372036854775808) (hp : p < 256) (hq : q < 256) (hno : no < 256) (hco : co < 256) :
    Calls Try.prog 8 #[.slice A n c, .agg #[.int .u8 (p : Nat), .int .u8 (q : Nat)], .agg #[.string so, .int .u8 (no : Nat), .int .u8 (co : Nat)]] w fun e w' => e = .returned (.bool true) ∧ Below w.heap.size w w' := by
  by_cases h : (lst ss).length = 0
  · exact DigestProves_none A n c ss p q _ _ _ _ rfl w hS hn hsm h
  · exact DigestProves_some A n c ss p q so no co w hS hn hsm hp hq hno hco (by omega)

open Go.ChangeMaps (open_string shut_string)
open Go.WideMaps Go.WideElems
set_option maxRecDepth 100000 in
theorem digestProves_lifted (os : Os) (started : os.Started) (H : Type) (enc : TypeId × Value → H) :
    ReturnsInHanded {} Try.checked os 8 .any (Rows.digestProvesSpec.pre6 enc Try.prog Try.f8 Rows.digestProvesRow.domain false) (Rows.digestProvesSpec.post enc Try.prog Try.f8 false true false false) := by
  refine returnsInHanded_of_change (C := Try.checked) knob started (by kernel_rfl) Try.func8
    (ChangeSpec.witness6 (enc := enc) (C := Try.checked) false ⟨#[], #[.slice none 0 0, .agg #[.int .u8 0, .int .u8 0], .agg #[.string ByteArray.empty, .int .u8 0, .int .u8 0]], []⟩ 8 (by kernel_rfl) (by kernel_rfl) (by kernel_rfl) (by kernel_rfl)) ?_
  intro W base args ds gs before hval0 hW hcnd _
  have hval : ∀ (j : Nat) t v, Try.f8.params[j]? = some t → args[j]? = some v → Value.okWide Try.prog W .any base t v := hval0
  have hW' := hW
  obtain ⟨p, q, hA0, hV, rfl, hfz, hnd⟩ := hW
  have hA : DataW.TrodAll enc Try.prog W 0 (fun _ => true) true Try.f8.params.toList args.toList ds p := hA0
  rw [Try.params8] at hA hval
  have hAk := hA
  obtain ⟨v0, vs0, d0, ds0, p0, q0, hargs, rfl, hp0, h0, r0⟩ := trodAll_cons hA
  obtain ⟨v1, vs1, d1, ds1, p1, q1, rfl, rfl, hp1, h1, r1⟩ := trodAll_cons r0
  obtain ⟨v2, vs2, d2, ds2, p2, q2, rfl, rfl, hp2, h2, r2⟩ := trodAll_cons r1
  obtain ⟨rfl, rfl, hpn⟩ := trodAll_nil r2
  obtain rfl : args = #[v0, v1, v2] := by cases args; simp_all
  obtain ⟨rfl, rfl⟩ := trodVars_none hV
  obtain ⟨A0, n0, c0, rfl⟩ := okWide_slice Try.underlying28 (hval 0 28 v0 rfl rfl)
  obtain ⟨fuel0, hf0⟩ := h0
  obtain ⟨ss0, hS0, hn0, hs0⟩ := strs_open hf0
  obtain ⟨pa, qa, rfl, bpa, bqa⟩ := two_open (hval 1 41 v1 rfl rfl) h1
  obtain ⟨so, no, co, rfl, wso, bno, bco⟩ := other_open (hval 2 27 v2 rfl rfl) h2
  clear hA0 hval0
  simp only [List.append_nil] at hW'
  refine (DigestProves_any A0 n0 c0 ss0 pa qa so no co W hS0 hn0 hs0 bpa bqa bno bco).mono fun e W' ⟨he, hg⟩ => ?_
  subst he
  exact ⟨_, rfl, _, _, _, [], p, [], hW', trodAll_cons_mk (shut_bool Try.underlying4 _) trodAll_mk0, args_back laid hg _ _ _ _ (by rw [Try.params8]; kernel_rfl) hAk (fun x hx => by simpa using hW'.lt x (by simpa using hx)), rfl, hg.frame _, fun h => by cases h⟩

theorem digestProves_holds : Rows.DigestProvesSaid :=
  OpenClaim.holds_of_wide 8 Try.f8 rfl rfl rfl rfl rfl rfl rfl ⟨rfl, rfl, rfl, rfl, rfl⟩ rfl rfl rfl rfl rfl (by kernel_rfl) Try.func8 (by kernel_rfl)
    (of_decide_eq_true (by kernel_rfl)) (by unfold Func.isWrapper; first | (rw [if_pos (by decide +kernel)]; kernel_rfl) | (rw [if_neg (by decide +kernel)]; exact ⟨rfl, rfl⟩))
    (fun os started H enc _ => digestProves_lifted os started H enc)
#print axioms digestProves_holds
end Go.Proofs.Ytncdnopnjdbleaa
