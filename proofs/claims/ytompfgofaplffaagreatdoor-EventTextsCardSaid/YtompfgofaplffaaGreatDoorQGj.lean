/- event.Can. -/
import Derived.Test.YtompfgofaplffaaGreatDoorQGh
import Derived.Lib.SmallJoins
import Derived.Lib.SplitLaws
import Derived.Lib.IndexLaws
import Derived.Lib.Join
import Derived.Test.YtompfgofaplffaaGreatDoorQGe
set_option linter.unusedSimpArgs false
set_option linter.unusedVariables false
namespace Go.Proofs.YtompfgofaplffaaGreatDoor
open Go.RowKit Hach

/-- Whether faces can be united at a scale. -/
def canE (es : List Ed) (x y t wt : Int) : Int := if t < 1 then 3 else if 1024 < t then 3 else if canF es x y ≠ 0 then canF es x y else if t < max 1 (4 * wt) then 21 else 0
set_option maxRecDepth 100000 in
set_option maxHeartbeats 4000000 in
theorem ecan_odd (m : Mp) (a : Ma) (e : Ev) (h : 4 < e.kind) (w : World) : Calls Tryz.prog 16 #[.agg (a.cells m).toArray, .agg #[.int .i64 e.kind, .int .i64 e.at_, .int .i64 e.id, .int .i64 e.other, .int .i64 e.n]] w fun r w' => r = .returned (.int .i64 20) ∧ Ext w w' := by
  have HO := Lib.hid (fun W => of_odd e h W)
  go_enter Tryz.func16, Tryz.ntmps16
  go_wp2_with fail
  refine (HO.out _).mono ?_
  rintro r w1 ⟨rfl, hE⟩
  unfold zK
  go_wp2_with fail
  go_ret
  exact ⟨rfl, Ext.trans (Ext.trans (Ext.alloc _ _) (Ext.alloc _ _)) (Ext.trans hE (Ext.alloc _ _))⟩
set_option maxRecDepth 100000 in
set_option maxHeartbeats 8000000 in
theorem ecan_two (m : Mp) (a : Ma) (b o i j : Nat) (d t : Int) (w : World) (hm : MpAt w a m) (hA : a.fa = some ⟨b, o, none⟩) (hok : FuseOk m d) (hi : i < m.faces.length) (hj : j < m.faces.length) :
    Calls Tryz.prog 16 #[.agg (a.cells m).toArray, .agg #[.int .i64 2, .int .i64 t, .int .i64 (fa m.faces i).id, .int .i64 (fa m.faces j).id, .int .i64 0]] w fun r w' => r = .returned (.int .i64 (canE m.edges (fa m.faces i).id (fa m.faces j).id t (fa m.faces i).weight)) ∧ Ext w w' := by
  have HC : Hid (∀ W, Ext w W → Calls Tryz.prog 40 #[.agg #[.slice a.ea m.edges.length a.ec, .slice a.fa m.faces.length a.fc, .slice a.wa m.ways.length a.wc, .slice a.pa m.places.length a.pc], .int .i64 (fa m.faces i).id, .int .i64 (fa m.faces j).id] W fun e w' => e = .returned (.int .i64 (canF m.edges (fa m.faces i).id (fa m.faces j).id)) ∧ Ext W w') := Lib.hid (fun W h => fCan_any m a b o i j W (hm.keep h) hA hok.ap hi hj hok.elen (by rw [hok.dis i hi, hok.dis j hj]) (by rw [hok.dis j hj]; exact hok.pos) (hok.nm i j hi hj))
  have HS : Hid (∀ W, Ext w W → Calls Tryz.prog 41 #[.agg #[.slice a.ea m.edges.length a.ec, .slice a.fa m.faces.length a.fc, .slice a.wa m.ways.length a.wc, .slice a.pa m.places.length a.pc], .int .i64 (fa m.faces i).id, .int .i64 (fa m.faces j).id] W fun e w' => e = .returned (.int .i64 (4 * (fa m.faces i).weight)) ∧ Ext W w') := Lib.hid (fun W h => fCost_any m a b o i _ W (hm.keep h) hA hok.ap hi (hok.wt i hi))
  unfold canE
  clear hm hA hok hi hj
  generalize canF m.edges (fa m.faces i).id (fa m.faces j).id = q at *
  generalize (fa m.faces i).id = x at *
  generalize (fa m.faces j).id = y at *
  generalize (fa m.faces i).weight = wt at *
  generalize hRS : (if t < 1 then (3 : Int) else if 1024 < t then 3 else if q ≠ 0 then q else if t < max 1 (4 * wt) then 21 else 0) = RS
  have HRS := Lib.hid hRS
  clear hRS
  have HO := Lib.hid (fun W => of_two t x y W)
  have HT := Lib.hid (fun W => other_any ⟨2, t, x, y, 0⟩ W)
  have hM0 : (w.alloc (.cells (a.cells m).toArray 41)).heap[w.heap.size]? = some (.cells (a.cells m).toArray 41 (0, 0)) := Go.heap_alloc_new w _
  have hE0 : EvBlk ((w.alloc (.cells (a.cells m).toArray 41)).alloc (.cells #[.int .i64 2, .int .i64 t, .int .i64 x, .int .i64 y, .int .i64 0] 23)) (w.heap.size + 1) ⟨2, t, x, y, 0⟩ := by
    have := Go.heap_alloc_new (w.alloc (.cells (a.cells m).toArray 41)) (.cells #[.int .i64 2, .int .i64 t, .int .i64 x, .int .i64 y, .int .i64 0] 23)
    rw [World.size_alloc] at this
    exact this
  have hM1 := blk_ext hM0 (Ext.alloc (w.alloc (.cells (a.cells m).toArray 41)) (.cells #[.int .i64 2, .int .i64 t, .int .i64 x, .int .i64 y, .int .i64 0] 23))
  have hX1 := Ext.trans (Ext.alloc w (.cells (a.cells m).toArray 41)) (Ext.alloc (w.alloc (.cells (a.cells m).toArray 41)) (.cells #[.int .i64 2, .int .i64 t, .int .i64 x, .int .i64 y, .int .i64 0] 23))
  have hS1 : ((w.alloc (.cells (a.cells m).toArray 41)).alloc (.cells #[.int .i64 2, .int .i64 t, .int .i64 x, .int .i64 y, .int .i64 0] 23)).heap.size = w.heap.size + 2 := by rw [World.size_alloc, World.size_alloc]
  obtain ⟨V, hV⟩ : ∃ V, (w.alloc (.cells (a.cells m).toArray 41)).alloc (.cells #[.int .i64 2, .int .i64 t, .int .i64 x, .int .i64 y, .int .i64 0] 23) = V := ⟨_, rfl⟩
  rw [hV] at hM1 hE0 hX1 hS1
  have HV := Lib.hid hV
  have HST := Lib.hid (fun W (h : Ext V W) => And.intro (Ma.box (blk_ext hM1 h)) (And.intro (hE0.ext h).get (And.intro (show w.heap.size < W.heap.size by have := h.sz; omega) (show w.heap.size + 1 < W.heap.size by have := h.sz; omega))))
  have HX1 := Lib.hid hX1
  clear hM0 hE0 hM1 hX1 hS1 hV
  go_enter Tryz.func16, Tryz.ntmps16
  go_wp2_with fail
  rw [HV.out]
  refine (HO.out _).mono ?_
  rintro r w1 ⟨rfl, hE1⟩
  unfold fK
  obtain ⟨⟨c0, c1, c2, c3⟩, ⟨d0, d1, d2, d3, d4⟩, l1, l2⟩ := HST.out _ hE1
  have hb5 : (w1.alloc (.cells fK 53)).heap[w1.heap.size]? = some (.cells fK 53 (0, 0)) := Go.heap_alloc_new _ _
  have hE1' := Ext.trans hE1 (Ext.alloc w1 (.cells fK 53))
  have HF := Lib.hid (fun W (h : Ext (w1.alloc (.cells fK 53)) W) => fK_cells (blk_ext hb5 h))
  have HEV := Lib.hid hE1'
  clear hE1' hb5
  by_cases t1 : t < 1
  · have s1 : decide (t < 1) = true := by simpa using t1
    go_wp2_with fail
    go_ret
    exact ⟨ret_i (show (3 : Int) = RS by rw [← HRS.out, if_pos t1]), Ext.trans HX1.out (Ext.trans hE1 (Ext.alloc _ _))⟩
  have s1 : decide (t < 1) = false := by simpa using t1
  by_cases t2 : 1024 < t
  · have s2 : decide (1024 < t) = true := by simpa using t2
    go_wp2_with fail
    go_ret
    exact ⟨ret_i (show (3 : Int) = RS by rw [← HRS.out, if_neg (by omega), if_pos t2]), Ext.trans HX1.out (Ext.trans hE1 (Ext.alloc _ _))⟩
  have s2 : decide (1024 < t) = false := by simpa using t2
  go_wp2_with fail
  refine (HT.out _).mono ?_
  rintro r w2 ⟨rfl, hE2⟩
  have HX2 := Lib.hid (show Ext (w1.alloc (.cells fK 53)) w2 from hE2)
  clear hE2 c0 c1 c2 c3 d0 d1 d2 d3 d4 l1 l2 hE1
  obtain ⟨⟨c0, c1, c2, c3⟩, ⟨d0, d1, d2, d3, d4⟩, l1, l2⟩ := HST.out _ (Ext.trans HEV.out HX2.out)
  obtain ⟨f0, f1, f2, f3, f4, f5⟩ := HF.out _ HX2.out
  go_wp2_with fail
  refine (HC.out _ (Ext.trans HX1.out (Ext.trans HEV.out HX2.out))).mono ?_
  rintro r w3 ⟨rfl, hE3⟩
  have HX3 := Lib.hid (Ext.trans HX2.out hE3)
  clear hE3 c0 c1 c2 c3 d0 d1 d2 d3 d4 l1 l2 f0 f1 f2 f3 f4 f5
  by_cases hq : q = 0
  · have sq : (q != 0) = false := by simpa using hq
    have HQ := Lib.hid (fun W (h : Ext w3.drew W) => And.intro (HST.out W (Ext.trans HEV.out (Ext.trans HX3.out (Ext.trans (Ext.drew w3) h)))) (HF.out W (Ext.trans HX3.out (Ext.trans (Ext.drew w3) h))))
    have HS2 := Lib.hid (fun W (h : Ext w3.drew W) => HS.out W (Ext.trans HX1.out (Ext.trans HEV.out (Ext.trans HX3.out (Ext.trans (Ext.drew w3) h)))))
    obtain ⟨mx, hmx⟩ : ∃ mx, max 1 (4 * wt) = mx := ⟨_, rfl⟩
    have HR2 : Hid (RS = if t < mx then 21 else 0) := Lib.hid (by rw [← HRS.out, if_neg (by omega), if_neg (by omega), if_neg (by simpa using hq), hmx])
    have HXX := Lib.hid (Ext.trans HX1.out (Ext.trans HEV.out (Ext.trans HX3.out (Ext.drew w3))))
    clear hq HC HO HT HX1 HX2 HX3 HEV
    go_wp2_with fail
    apply wp_region_seq (l := [_, _, _, _, _, _, _, _, _, _, _]) (t := []) [some 41, some 42, some 43, some 44, some 45, some 46, some 47, some 48, some 49, some 50, some 51] [[], [0], [], [2], [], [], [5], [], [3, 4, 6, 7], [8], [1, 9]] [] [eqv _, eqv _, eqv _, (eqv (.func (.func 41) #[] #[])), (eqv (.agg #[.slice a.ea m.edges.length a.ec, .slice a.fa m.faces.length a.fc, .slice a.wa m.ways.length a.wc, .slice a.pa m.places.length a.pc])), eqv _, eqv _, eqv _, (eqv (.int .i64 (4 * wt))), (eqv (.int .i64 mx)), (eqv (.bool (decide (t < mx))))] (by kernel_rfl) (by kernel_rfl) ⟨?o0, ?o1, ?o2, ?o3, ?o4, ?o5, ?o6, ?o7, ?o8, ?o9, ?o10, trivial⟩ ?last
    case o0 => -- Op.fieldAddr 23 (Operand.tmp 3) 1
      intro xv W hE _
      simp only [putD, List.foldl_nil, List.getD_cons_zero]
      refine OpGoal.plain ?_
      go_wp2_with fail
      exact ⟨rfl, Ext.refl _, rfl⟩
    case o1 => -- Op.load 3 (Operand.tmp 41)
      intro xv W hE hp
      have r0 : xv 0 = _ := hp.1
      clear hp
      obtain ⟨⟨⟨c0, c1, c2, c3⟩, ⟨d0, d1, d2, d3, d4⟩, _, _⟩, ⟨_, _, _, f3, _⟩⟩ := HQ.out W hE
      simp only [putD, List.foldl_nil, List.foldl_cons, List.getD_cons_zero, List.getD_cons_succ, Act.put, List.setIfInBounds_toArray, List.set_cons_zero, List.set_cons_succ]
      refine OpGoal.plain ?_
      go_wp2_with fail
      exact ⟨rfl, Ext.refl _, rfl⟩
    case o2 => -- Op.fieldAddr 53 (Operand.tmp 5) 3
      intro xv W hE _
      simp only [putD, List.foldl_nil, List.getD_cons_zero, List.getD_cons_succ]
      refine OpGoal.plain ?_
      go_wp2_with fail
      exact ⟨rfl, Ext.refl _, rfl⟩
    case o3 => -- Op.load 50 (Operand.tmp 43)
      intro xv W hE hp
      have r2 : xv 2 = _ := hp.1
      clear hp
      obtain ⟨⟨⟨c0, c1, c2, c3⟩, ⟨d0, d1, d2, d3, d4⟩, _, _⟩, ⟨_, _, _, f3, _⟩⟩ := HQ.out W hE
      simp only [putD, List.foldl_nil, List.foldl_cons, List.getD_cons_zero, List.getD_cons_succ, Act.put, List.setIfInBounds_toArray, List.set_cons_zero, List.set_cons_succ]
      refine OpGoal.plain ?_
      go_wp2_with fail
      exact ⟨rfl, Ext.refl _, rfl⟩
    case o4 => -- Op.load 41 (Operand.tmp 2)
      intro xv W hE _
      obtain ⟨⟨⟨c0, c1, c2, c3⟩, ⟨d0, d1, d2, d3, d4⟩, _, _⟩, ⟨_, _, _, f3, _⟩⟩ := HQ.out W hE
      simp only [putD, List.foldl_nil, List.getD_cons_zero, List.getD_cons_succ]
      refine OpGoal.plain ?_
      go_wp2_with fail
      exact ⟨rfl, Ext.refl _, rfl⟩
    case o5 => -- Op.fieldAddr 23 (Operand.tmp 3) 2
      intro xv W hE _
      simp only [putD, List.foldl_nil, List.getD_cons_zero, List.getD_cons_succ]
      refine OpGoal.plain ?_
      go_wp2_with fail
      exact ⟨rfl, Ext.refl _, rfl⟩
    case o6 => -- Op.load 3 (Operand.tmp 46)
      intro xv W hE hp
      have r5 : xv 5 = _ := hp.1
      clear hp
      obtain ⟨⟨⟨c0, c1, c2, c3⟩, ⟨d0, d1, d2, d3, d4⟩, _, _⟩, ⟨_, _, _, f3, _⟩⟩ := HQ.out W hE
      simp only [putD, List.foldl_nil, List.foldl_cons, List.getD_cons_zero, List.getD_cons_succ, Act.put, List.setIfInBounds_toArray, List.set_cons_zero, List.set_cons_succ]
      refine OpGoal.plain ?_
      go_wp2_with fail
      exact ⟨rfl, Ext.refl _, rfl⟩
    case o7 => -- Op.move (Operand.tmp 7)
      intro xv W hE _
      simp only [putD, List.foldl_nil, List.getD_cons_zero, List.getD_cons_succ]
      refine OpGoal.plain ?_
      go_wp2_with fail
      exact ⟨rfl, Ext.refl _, rfl⟩
    case o8 => -- Op.call { callee := Callee.value (Operand.tmp 44), args := #[Operand.tmp 45, Ope
      intro xv W hE hp
      have r3 : xv 3 = _ := hp.1
      have r4 : xv 4 = _ := hp.2.1
      have r6 : xv 6 = _ := hp.2.2.1
      have r7 : xv 7 = _ := hp.2.2.2.1
      clear hp
      simp only [putD, List.foldl_nil, List.foldl_cons, List.getD_cons_zero, List.getD_cons_succ, Act.put, List.setIfInBounds_toArray, List.set_cons_zero, List.set_cons_succ]
      refine OpGoal.plain ?_
      go_wp2_with fail
      refine (HS2.out W hE).mono ?_
      rintro r W' ⟨rfl, hE'⟩
      go_wp2_with fail
      exact ⟨rfl, hE', rfl⟩
    case o9 => -- Op.call { callee := Callee.builtin Builtin.max, args := #[Operand.const (Value.i
      intro xv W hE hp
      have r8 : xv 8 = _ := hp.1
      clear hp
      simp only [putD, List.foldl_nil, List.foldl_cons, List.getD_cons_zero, List.getD_cons_succ, Act.put, List.setIfInBounds_toArray, List.set_cons_zero, List.set_cons_succ]
      refine OpGoal.plain ?_
      go_wp2_with fail
      exact ⟨rfl, Ext.refl _, rfl⟩
    case o10 => -- Op.binOp BinOp.lss 3 (Operand.tmp 42) (Operand.tmp 50) 3
      intro xv W hE hp
      have r1 : xv 1 = _ := hp.1
      have r9 : xv 9 = _ := hp.2.1
      clear hp
      simp only [putD, List.foldl_nil, List.foldl_cons, List.getD_cons_zero, List.getD_cons_succ, Act.put, List.setIfInBounds_toArray, List.set_cons_zero, List.set_cons_succ]
      refine OpGoal.plain ?_
      go_wp2_with fail
      exact ⟨rfl, Ext.refl _, rfl⟩
    case last =>
      intro xv W hE hp
      have r0 : xv 0 = _ := hp.1
      have r1 : xv 1 = _ := hp.2.1
      have r2 : xv 2 = _ := hp.2.2.1
      have r3 : xv 3 = _ := hp.2.2.2.1
      have r4 : xv 4 = _ := hp.2.2.2.2.1
      have r5 : xv 5 = _ := hp.2.2.2.2.2.1
      have r6 : xv 6 = _ := hp.2.2.2.2.2.2.1
      have r7 : xv 7 = _ := hp.2.2.2.2.2.2.2.1
      have r8 : xv 8 = _ := hp.2.2.2.2.2.2.2.2.1
      have r9 : xv 9 = _ := hp.2.2.2.2.2.2.2.2.2.1
      have r10 : xv 10 = _ := hp.2.2.2.2.2.2.2.2.2.2.1
      clear hp
      simp only [putD, List.foldl_nil, List.foldl_cons, List.getD_cons_zero, List.getD_cons_succ, Act.put, List.length_cons, List.length_nil, List.range_succ, List.range_zero, List.nil_append, List.cons_append, List.setIfInBounds_toArray, List.set_cons_zero, List.set_cons_succ]
      simp only [r10]
      clear r0 r1 r2 r3 r4 r5 r6 r7 r8 r9 r10
      have hX := Ext.trans HXX.out hE
      by_cases tm : t < mx
      · rw [decide_eq_true tm]
        go_wp2_with fail
        go_ret
        exact ⟨ret_i (show (21 : Int) = RS by rw [HR2.out, if_pos tm]), hX⟩
      · rw [decide_eq_false tm]
        go_wp2_with fail
        go_ret
        exact ⟨ret_i (show (0 : Int) = RS by rw [HR2.out, if_neg (by omega)]), hX⟩
  · have sq : (q != 0) = true := by simpa using hq
    go_wp2_with fail
    go_ret
    exact ⟨ret_i (show q = RS by rw [← HRS.out, if_neg (by omega), if_neg (by omega), if_pos hq]), Ext.trans HX1.out (Ext.trans HEV.out HX3.out)⟩
end Go.Proofs.YtompfgofaplffaaGreatDoor

namespace Go.Proofs.YtompfgofaplffaaGreatDoor
open Go.RowKit Hach Num

def Tabs (w : World) : Prop :=
  Lib.TabIs Tryz.prog w "internal/strconv.uint64pow10" .u64 Lib.pow10Tab ∧ 5 ≤ w.heap.size ∧ (∃ m, w.cell? ⟨4, 0, none⟩ = some (.int .i64 m)) ∧
    (∃ ev, w.cell? ⟨0, 0, none⟩ = some ev ∧ (ev = .nilIface ∨ ∃ te pe, ev = .iface te pe)) ∧ (∃ ev, w.cell? ⟨1, 0, none⟩ = some ev ∧ (ev = .nilIface ∨ ∃ te pe, ev = .iface te pe))
theorem Tabs.keep {w w' : World} (h : Tabs w) (hz : w.heap.size ≤ w'.heap.size) (hk : ∀ k, k < 5 → w'.heap[k]? = w.heap[k]?) : Tabs w' := by
  obtain ⟨h0, hs, h1, h2, h3⟩ := h
  refine ⟨?_, by omega, ?_, ?_, ?_⟩
  · have hg : Tryz.prog.globalNamed "internal/strconv.uint64pow10" = some 3 := by kernel_rfl
    unfold Lib.TabIs World.var? at h0 ⊢
    rw [hg] at h0 ⊢
    simp only [Option.bind_some] at h0 ⊢
    rw [hk 3 (by omega)]
    exact h0
  · obtain ⟨m, h⟩ := h1
    exact ⟨m, (World.cell?_of_block (a := ⟨4, 0, none⟩) (hk 4 (by omega))).trans h⟩
  · obtain ⟨m, h, r⟩ := h2
    exact ⟨m, (World.cell?_of_block (a := ⟨0, 0, none⟩) (hk 0 (by omega))).trans h, r⟩
  · obtain ⟨m, h, r⟩ := h3
    exact ⟨m, (World.cell?_of_block (a := ⟨1, 0, none⟩) (hk 1 (by omega))).trans h, r⟩
theorem Tabs.sz {w : World} (h : Tabs w) : 5 ≤ w.heap.size := h.2.1
theorem Tabs.ext {w w' : World} (h : Tabs w) (hE : Ext w w') : Tabs w' := h.keep hE.sz fun k hk => hE.below.block k (by have := h.sz; omega)
theorem ext_grow (w : World) (k : Nat) (os : Array Obj) : Ext w (Sort.grow (w.drewN k) os) := Lib.below_grow _ w (Nat.le_refl _) k os
theorem itoa_any (n : Int) (hn : InI n) (w : World) (ht : Tabs w) :
    Calls Tryz.prog 18 #[.int .i64 n] w fun e w' => e = .returned (.string ⟨(Lib.itoa n).toArray⟩) ∧ Ext w w' := by
  refine (Tryz.strconv_Itoa n hn.1 hn.2 w ht.1).mono ?_
  rintro e w' ⟨rfl, k, os, rfl⟩
  exact ⟨rfl, ext_grow w k os⟩
theorem atoi_any (d : ByteArray) (hd : d.size < 4294967296) (w : World) (ht : Tabs w) :
    Calls Tryz.prog 25 #[.string d] w fun e w' =>
      ((∃ v, atoiV d.data.toList = some v ∧ e = .returned (.tuple #[.int .i64 v, .nilIface])) ∨
       (∃ v te pe, atoiV d.data.toList = none ∧ e = .returned (.tuple #[.int .i64 v, .iface te pe]))) ∧ Ext w w' := by
  obtain ⟨_, _, _, ⟨e2, c2, k2⟩, ⟨e3, c3, k3⟩⟩ := ht
  cases h : Lib.atoiAll d.data.toList
  · rename_i v
    refine (Tryz.strconv_Atoi_ok d (by omega) v h w).mono ?_
    rintro e w' ⟨rfl, hw⟩
    refine ⟨.inl ⟨v, ?_, rfl⟩, ?_⟩
    · unfold atoiV; rw [h]
    · rcases hw with rfl | ⟨t, rfl⟩
      · exact Ext.refl _
      · exact Joins.below_bytesWorld _ w _ t (Nat.le_refl _)
  · refine (show Calls Tryz.prog 25 #[.string d] w _ from Any.strconv_Atoi_syntax Tryz.laysC172 d (by omega) h e2 w c2 k2).mono ?_
    rintro e w' ⟨N, rfl, _, _, hb⟩
    exact ⟨.inr ⟨_, _, _, by unfold atoiV; rw [h], rfl⟩, hb⟩
  · refine (show Calls Tryz.prog 25 #[.string d] w _ from Any.strconv_Atoi_range Tryz.laysC172 d (by omega) h e3 w c3 k3).mono ?_
    rintro e w' ⟨N, rfl, _, _, hb⟩
    exact ⟨.inr ⟨_, _, _, by unfold atoiV; rw [h], rfl⟩, hb⟩
/- splitting at blanks -/
theorem index_hit {a : List UInt8} (b : List UInt8) (hn : (32 : UInt8) ∉ a) : Lib.index (a ++ 32 :: b) [32] = a.length := by
  refine Lib.index_first (by simp) (by simp [Lib.occAt]) (fun j hj => ?_)
  unfold Lib.occAt
  rw [List.drop_append_of_le_length (by omega)]
  have : a.drop j = a[j] :: a.drop (j + 1) := List.drop_eq_getElem_cons hj
  rw [this]
  simp only [List.cons_append, List.isPrefixOf, Bool.and_true, beq_eq_false_iff_ne]
  intro e
  exact hn (by rw [e]; exact List.getElem_mem hj)
theorem split_first (s : List UInt8) : (32 : UInt8) ∉ s ∨ ∃ a b, s = a ++ 32 :: b ∧ (32 : UInt8) ∉ a := by
  induction s with
  | nil => exact .inl (by simp)
  | cons c r ih =>
    by_cases hc : c = 32
    · exact .inr ⟨[], r, by rw [hc]; rfl, by simp⟩
    · rcases ih with h | ⟨a, b, rfl, h⟩
      · exact .inl (fun hm => by rcases List.mem_cons.1 hm with e | h'; exact hc e.symm; exact h h')
      · exact .inr ⟨c :: a, b, rfl, fun hm => by rcases List.mem_cons.1 hm with e | h'; exact hc e.symm; exact h h'⟩
theorem splitK_wds : ∀ (n : Nat) (s : List UInt8), s.length ≤ n → Lib.splitK [32] 0 (s.count 32) s = wds s := by
  intro n
  induction n with
  | zero =>
    intro s hs
    obtain rfl : s = [] := List.length_eq_zero_iff.1 (by omega)
    rfl
  | succ n ih =>
    intro s hs
    rcases split_first s with h | ⟨a, b, rfl, h⟩
    · rw [List.count_eq_zero.2 h, wds_none h]; rfl
    · have hc : (a ++ 32 :: b).count 32 = b.count 32 + 1 := by rw [List.count_append, List.count_eq_zero.2 h]; simp
      rw [hc, Lib.splitK, index_hit b h, if_neg (by simp), wds_append b h, ← ih b (by simp at hs; omega)]
      simp
def slRow (W : World) (g : Nat) (l : List (List UInt8)) : Prop := W.heap[g]? = some (.cells (l.map strV).toArray 9 (0, 0))
theorem split_any (s : ByteArray) (hs : s.size < 4294967281) (w : World) (ht : Tabs w) :
    Calls Tryz.prog 21 #[.string s, .string ⟨#[32]⟩] w fun e w' => e = .returned (.slice (some ⟨w.heap.size, 0, none⟩) (wds s.data.toList).length (wds s.data.toList).length) ∧ w' = w.alloc (.cells ((wds s.data.toList).map strV).toArray 9) := by
  obtain ⟨_, _, ⟨m, hm⟩, _⟩ := ht
  have h1 : (Lib.splitB ⟨#[32]⟩ 0 (Lib.countB s ⟨#[32]⟩) s).map (·.data.toList) = wds s.data.toList := by
    rw [Lib.splitB_data]
    have hc : Lib.countB s ⟨#[32]⟩ = s.data.toList.count 32 := Lib.count_one 32 s.data.toList
    rw [hc]
    exact splitK_wds _ _ (Nat.le_refl _)
  have h2 : (Lib.splitB ⟨#[32]⟩ 0 (Lib.countB s ⟨#[32]⟩) s).map Value.string = (wds s.data.toList).map strV := by
    rw [← h1, List.map_map]
    refine List.map_congr_left fun x _ => ?_
    show Value.string x = strV x.data.toList
    unfold strV
    rw [ba_list]
  have h3 : Lib.countB s ⟨#[32]⟩ + 1 = (wds s.data.toList).length := by
    rw [← h1, List.length_map, Lib.splitB_all _ (by decide) 0 _ _ rfl]
  refine (Tryz.strings_Split s ⟨#[32]⟩ m w hs hm (by decide)).mono ?_
  rintro e w' ⟨rfl, rfl⟩
  rw [h2, h3]
  exact ⟨rfl, rfl⟩
theorem join_glue : ∀ l : List (List UInt8), Lib.join l [32] = glue l
  | [] => rfl
  | [a] => Lib.join_one a [32]
  | a :: b :: l => by
    have ih := join_glue (b :: l)
    rw [Lib.join_cons] at ih ⊢
    show a ++ Lib.joinTail [32] (b :: l) = a ++ 32 :: glue (b :: l)
    rw [← ih]
    simp [Lib.joinTail]
theorem join_any (g c : Nat) (l : List (List UInt8)) (w : World) (hr : StrRow w g l) (hg : g < w.heap.size) (hc : l.length ≤ c) (hl : l.length ≤ 100) (hz : (glue l).length ≤ 140737488355328) :
    Calls Tryz.prog 19 #[.slice (some ⟨g, 0, none⟩) l.length c, .string ⟨#[32]⟩] w fun e w' => e = .returned (.string ⟨(glue l).toArray⟩) ∧ Ext w w' := by
  have h1 : (l.map fun x => (⟨x.toArray⟩ : ByteArray)).map (·.data.toList) = l := by rw [List.map_map]; simp [Function.comp_def]
  have h := Tryz.strings_Join g 0 c (l.map fun x => (⟨x.toArray⟩ : ByteArray)) ⟨#[32]⟩ w (fun j x hx => by
    have hj : j < l.length := by have := (List.getElem?_eq_some_iff.1 hx).1; simpa using this
    have := hr j hj
    rw [Nat.zero_add, this]
    rw [List.getElem?_map, List.getElem?_eq_getElem hj] at hx
    cases hx
    rw [List.getD_eq_getElem?_getD, List.getElem?_eq_getElem hj]
    rfl) hg (by rw [List.length_map]; omega) (by rw [List.length_map]; exact hc) (by rw [h1]; show (Lib.join l [32]).length ≤ _; rw [join_glue]; exact hz)
  rw [List.length_map, h1] at h
  refine h.mono ?_
  rintro e w' ⟨rfl, hE⟩
  exact ⟨by show Ending.returned (.string ⟨(Lib.join l [32]).toArray⟩) = _; rw [join_glue], hE⟩
end Go.Proofs.YtompfgofaplffaaGreatDoor
