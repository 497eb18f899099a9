/- The contract of the reference's Odd, a part (printed by gen_if.py, split_if.py). -/
import Derived.Test.YtggkkjnfonbpkaaGreatDoorQIfp

set_option linter.unusedSimpArgs false
set_option linter.unusedVariables false
namespace Go.Proofs.YtggkkjnfonbpkaaGreatDoor
open Go.RowKit Hach

set_option maxRecDepth 100000 in
set_option maxHeartbeats 16000000 in
theorem Odd_yes (N : Nat) (ih : ∀ (d : Nat) (e : Ex) (A : Option Addr) (c : Nat) (q0 q1 q2 : Int) (w : World), e.size < N → ExB w w.heap.size d A e.l → e.size < 4194304 → e.ok → Calls Tryz.prog 10 #[.agg (e.cells A c).toArray, .agg #[.int .i64 q0, .int .i64 q1, .int .i64 q2]] w (OddR e w)) (d : Nat) (e : Ex) (A : Option Addr) (c : Nat) (q0 q1 q2 : Int) (w : World) (hdown : e.size < N + 1) (hX : ExB w w.heap.size d A e.l) (hsz : e.size < 4194304) (hok : e.ok) (hcase : 0 < e.l.length ∧ 0 < rmod q0 3) :
    Calls Tryz.prog 10 #[.agg (e.cells A c).toArray, .agg #[.int .i64 q0, .int .i64 q1, .int .i64 q2]] w (OddR e w) := by
    have IH := Lib.hid ih
    clear ih
    have HDN := Lib.hid hdown
    clear hdown
    obtain ⟨op, var, ty, nn, bb, s, l⟩ := e
    have HCC := Lib.hid hcase
    clear hcase
    obtain ⟨w3, hw3⟩ : ∃ w3, ((w.alloc (.cells #[.int .i64 op, .int .i64 var, .int .i64 ty, .int .i64 nn, .bool bb, .string ⟨s.toArray⟩, .slice A l.length c] 29)).alloc (.cells #[.int .i64 q0, .int .i64 q1, .int .i64 q2] 23)).alloc (.cells zero7 29) = w3 := ⟨_, rfl⟩
    have hsz3 : w3.heap.size = w.heap.size + 3 := by rw [← hw3]; simp
    have hE3 : Ext w w3 := by rw [← hw3]; exact ((Ext.alloc _ _).trans (Ext.alloc _ _)).trans (Ext.alloc _ _)
    have hbox : Box w3 w.heap.size (.mk op var ty nn bb s l) A c := by rw [← hw3]; exact ((Box.new w (.mk op var ty nn bb s l) A c _).ext (Ext.alloc _ _)).ext (Ext.alloc _ _)
    have hq : ∀ j v, (#[.int .i64 q0, .int .i64 q1, .int .i64 q2] : Array Value)[j]? = some v → w3.cell? ⟨w.heap.size + 1, j, none⟩ = some v := fun j v hj => by
      have h1 := alloc2_cell w (.cells #[.int .i64 op, .int .i64 var, .int .i64 ty, .int .i64 nn, .bool bb, .string ⟨s.toArray⟩, .slice A l.length c] 29) #[.int .i64 q0, .int .i64 q1, .int .i64 q2] 23 j v hj
      rw [← hw3]
      exact ((Ext.alloc _ (.cells zero7 29)).old (p := ⟨w.heap.size + 1, j, none⟩) (by simp)).trans h1
    have hz3 : Z7 w3 (w.heap.size + 2) := by
      rw [← hw3]
      have h1 := Z7.new ((w.alloc (.cells #[.int .i64 op, .int .i64 var, .int .i64 ty, .int .i64 nn, .bool bb, .string ⟨s.toArray⟩, .slice A l.length c] 29)).alloc (.cells #[.int .i64 q0, .int .i64 q1, .int .i64 q2] 23))
      rw [World.size_alloc, World.size_alloc] at h1
      exact h1
    have HQ := Lib.hid hq
    have hs3 : w.heap.size + 3 ≤ w3.heap.size ∧ w3.heap.size ≤ w.heap.size + 3 := by omega
    have CP := Lib.hid (Copy2_any d (.mk op var ty nn bb s l) A c w3 (hX.ext hE3) (by omega))
    have HOK := Lib.hid hok
    unfold zero7 at hw3
    have HW3 := Lib.hid hw3
    obtain ⟨b0, b1, b2, b3, b4, b5, b6⟩ := (show Box7 w3 w.heap.size op var ty nn bb s (.slice A l.length c) from ⟨hbox.c0, hbox.c1, hbox.c2, hbox.c3, hbox.c4, hbox.c5, hbox.c6⟩)
    have e7 : (Ex.mk op var ty nn bb s l).cells A c = [.int .i64 op, .int .i64 var, .int .i64 ty, .int .i64 nn, .bool bb, .string ⟨s.toArray⟩, .slice A l.length c] := rfl
    rw [e7] at CP ⊢
    clear hw3 hsz3 hq hok hbox e7 hX
    go_enter Tryz.func10, Tryz.ntmps10
    go_upto_region 1 with fail
    rw [HW3.out]
    go_wp2_with fail
    refine CP.out.mono ?_
    rintro r w4 ⟨A4, c4, us, rfl, hus, hO4, hK4, hE4⟩
    have e7 : (Ex.mk op var ty nn bb s l).cells A4 c4 = [.int .i64 op, .int .i64 var, .int .i64 ty, .int .i64 nn, .bool bb, .string ⟨s.toArray⟩, .slice A4 l.length c4] := rfl
    rw [e7]
    change us.map (·.x) = l at hus
    change OwnN w4 w3.heap.size (.slice A4 l.length c4) us at hO4
    change Kids w4 (SO w3.heap.size w4 (.slice A4 l.length c4)) d us at hK4
    have hE5 : Ext w4 (w4.alloc (.cells #[.int .i64 op, .int .i64 var, .int .i64 ty, .int .i64 nn, .bool bb, .string ⟨s.toArray⟩, .slice A4 l.length c4] 29)) := Ext.alloc _ _
    have hI5 : InBlk (w4.alloc (.cells #[.int .i64 op, .int .i64 var, .int .i64 ty, .int .i64 nn, .bool bb, .string ⟨s.toArray⟩, .slice A4 l.length c4] 29)) w4.heap.size (.mk op var ty nn bb s l) (.slice A4 l.length c4) := InBlk.new2 w4 (.mk op var ty nn bb s l) A4 c4
    have hO5 := hO4.ext hE5
    have hK5 : Kids (w4.alloc (.cells #[.int .i64 op, .int .i64 var, .int .i64 ty, .int .i64 nn, .bool bb, .string ⟨s.toArray⟩, .slice A4 l.length c4] 29)) (fun k => w3.heap.size ≤ k ∧ k < w4.heap.size ∧ (Value.slice A4 l.length c4).ownBlock ≠ some k) d us := hK4.keep fun k hk o => hE5.old (p := ⟨k, o, none⟩) hk.2.1
    have hs34 := hE4.sz
    have hL4 : ExL w4 (fun k => w3.heap.size ≤ k ∧ k < w4.heap.size) (d + 1) A4 l := by
      have := (OwnN.list (S := fun k => w3.heap.size ≤ k ∧ k < w4.heap.size) hO4 (hK4.more fun k hk => ⟨hk.1, hk.2.1⟩) (fun k h1 h2 => ⟨h1, h2⟩)).1
      rwa [hus] at this
    have hLO := hO4.lt
    have hS5 : OddS w (w4.alloc (.cells #[.int .i64 op, .int .i64 var, .int .i64 ty, .int .i64 nn, .bool bb, .string ⟨s.toArray⟩, .slice A4 l.length c4] 29)) w4.heap.size (.mk op var ty nn bb s l) A4 c4 (d + 1) (Ex.mk op var ty nn bb s l).size :=
      ⟨hI5, (hz3.ext hE4).ext hE5, (hE3.trans hE4).trans hE5, (hL4.keep fun k hk o => hE5.old (p := ⟨k, o, none⟩) hk.2).more fun k hk => ⟨by omega, by simp; omega, by omega⟩, Nat.le_refl _, HOK.out, by omega⟩
    have p0 := ((hE4.trans hE5).old (p := ⟨w.heap.size + 1, 0, none⟩) (by show w.heap.size + 1 < _; omega)).trans (HQ.out 0 _ rfl)
    have p1 := ((hE4.trans hE5).old (p := ⟨w.heap.size + 1, 1, none⟩) (by show w.heap.size + 1 < _; omega)).trans (HQ.out 1 _ rfl)
    have p2 := ((hE4.trans hE5).old (p := ⟨w.heap.size + 1, 2, none⟩) (by show w.heap.size + 1 < _; omega)).trans (HQ.out 2 _ rfl)
    obtain ⟨w5, hw5⟩ : ∃ w5, w4.alloc (.cells #[.int .i64 op, .int .i64 var, .int .i64 ty, .int .i64 nn, .bool bb, .string ⟨s.toArray⟩, .slice A4 l.length c4] 29) = w5 := ⟨_, rfl⟩
    have hs45 : w4.heap.size < w5.heap.size := by rw [← hw5]; simp
    rw [hw5] at hS5 hO5 hK5 p0 p1 p2
    have HW5 := Lib.hid hw5
    have HUS := Lib.hid hus
    have hcap : l.length ≤ c4 := own_cap hO5
    have hsl : l.length < 4194304 := by have h1 := Ex.len_le l; have h2 := (Ex.mk op var ty nn bb s l).size_eq; simp only [Ex.l] at h2; omega
    have HSZ := Lib.hid hsz
    clear hw5 hE5 hI5 hO4 hK4 hL4 hE4 hz3 hus e7 hsz b0 b1 b2 b3 b4 b5 b6 hE3
    obtain ⟨c0, c1, c2, c3, c4', c5, c6⟩ := hS5.inb.cells'
    obtain ⟨f0, f1, f2, f3, f4, f5, f6⟩ := hS5.inb.freeAll
    simp only [Ex.l] at c6
    obtain ⟨n, hn⟩ : ∃ n, l.length = n := ⟨_, rfl⟩
    rw [hn] at c6 hsl hcap
    have HN := Lib.hid hn
    rw [hn] at hO5 hK5 hLO
    have MD := Lib.hid (fun (x m : Int) (W : World) (h1 : 0 < m) (h2 : m < 4294967296) => mod_any x m W h1 h2)
    clear hn
    go_upto_region 2 with fail
    rw [HW5.out]
    have hgo : 0 < n ∧ 0 < rmod q0 3 := by have h := HCC.out; rw [show (Ex.mk op var ty nn bb s l).l.length = n from HN.out] at h; exact h
    · obtain ⟨hn0, hr0⟩ := hgo
      have t1 : decide (0 < rmod q0 3) = true := by simp; omega
      go_wp2_with fail
      refine (MD.out q0 3 _ (by decide) (by decide)).mono ?_
      rintro r w' ⟨rfl, hw'⟩
      have hw2 := hw'.symm
      clear hw'
      subst hw2
      go_wp2_with fail
      refine (MD.out _ (n : Int) _ (by omega) (by omega)).mono ?_
      rintro r w' ⟨rfl, hw'⟩
      have hw2 := hw'.symm
      clear hw'
      subst hw2
      obtain ⟨k, hk⟩ : ∃ k : Nat, rmod (wrap64 (q0.tdiv 3)) (n : Int) = (k : Int) := ⟨(rmod (wrap64 (q0.tdiv 3)) (n : Int)).toNat, by have := rmod_bd (wrap64 (q0.tdiv 3)) (m := (n : Int)) (by omega); omega⟩
      have hkn : k < n := by have := rmod_bd (wrap64 (q0.tdiv 3)) (m := (n : Int)) (by omega); omega
      rw [hk]
      have hkl : k < l.length := by rw [HN.out]; exact hkn
      clear hk t1 hr0
      have hul : us.length = n := by rw [← HN.out, ← HUS.out, List.length_map]
      obtain ⟨A4', c4'', e4, hform⟩ := hO5.form
      simp only [Value.slice.injEq] at e4
      obtain ⟨rfl, -, rfl⟩ := e4
      obtain ⟨g, rfl, hg1, hg2, hob, hcell⟩ := hform (by omega)
      obtain ⟨u, hu⟩ : ∃ u, us[k]? = some u := ⟨us[k], List.getElem?_eq_getElem (by omega)⟩
      have hux : u.x = l[k] := by
        have h1 : (us.map (·.x))[k]? = some u.x := by rw [List.getElem?_map, hu]; rfl
        rw [HUS.out, List.getElem?_eq_getElem hkl] at h1
        exact (Option.some.inj h1).symm
      have hOne : One w5 g (k * 7) u.x u.A u.c := ⟨hcell k u hu 0 _ rfl, hcell k u hu 1 _ rfl, hcell k u hu 2 _ rfl, hcell k u hu 3 _ rfl, hcell k u hu 4 _ rfl, hcell k u hu 5 _ rfl, hcell k u hu 6 _ rfl⟩
      have hgb := (hLO g hob).2
      have hKu := hK5 u (List.mem_of_getElem? hu)
      have husz : u.x.size < (Ex.mk op var ty nn bb s l).size := by
        rw [hux, Ex.size]
        have := Ex.size_mem (x := l[k]) (l := l) (List.getElem_mem _)
        omega
      have huok : u.x.ok := by
        have h1 := HOK.out
        rw [Ex.ok] at h1
        rw [hux]
        exact oks_at hkl h1.2.2.2.2.2
      have HX1 := Lib.hid husz
      have HX2 := Lib.hid huok
      have HX3 := Lib.hid hux
      have HX4 := Lib.hid hS5
      have HX5 := Lib.hid hO5
      have HX6 := Lib.hid hK5
      have hfz : ∀ j, w5.frozen? ⟨g, j, none⟩ = false := by
        have h1 := hO5
        rw [← hul] at h1
        exact World.ownsRow.frozenAt h1
      have HFZ := Lib.hid hfz
      have hw2 : w.heap.size + 1 < w5.heap.size := by omega
      have hg5 : g < w5.heap.size := hg2
      clear hS5 hO5 hK5 hform hcell husz huok hux hLO hob hu hfz hn0 hul
      go_wp2_with fail
      apply wp_region_seq (l := [_, _, _, _, _, _, _, _, _, _, _, _, _, _, _, _, _, _]) (t := [_]) [some 28, some 29, some 30, some 31, some 32, some 33, some 34, some 35, some 36, some 37, some 38, some 39, some 40, some 41, some 42, some 43, some 44, some 45, none] [[], [0], [], [], [3], [], [4, 5], [6], [], [8], [9], [], [11], [], [13], [10, 12, 14], [7, 15], [1, 2], [16, 17]] [18, 18, 18, 18, 18, 18, 18, 18, 18, 18, 18, 18, 18, 18, 18, 18, 18, 18] [eqv _, eqv _, eqv _, eqv _, eqv _, eqv _, eqv _, eqv _, eqv _, eqv _, eqv _, eqv _, eqv _, eqv _, eqv _, eqv _, (oddSP w5.heap.size (64 * u.x.size + 63)), eqv _] (by kernel_rfl) (by kernel_rfl) ⟨?o0, ?o1, ?o2, ?o3, ?o4, ?o5, ?o6, ?o7, ?o8, ?o9, ?o10, ?o11, ?o12, ?o13, ?o14, ?o15, ?o16, ?o17, trivial⟩ ?last
      case o0 => -- Op.fieldAddr 29 (Operand.tmp 5) 3
        intro xv W hE _
        simp only [putD, List.foldl_nil, List.getD_cons_zero]
        refine OpGoal.plain ?_
        go_wp2_with fail
        exact ⟨rfl, Ext.refl _, rfl⟩
      case o1 => -- Op.load 27 (Operand.tmp 28)
        intro xv W hE hp
        have r0 : xv 0 = _ := hp.1
        clear hp
        have hEw := (Ext.drew w5).trans hE
        have l6 := (hEw.old (p := ⟨w4.heap.size, 6, none⟩) hs45).trans c6
        obtain ⟨y0, y1, y2, y3, y4, y5, y6⟩ := One.ext hOne hg5 hEw
        have p0w := (hEw.old (p := ⟨w.heap.size + 1, 0, none⟩) hw2).trans p0
        have p1w := (hEw.old (p := ⟨w.heap.size + 1, 1, none⟩) hw2).trans p1
        have p2w := (hEw.old (p := ⟨w.heap.size + 1, 2, none⟩) hw2).trans p2
        simp only [putD, List.foldl_nil, List.foldl_cons, List.getD_cons_zero, List.getD_cons_succ, Act.put, List.setIfInBounds_toArray, List.set_cons_zero, List.set_cons_succ]
        refine OpGoal.plain ?_
        go_wp2_with fail
        exact ⟨rfl, Ext.refl _, rfl⟩
      case o2 => -- Op.move (Operand.tmp 6)
        intro xv W hE _
        simp only [putD, List.foldl_nil, List.getD_cons_zero, List.getD_cons_succ]
        refine OpGoal.plain ?_
        go_wp2_with fail
        exact ⟨rfl, Ext.refl _, rfl⟩
      case o3 => -- Op.fieldAddr 29 (Operand.tmp 5) 3
        intro xv W hE _
        simp only [putD, List.foldl_nil, List.getD_cons_zero, List.getD_cons_succ]
        refine OpGoal.plain ?_
        go_wp2_with fail
        exact ⟨rfl, Ext.refl _, rfl⟩
      case o4 => -- Op.load 27 (Operand.tmp 31)
        intro xv W hE hp
        have r3 : xv 3 = _ := hp.1
        clear hp
        have hEw := (Ext.drew w5).trans hE
        have l6 := (hEw.old (p := ⟨w4.heap.size, 6, none⟩) hs45).trans c6
        obtain ⟨y0, y1, y2, y3, y4, y5, y6⟩ := One.ext hOne hg5 hEw
        have p0w := (hEw.old (p := ⟨w.heap.size + 1, 0, none⟩) hw2).trans p0
        have p1w := (hEw.old (p := ⟨w.heap.size + 1, 1, none⟩) hw2).trans p1
        have p2w := (hEw.old (p := ⟨w.heap.size + 1, 2, none⟩) hw2).trans p2
        simp only [putD, List.foldl_nil, List.foldl_cons, List.getD_cons_zero, List.getD_cons_succ, Act.put, List.setIfInBounds_toArray, List.set_cons_zero, List.set_cons_succ]
        refine OpGoal.plain ?_
        go_wp2_with fail
        exact ⟨rfl, Ext.refl _, rfl⟩
      case o5 => -- Op.move (Operand.tmp 6)
        intro xv W hE _
        simp only [putD, List.foldl_nil, List.getD_cons_zero, List.getD_cons_succ]
        refine OpGoal.plain ?_
        go_wp2_with fail
        exact ⟨rfl, Ext.refl _, rfl⟩
      case o6 => -- Op.indexAddr 27 (Operand.tmp 32) (Operand.tmp 33)
        intro xv W hE hp
        have r4 : xv 4 = _ := hp.1
        have r5 : xv 5 = _ := hp.2.1
        clear hp
        simp only [putD, List.foldl_nil, List.foldl_cons, List.getD_cons_zero, List.getD_cons_succ, Act.put, List.setIfInBounds_toArray, List.set_cons_zero, List.set_cons_succ]
        refine OpGoal.plain ?_
        go_wp2_with fail
        exact ⟨rfl, Ext.refl _, rfl⟩
      case o7 => -- Op.load 29 (Operand.tmp 34)
        intro xv W hE hp
        have r6 : xv 6 = _ := hp.1
        clear hp
        have hEw := (Ext.drew w5).trans hE
        have l6 := (hEw.old (p := ⟨w4.heap.size, 6, none⟩) hs45).trans c6
        obtain ⟨y0, y1, y2, y3, y4, y5, y6⟩ := One.ext hOne hg5 hEw
        have p0w := (hEw.old (p := ⟨w.heap.size + 1, 0, none⟩) hw2).trans p0
        have p1w := (hEw.old (p := ⟨w.heap.size + 1, 1, none⟩) hw2).trans p1
        have p2w := (hEw.old (p := ⟨w.heap.size + 1, 2, none⟩) hw2).trans p2
        simp only [putD, List.foldl_nil, List.foldl_cons, List.getD_cons_zero, List.getD_cons_succ, Act.put, List.setIfInBounds_toArray, List.set_cons_zero, List.set_cons_succ]
        refine OpGoal.plain ?_
        go_wp2_with fail
        exact ⟨rfl, Ext.refl _, rfl⟩
      case o8 => -- Op.indexAddr 23 (Operand.tmp 3) (Operand.const (Value.int IntKind.i64 0))
        intro xv W hE _
        simp only [putD, List.foldl_nil, List.getD_cons_zero, List.getD_cons_succ]
        refine OpGoal.plain ?_
        go_wp2_with fail
        exact ⟨rfl, Ext.refl _, rfl⟩
      case o9 => -- Op.load 3 (Operand.tmp 36)
        intro xv W hE hp
        have r8 : xv 8 = _ := hp.1
        clear hp
        have hEw := (Ext.drew w5).trans hE
        have l6 := (hEw.old (p := ⟨w4.heap.size, 6, none⟩) hs45).trans c6
        obtain ⟨y0, y1, y2, y3, y4, y5, y6⟩ := One.ext hOne hg5 hEw
        have p0w := (hEw.old (p := ⟨w.heap.size + 1, 0, none⟩) hw2).trans p0
        have p1w := (hEw.old (p := ⟨w.heap.size + 1, 1, none⟩) hw2).trans p1
        have p2w := (hEw.old (p := ⟨w.heap.size + 1, 2, none⟩) hw2).trans p2
        simp only [putD, List.foldl_nil, List.foldl_cons, List.getD_cons_zero, List.getD_cons_succ, Act.put, List.setIfInBounds_toArray, List.set_cons_zero, List.set_cons_succ]
        refine OpGoal.plain ?_
        go_wp2_with fail
        exact ⟨rfl, Ext.refl _, rfl⟩
      case o10 => -- Op.binOp BinOp.quo 3 (Operand.tmp 37) (Operand.const (Value.int IntKind.i64 9)) 
        intro xv W hE hp
        have r9 : xv 9 = _ := hp.1
        clear hp
        simp only [putD, List.foldl_nil, List.foldl_cons, List.getD_cons_zero, List.getD_cons_succ, Act.put, List.setIfInBounds_toArray, List.set_cons_zero, List.set_cons_succ]
        refine OpGoal.plain ?_
        go_wp2_with fail
        exact ⟨rfl, Ext.refl _, rfl⟩
      case o11 => -- Op.indexAddr 23 (Operand.tmp 3) (Operand.const (Value.int IntKind.i64 1))
        intro xv W hE _
        simp only [putD, List.foldl_nil, List.getD_cons_zero, List.getD_cons_succ]
        refine OpGoal.plain ?_
        go_wp2_with fail
        exact ⟨rfl, Ext.refl _, rfl⟩
      case o12 => -- Op.load 3 (Operand.tmp 39)
        intro xv W hE hp
        have r11 : xv 11 = _ := hp.1
        clear hp
        have hEw := (Ext.drew w5).trans hE
        have l6 := (hEw.old (p := ⟨w4.heap.size, 6, none⟩) hs45).trans c6
        obtain ⟨y0, y1, y2, y3, y4, y5, y6⟩ := One.ext hOne hg5 hEw
        have p0w := (hEw.old (p := ⟨w.heap.size + 1, 0, none⟩) hw2).trans p0
        have p1w := (hEw.old (p := ⟨w.heap.size + 1, 1, none⟩) hw2).trans p1
        have p2w := (hEw.old (p := ⟨w.heap.size + 1, 2, none⟩) hw2).trans p2
        simp only [putD, List.foldl_nil, List.foldl_cons, List.getD_cons_zero, List.getD_cons_succ, Act.put, List.setIfInBounds_toArray, List.set_cons_zero, List.set_cons_succ]
        refine OpGoal.plain ?_
        go_wp2_with fail
        exact ⟨rfl, Ext.refl _, rfl⟩
      case o13 => -- Op.indexAddr 23 (Operand.tmp 3) (Operand.const (Value.int IntKind.i64 2))
        intro xv W hE _
        simp only [putD, List.foldl_nil, List.getD_cons_zero, List.getD_cons_succ]
        refine OpGoal.plain ?_
        go_wp2_with fail
        exact ⟨rfl, Ext.refl _, rfl⟩
      case o14 => -- Op.load 3 (Operand.tmp 41)
        intro xv W hE hp
        have r13 : xv 13 = _ := hp.1
        clear hp
        have hEw := (Ext.drew w5).trans hE
        have l6 := (hEw.old (p := ⟨w4.heap.size, 6, none⟩) hs45).trans c6
        obtain ⟨y0, y1, y2, y3, y4, y5, y6⟩ := One.ext hOne hg5 hEw
        have p0w := (hEw.old (p := ⟨w.heap.size + 1, 0, none⟩) hw2).trans p0
        have p1w := (hEw.old (p := ⟨w.heap.size + 1, 1, none⟩) hw2).trans p1
        have p2w := (hEw.old (p := ⟨w.heap.size + 1, 2, none⟩) hw2).trans p2
        simp only [putD, List.foldl_nil, List.foldl_cons, List.getD_cons_zero, List.getD_cons_succ, Act.put, List.setIfInBounds_toArray, List.set_cons_zero, List.set_cons_succ]
        refine OpGoal.plain ?_
        go_wp2_with fail
        exact ⟨rfl, Ext.refl _, rfl⟩
      case o15 => -- Op.build 23 #[(0, Operand.tmp 38), (1, Operand.tmp 40), (2, Operand.tmp 42)]
        intro xv W hE hp
        have r10 : xv 10 = _ := hp.1
        have r12 : xv 12 = _ := hp.2.1
        have r14 : xv 14 = _ := hp.2.2.1
        clear hp
        simp only [putD, List.foldl_nil, List.foldl_cons, List.getD_cons_zero, List.getD_cons_succ, Act.put, List.setIfInBounds_toArray, List.set_cons_zero, List.set_cons_succ]
        refine OpGoal.plain ?_
        go_wp2_with fail
        exact ⟨rfl, Ext.refl _, rfl⟩
      case o16 => -- Op.call { callee := Callee.value (Operand.func 10), args := #[Operand.tmp 35, Op
        intro xv W hE hp
        have r7 : xv 7 = _ := hp.1
        have r15 : xv 15 = _ := hp.2.1
        clear hp
        simp only [putD, List.foldl_nil, List.foldl_cons, List.getD_cons_zero, List.getD_cons_succ, Act.put, List.setIfInBounds_toArray, List.set_cons_zero, List.set_cons_succ]
        refine OpGoal.plain ?_
        go_wp2_with fail
        have hEw := (Ext.drew w5).trans hE
        refine (IH.out d u.x u.A u.c _ _ _ W (by have h1 := HX1.out; have h2 := HDN.out; omega) ((hKu.keep fun b hb o => hEw.old (p := ⟨b, o, none⟩) (show b < w5.heap.size by omega)).more fun b hb => by have := hEw.sz; omega) (by have h1 := HX1.out; have h2 := HSZ.out; omega) HX2.out).mono ?_
        rintro r w' ⟨x, Ax, cx, dx, rfl, hXx, hxs, hxo, hE7⟩
        go_wp2_with fail
        exact ⟨rfl, hE7, x, Ax, cx, dx, rfl, hXx.more fun b hb => ⟨Nat.le_trans hEw.sz hb.1, hb.2⟩, hxs, hxo⟩
      case o17 => -- Op.indexAddr 27 (Operand.tmp 29) (Operand.tmp 30)
        intro xv W hE hp
        have r1 : xv 1 = _ := hp.1
        have r2 : xv 2 = _ := hp.2.1
        clear hp
        simp only [putD, List.foldl_nil, List.foldl_cons, List.getD_cons_zero, List.getD_cons_succ, Act.put, List.setIfInBounds_toArray, List.set_cons_zero, List.set_cons_succ]
        refine OpGoal.plain ?_
        go_wp2_with fail
        exact ⟨rfl, Ext.refl _, rfl⟩
      case last =>
        intro xv W hE hp
        have r0 : xv 0 = _ := hp.1
        have r1 : xv 1 = _ := hp.2.1
        have r2 : xv 2 = _ := hp.2.2.1
        have r3 : xv 3 = _ := hp.2.2.2.1
        have r4 : xv 4 = _ := hp.2.2.2.2.1
        have r5 : xv 5 = _ := hp.2.2.2.2.2.1
        have r6 : xv 6 = _ := hp.2.2.2.2.2.2.1
        have r7 : xv 7 = _ := hp.2.2.2.2.2.2.2.1
        have r8 : xv 8 = _ := hp.2.2.2.2.2.2.2.2.1
        have r9 : xv 9 = _ := hp.2.2.2.2.2.2.2.2.2.1
        have r10 : xv 10 = _ := hp.2.2.2.2.2.2.2.2.2.2.1
        have r11 : xv 11 = _ := hp.2.2.2.2.2.2.2.2.2.2.2.1
        have r12 : xv 12 = _ := hp.2.2.2.2.2.2.2.2.2.2.2.2.1
        have r13 : xv 13 = _ := hp.2.2.2.2.2.2.2.2.2.2.2.2.2.1
        have r14 : xv 14 = _ := hp.2.2.2.2.2.2.2.2.2.2.2.2.2.2.1
        have r15 : xv 15 = _ := hp.2.2.2.2.2.2.2.2.2.2.2.2.2.2.2.1
        obtain ⟨x, Ax, cx, dx, r16, hXx, hxs, hxo⟩ := hp.2.2.2.2.2.2.2.2.2.2.2.2.2.2.2.2.1
        have r17 : xv 17 = _ := hp.2.2.2.2.2.2.2.2.2.2.2.2.2.2.2.2.2.1
        clear hp
        simp only [putD, List.foldl_nil, List.foldl_cons, List.getD_cons_zero, List.getD_cons_succ, Act.put, List.length_cons, List.length_nil, List.range_succ, List.range_zero, List.nil_append, List.cons_append, List.setIfInBounds_toArray, List.set_cons_zero, List.set_cons_succ]
        have hEw := (Ext.drew w5).trans hE
        have hsW := hEw.sz
        rw [r16]
        have hOW := HX5.out.ext hEw
        have hul : us.length = n := by rw [← HN.out, ← HUS.out, List.length_map]
        have hfW : ∀ j, W.frozen? ⟨g, j, none⟩ = false := by
          have h1 := hOW
          rw [← hul] at h1
          exact World.ownsRow.frozenAt h1
        have HGB := Lib.hid hgb
        have HTH := Lib.hid (One.there (One.ext hOne hg5 hEw) hfW)
        have HUL := Lib.hid hul
        have r17' : xv 17 = .pointer (some ⟨g, k * 7, none⟩) := r17
        rw [r17']
        have hxs' : x.size ≤ 64 * l[k].size + 63 := by rw [← HX3.out]; exact hxs
        have HE := Lib.hid hEw
        have HXX := Lib.hid hXx
        have HXS := Lib.hid hxs'
        have HXO := Lib.hid hxo
        clear r0 r1 r2 r3 r4 r5 r6 r7 r8 r9 r10 r11 r12 r13 r14 r15 r16 r17 r17' hE hEw c0 c1 c2 c3 c4' c5 c6 hOW hul hfW hXx hxs hxs' hxo p0 p1 p2 hOne hKu hgb
        have hS6 : OddS w (set7o W g (k * 7) x (.slice Ax x.l.length cx)) w4.heap.size (.mk op var ty nn bb s (l.set k x)) (some ⟨g, 0, none⟩) c4 (d + dx + 1) (64 * (Ex.mk op var ty nn bb s l).size + 63) := by
          have h5 := HX5.out
          have h6 := HX6.out
          rw [← HN.out] at h5 h6
          exact OddS.put HX4.out HE.out h5 h6 HUS.out (by omega) (by have := HGB.out; omega) hkl HXX.out HXS.out HXO.out HOK.out
        refine wpList_store_mid rfl 29 _ _ rfl g (k * 7) #[.int .i64 x.op, .int .i64 x.var, .int .i64 x.ty, .int .i64 x.n, .bool x.b, .string ⟨x.s.toArray⟩, .slice Ax x.l.length cx] rfl rfl HTH.out (by show (Tryz.prog.info? 29).map (·.size) = some 7; kernel_rfl) (by simp [Value.oneCell']) ?_
        rw [show W.setCells g (k * 7) (#[.int .i64 x.op, .int .i64 x.var, .int .i64 x.ty, .int .i64 x.n, .bool x.b, .string ⟨x.s.toArray⟩, .slice Ax x.l.length cx] : Array Value).toList = set7o W g (k * 7) x (.slice Ax x.l.length cx) from rfl]
        generalize set7o W g (k * 7) x (.slice Ax x.l.length cx) = w6 at hS6 ⊢
        obtain ⟨x0, x1, x2, x3, x4, x5, x6⟩ := hS6.inb.cells'
        have HLT := Lib.hid (show n = (l.set k x).length by rw [List.length_set, HN.out])
        simp only [Ex.l] at x6
        rw [← HLT.out] at x6
        obtain ⟨⟨z0, z1, z2, z3, z4, z5, z6⟩, v0, v1, v2, v3, v4, v5, v6⟩ := (show Z7F _ (w.heap.size + 1 + 1) from ⟨hS6.z.cells, hS6.z.free⟩)
        go_wp2_with fail
        exact odd_fin (e := .mk op var ty nn bb s l) rfl hS6 n HLT.out rfl
end Go.Proofs.YtggkkjnfonbpkaaGreatDoor
