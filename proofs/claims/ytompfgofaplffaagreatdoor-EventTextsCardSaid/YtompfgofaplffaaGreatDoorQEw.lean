/- fuse.can, of faces of one district of which one has no name. -/
import Derived.Test.YtompfgofaplffaaGreatDoorQEu
set_option linter.unusedSimpArgs false
set_option linter.unusedVariables false
namespace Go.Proofs.YtompfgofaplffaaGreatDoor
open Go.RowKit Hach

/-- Whether a face can be united with another, if both are of one district and one has no name. -/
def canF (es : List Ed) (x y : Int) : Int := if x = y then 1 else if bors es x y es.length = [] then 13 else 0
set_option maxRecDepth 100000 in
set_option maxHeartbeats 4000000 in
theorem fcan_any (m : Mp) (a : Ma) (b o r i j : Nat) (w : World) (hm : MpAt w a m) (hA : a.fa = some ⟨b, o, none⟩) (hap : Apart m.faces) (hM : MapI w r (knF b o m.faces m.faces.length)) (hi : i < m.faces.length) (hj : j < m.faces.length)
    (hlen : m.edges.length < 1000000000) (hd : (fa m.faces i).district = (fa m.faces j).district) (hd1 : 1 ≤ (fa m.faces j).district)
    (hnm : bors m.edges (fa m.faces i).id (fa m.faces j).id m.edges.length = [] ∨ (fa m.faces i).name = [] ∨ (fa m.faces j).name = []) :
    Calls Tryz.prog 82 #[.agg (a.cells m).toArray, .map (some r), .int .i64 (fa m.faces i).id, .int .i64 (fa m.faces j).id] w fun e w' => e = .returned (.int .i64 (canF m.edges (fa m.faces i).id (fa m.faces j).id)) ∧ Ext w w' := by
  have hE1 := Ext.alloc w (.cells (a.cells m).toArray 41)
  have hB := Go.heap_alloc_new w (.cells (a.cells m).toArray 41)
  have HG1 := Lib.hid (getF_kn (b := b) (o := o) hap hi (Nat.le_refl _))
  have HG2 := Lib.hid (getF_kn (b := b) (o := o) hap hj (Nat.le_refl _))
  have HBO := Lib.hid (fun W (h : Ext (w.alloc (.cells (a.cells m).toArray 41)) W) => borders_any m.edges a.ea a.ec a.el (fa m.faces i).id (fa m.faces j).id W (hm.keep (Ext.trans hE1 h)).edges hlen)
  have HR := Lib.hid (fun W (h : Ext (w.alloc (.cells (a.cells m).toArray 41)) W) => RowAt.keep hm.faces (Ext.trans hE1 h))
  rw [hA] at HR
  have HQ := Lib.hid (fun W (h : Ext (w.alloc (.cells (a.cells m).toArray 41)) W) => And.intro (Ma.box (blk_ext hB h)).1 (And.intro (hM.keep (Ext.trans hE1 h)) (And.intro (RowAt.cell (HR.out W h) (j := i) (i := 4) hi rfl) (And.intro (RowAt.cell (HR.out W h) (j := j) (i := 4) hj rfl)
    (And.intro (RowAt.cell (HR.out W h) (j := i) (i := 2) hi rfl) (RowAt.cell (HR.out W h) (j := j) (i := 2) hj rfl))))))
  have HE := Lib.hid hE1
  clear hm hB hM HR hA hap hlen hE1
  unfold canF
  generalize bors m.edges (fa m.faces i).id (fa m.faces j).id m.edges.length = bs at *
  generalize hl : knF b o m.faces m.faces.length = kl at *
  generalize (fa m.faces i).id = x at *
  generalize (fa m.faces j).id = y at *
  generalize (fa m.faces i).district = di at *
  generalize (fa m.faces j).district = dj at *
  generalize (fa m.faces i).name = ni at *
  generalize (fa m.faces j).name = nj at *
  subst hd
  generalize hrs : (if x = y then (1 : Int) else if bs = [] then 13 else 0) = rs
  have HRS := Lib.hid hrs
  clear hrs
  go_enter Tryz.func82, Tryz.ntmps82
  go_wp2_with fail
  generalize w.alloc (.cells (a.cells m).toArray 41) = V at *
  have hk := HQ.out
  have HK := Lib.hid (fun W (h : Ext V.drew W) => (HQ.out W (Ext.trans (Ext.drew V) h)).2.1)
  clear hk
  apply wp_region_seq (l := [_, _, _, _, _, _, _]) (t := [_]) [some 11, some 12, some 13, some 14, some 15, some 16, some 9, some 10] [[], [], [0, 1], [], [], [3, 4], [2], [5]] [7, 7, 7, 7, 7, 7, 7] [eqv _, eqv _, (eqv (.pointer (some ⟨b, o + i * 5, none⟩))), eqv _, eqv _, (eqv (.pointer (some ⟨b, o + j * 5, none⟩))), (eqv (.pointer (some ⟨b, o + i * 5, none⟩)))] (by kernel_rfl) (by kernel_rfl) ⟨?o0, ?o1, ?o2, ?o3, ?o4, ?o5, ?o6, trivial⟩ ?last
  case o0 => -- Op.move (Operand.tmp 1)
    intro xv W hE _
    simp only [putD, List.foldl_nil, List.getD_cons_zero]
    refine OpGoal.plain ?_
    go_wp2_with fail
    exact ⟨rfl, Ext.refl _, rfl⟩
  case o1 => -- Op.move (Operand.tmp 2)
    intro xv W hE _
    simp only [putD, List.foldl_nil, List.getD_cons_zero, List.getD_cons_succ]
    refine OpGoal.plain ?_
    go_wp2_with fail
    exact ⟨rfl, Ext.refl _, rfl⟩
  case o2 => -- Op.lookup 126 (Operand.tmp 11) (Operand.tmp 12) false
    intro xv W hE hp
    have r0 : xv 0 = _ := hp.1
    have r1 : xv 1 = _ := hp.2.1
    clear hp
    simp only [putD, List.foldl_nil, List.foldl_cons, List.getD_cons_zero, List.getD_cons_succ, Act.put, List.setIfInBounds_toArray, List.set_cons_zero, List.set_cons_succ]
    refine OpGoal.plain ?_
    simp only [r0, r1]
    refine lk_I rfl (.tmp 11) (.tmp 12) rfl r _ x rfl rfl (HK.out W hE) ?_
    rw [HG1.out]
    go_wp2_with fail
    exact ⟨rfl, Ext.refl _, rfl⟩
  case o3 => -- Op.move (Operand.tmp 1)
    intro xv W hE _
    simp only [putD, List.foldl_nil, List.getD_cons_zero, List.getD_cons_succ]
    refine OpGoal.plain ?_
    go_wp2_with fail
    exact ⟨rfl, Ext.refl _, rfl⟩
  case o4 => -- Op.move (Operand.tmp 3)
    intro xv W hE _
    simp only [putD, List.foldl_nil, List.getD_cons_zero, List.getD_cons_succ]
    refine OpGoal.plain ?_
    go_wp2_with fail
    exact ⟨rfl, Ext.refl _, rfl⟩
  case o5 => -- Op.lookup 126 (Operand.tmp 14) (Operand.tmp 15) false
    intro xv W hE hp
    have r3 : xv 3 = _ := hp.1
    have r4 : xv 4 = _ := hp.2.1
    clear hp
    simp only [putD, List.foldl_nil, List.foldl_cons, List.getD_cons_zero, List.getD_cons_succ, Act.put, List.setIfInBounds_toArray, List.set_cons_zero, List.set_cons_succ]
    refine OpGoal.plain ?_
    simp only [r3, r4]
    refine lk_I rfl (.tmp 14) (.tmp 15) rfl r _ y rfl rfl (HK.out W hE) ?_
    rw [HG2.out]
    go_wp2_with fail
    exact ⟨rfl, Ext.refl _, rfl⟩
  case o6 => -- Op.assign (Operand.tmp 13)
    intro xv W hE hp
    have r2 : xv 2 = _ := hp.1
    clear hp
    simp only [putD, List.foldl_nil, List.foldl_cons, List.getD_cons_zero, List.getD_cons_succ, Act.put, List.setIfInBounds_toArray, List.set_cons_zero, List.set_cons_succ]
    refine OpGoal.plain ?_
    go_wp2_with fail
    exact ⟨rfl, Ext.refl _, rfl⟩
  case last =>
    intro xv W hE hp
    have r0 : xv 0 = _ := hp.1
    have r1 : xv 1 = _ := hp.2.1
    have r2 : xv 2 = _ := hp.2.2.1
    have r3 : xv 3 = _ := hp.2.2.2.1
    have r4 : xv 4 = _ := hp.2.2.2.2.1
    have r5 : xv 5 = _ := hp.2.2.2.2.2.1
    have r6 : xv 6 = _ := hp.2.2.2.2.2.2.1
    clear hp
    simp only [putD, List.foldl_nil, List.foldl_cons, List.getD_cons_zero, List.getD_cons_succ, Act.put, List.length_cons, List.length_nil, List.range_succ, List.range_zero, List.nil_append, List.cons_append, List.setIfInBounds_toArray, List.set_cons_zero, List.set_cons_succ]
    simp only [r2, r5, r6]
    have hEW := Lib.hid (Ext.trans (Ext.drew V) hE)
    have HQW := Lib.hid (fun W' (h : Ext W.drew W') => HQ.out W' (Ext.trans hEW.out (Ext.trans (Ext.drew W) h)))
    clear r0 r1 r2 r3 r4 r5 r6 HK
    by_cases hxy : x = y
    · subst hxy
      go_wp2_with fail
      go_ret
      exact ⟨ret_i (show (1 : Int) = rs by rw [← HRS.out]; simp), Ext.trans HE.out hEW.out⟩
    · have txy : (x == y) = false := by simpa using hxy
      go_wp2_with fail
      apply wp_region_seq (l := [_, _, _, _, _, _, _, _, _, _, _, _, _, _, _]) (t := [_, _]) [some 29, some 30, some 31, some 32, some 33, some 34, some 35, some 36, some 37, some 38, some 39, some 40, some 41, some 42, some 43, some 44, some 28] [[], [0], [1], [2], [], [4], [5], [6], [3, 7], [8], [9], [9, 10], [9, 11], [9, 12], [9, 13], [9, 14], [15]] [1, 2, 3, 8, 5, 6, 7, 8, 9, 15, 11, 12, 13, 14, 15] [eqv _, eqv _, eqv _, eqv _, eqv _, eqv _, eqv _, eqv _, (eqv (.bool false)), (eqv (.bool false)), eqv _, eqv _, eqv _, eqv _, (eqv (.bool false))] (by kernel_rfl) (by kernel_rfl) ⟨?o0, ?o1, ?o2, ?o3, ?o4, ?o5, ?o6, ?o7, ?o8, ?o9, ?o10, ?o11, ?o12, ?o13, ?o14, trivial⟩ ?last
      case o0 => -- Op.move (Operand.tmp 9)
        intro xv W6 hE _
        simp only [putD, List.foldl_nil, List.getD_cons_zero]
        refine OpGoal.plain ?_
        go_wp2_with fail
        exact ⟨rfl, Ext.refl _, rfl⟩
      case o1 => -- Op.nilCheck (Operand.tmp 29)
        intro xv W6 hE hp
        have r0 : xv 0 = _ := hp.1
        clear hp
        simp only [putD, List.foldl_nil, List.foldl_cons, List.getD_cons_zero, List.getD_cons_succ, Act.put, List.setIfInBounds_toArray, List.set_cons_zero, List.set_cons_succ]
        refine OpGoal.plain ?_
        go_wp2_with fail
        exact ⟨rfl, Ext.refl _, rfl⟩
      case o2 => -- Op.fieldAddr 79 (Operand.tmp 30) 4
        intro xv W6 hE hp
        have r1 : xv 1 = _ := hp.1
        clear hp
        simp only [putD, List.foldl_nil, List.foldl_cons, List.getD_cons_zero, List.getD_cons_succ, Act.put, List.setIfInBounds_toArray, List.set_cons_zero, List.set_cons_succ]
        refine OpGoal.plain ?_
        go_wp2_with fail
        exact ⟨rfl, Ext.refl _, rfl⟩
      case o3 => -- Op.load 3 (Operand.tmp 31)
        intro xv W6 hE hp
        have r2 : xv 2 = _ := hp.1
        clear hp
        obtain ⟨_, _, c0, c1, _⟩ := HQW.out W6 hE
        simp only [putD, List.foldl_nil, List.foldl_cons, List.getD_cons_zero, List.getD_cons_succ, Act.put, List.setIfInBounds_toArray, List.set_cons_zero, List.set_cons_succ]
        refine OpGoal.plain ?_
        go_wp2_with fail
        exact ⟨rfl, Ext.refl _, rfl⟩
      case o4 => -- Op.move (Operand.tmp 10)
        intro xv W6 hE _
        simp only [putD, List.foldl_nil, List.getD_cons_zero, List.getD_cons_succ]
        refine OpGoal.plain ?_
        go_wp2_with fail
        exact ⟨rfl, Ext.refl _, rfl⟩
      case o5 => -- Op.nilCheck (Operand.tmp 33)
        intro xv W6 hE hp
        have r4 : xv 4 = _ := hp.1
        clear hp
        simp only [putD, List.foldl_nil, List.foldl_cons, List.getD_cons_zero, List.getD_cons_succ, Act.put, List.setIfInBounds_toArray, List.set_cons_zero, List.set_cons_succ]
        refine OpGoal.plain ?_
        go_wp2_with fail
        exact ⟨rfl, Ext.refl _, rfl⟩
      case o6 => -- Op.fieldAddr 79 (Operand.tmp 34) 4
        intro xv W6 hE hp
        have r5 : xv 5 = _ := hp.1
        clear hp
        simp only [putD, List.foldl_nil, List.foldl_cons, List.getD_cons_zero, List.getD_cons_succ, Act.put, List.setIfInBounds_toArray, List.set_cons_zero, List.set_cons_succ]
        refine OpGoal.plain ?_
        go_wp2_with fail
        exact ⟨rfl, Ext.refl _, rfl⟩
      case o7 => -- Op.load 3 (Operand.tmp 35)
        intro xv W6 hE hp
        have r6 : xv 6 = _ := hp.1
        clear hp
        obtain ⟨_, _, c0, c1, _⟩ := HQW.out W6 hE
        simp only [putD, List.foldl_nil, List.foldl_cons, List.getD_cons_zero, List.getD_cons_succ, Act.put, List.setIfInBounds_toArray, List.set_cons_zero, List.set_cons_succ]
        refine OpGoal.plain ?_
        go_wp2_with fail
        exact ⟨rfl, Ext.refl _, rfl⟩
      case o8 => -- Op.binOp BinOp.neq 3 (Operand.tmp 32) (Operand.tmp 36) 3
        intro xv W6 hE hp
        have r3 : xv 3 = _ := hp.1
        have r7 : xv 7 = _ := hp.2.1
        clear hp
        simp only [putD, List.foldl_nil, List.foldl_cons, List.getD_cons_zero, List.getD_cons_succ, Act.put, List.setIfInBounds_toArray, List.set_cons_zero, List.set_cons_succ]
        refine OpGoal.plain ?_
        go_wp2_with fail
        exact ⟨rfl, Ext.refl _, rfl⟩
      case o9 => -- Op.move (Operand.tmp 37)
        intro xv W6 hE hp
        have r8 : xv 8 = _ := hp.1
        clear hp
        simp only [putD, List.foldl_nil, List.foldl_cons, List.getD_cons_zero, List.getD_cons_succ, Act.put, List.setIfInBounds_toArray, List.set_cons_zero, List.set_cons_succ]
        refine OpGoal.plain ?_
        go_wp2_with fail
        exact ⟨rfl, Ext.refl _, rfl⟩
      case o10 => -- Op.move (Operand.tmp 9)  GUARD (9, 'false')
        intro xv W6 hE hp
        have r9 : xv 9 = _ := hp.1
        clear hp
        simp only [putD, List.foldl_nil, List.foldl_cons, List.getD_cons_zero, List.getD_cons_succ, Act.put, List.setIfInBounds_toArray, List.set_cons_zero, List.set_cons_succ]
        refine OpGoal.yes (by simp [yieldD, r9]) ?_
        go_wp2_with fail
        exact ⟨rfl, Ext.refl _, rfl⟩
      case o11 => -- Op.nilCheck (Operand.tmp 39)  GUARD (9, 'false')
        intro xv W6 hE hp
        have r9 : xv 9 = _ := hp.1
        have r10 : xv 10 = _ := hp.2.1
        clear hp
        simp only [putD, List.foldl_nil, List.foldl_cons, List.getD_cons_zero, List.getD_cons_succ, Act.put, List.setIfInBounds_toArray, List.set_cons_zero, List.set_cons_succ]
        refine OpGoal.yes (by simp [yieldD, r9]) ?_
        go_wp2_with fail
        exact ⟨rfl, Ext.refl _, rfl⟩
      case o12 => -- Op.fieldAddr 79 (Operand.tmp 40) 4  GUARD (9, 'false')
        intro xv W6 hE hp
        have r9 : xv 9 = _ := hp.1
        have r11 : xv 11 = _ := hp.2.1
        clear hp
        simp only [putD, List.foldl_nil, List.foldl_cons, List.getD_cons_zero, List.getD_cons_succ, Act.put, List.setIfInBounds_toArray, List.set_cons_zero, List.set_cons_succ]
        refine OpGoal.yes (by simp [yieldD, r9]) ?_
        go_wp2_with fail
        exact ⟨rfl, Ext.refl _, rfl⟩
      case o13 => -- Op.load 3 (Operand.tmp 41)  GUARD (9, 'false')
        intro xv W6 hE hp
        have r9 : xv 9 = _ := hp.1
        have r12 : xv 12 = _ := hp.2.1
        clear hp
        obtain ⟨_, _, c0, c1, _⟩ := HQW.out W6 hE
        simp only [putD, List.foldl_nil, List.foldl_cons, List.getD_cons_zero, List.getD_cons_succ, Act.put, List.setIfInBounds_toArray, List.set_cons_zero, List.set_cons_succ]
        refine OpGoal.yes (by simp [yieldD, r9]) ?_
        go_wp2_with fail
        exact ⟨rfl, Ext.refl _, rfl⟩
      case o14 => -- Op.binOp BinOp.lss 3 (Operand.tmp 42) (Operand.const (Value.int IntKind.i64 1)) 
        intro xv W6 hE hp
        have r9 : xv 9 = _ := hp.1
        have r13 : xv 13 = _ := hp.2.1
        clear hp
        simp only [putD, List.foldl_nil, List.foldl_cons, List.getD_cons_zero, List.getD_cons_succ, Act.put, List.setIfInBounds_toArray, List.set_cons_zero, List.set_cons_succ]
        refine OpGoal.yes (by simp [yieldD, r9]) ?_
        go_wp2_with fail
        exact ⟨rfl, Ext.refl _, congrArg Value.bool (decide_eq_false (by omega))⟩
      case last =>
        intro xv W6 hE hp
        have r0 : xv 0 = _ := hp.1
        have r1 : xv 1 = _ := hp.2.1
        have r2 : xv 2 = _ := hp.2.2.1
        have r3 : xv 3 = _ := hp.2.2.2.1
        have r4 : xv 4 = _ := hp.2.2.2.2.1
        have r5 : xv 5 = _ := hp.2.2.2.2.2.1
        have r6 : xv 6 = _ := hp.2.2.2.2.2.2.1
        have r7 : xv 7 = _ := hp.2.2.2.2.2.2.2.1
        have r8 : xv 8 = _ := hp.2.2.2.2.2.2.2.2.1
        have r9 : xv 9 = _ := hp.2.2.2.2.2.2.2.2.2.1
        have r10 : xv 10 = _ := hp.2.2.2.2.2.2.2.2.2.2.1
        have r11 : xv 11 = _ := hp.2.2.2.2.2.2.2.2.2.2.2.1
        have r12 : xv 12 = _ := hp.2.2.2.2.2.2.2.2.2.2.2.2.1
        have r13 : xv 13 = _ := hp.2.2.2.2.2.2.2.2.2.2.2.2.2.1
        have r14 : xv 14 = _ := hp.2.2.2.2.2.2.2.2.2.2.2.2.2.2.1
        clear hp
        simp only [putD, List.foldl_nil, List.foldl_cons, List.getD_cons_zero, List.getD_cons_succ, Act.put, List.length_cons, List.length_nil, List.range_succ, List.range_zero, List.nil_append, List.cons_append, List.setIfInBounds_toArray, List.set_cons_zero, List.set_cons_succ]
        simp only [r9, r14]
        have hE6 := Lib.hid (Ext.trans hEW.out (Ext.trans (Ext.drew W) hE))
        have c2 := (HQ.out W6 hE6.out).1
        clear r0 r1 r2 r3 r4 r5 r6 r7 r8 r9 r10 r11 r12 r13 r14
        go_wp2_with fail
        refine (HBO.out W6 hE6.out).mono ?_
        rintro e w7 ⟨A', n, c', rfl, hn, hE7⟩
        by_cases hbs : bs = []
        · have hn0 : n = 0 := hn.2 hbs
          have tn : (n : Int) = 0 := by omega
          clear hn0 hn
          go_wp2_with fail
          go_ret
          exact ⟨ret_i (show (13 : Int) = rs by rw [← HRS.out, if_neg hxy, if_pos hbs]), Ext.trans HE.out (Ext.trans hE6.out hE7)⟩
        · have hn0 : ¬ n = 0 := fun e => hbs (hn.1 e)
          have tn : ¬ (n : Int) = 0 := by omega
          go_wp2_with fail
          have hE7e := Lib.hid (Ext.trans hE6.out hE7)
          have HQ8 := Lib.hid (fun W' (h : Ext w7.drew W') => HQ.out W' (Ext.trans hE7e.out (Ext.trans (Ext.drew w7) h)))
          clear c2 hE7
          by_cases hni : ni = []
          · have hs : (!ni.isEmpty) = false := by rw [hni]; rfl
            have HSN := Lib.hid hs
            clear hs hni hnm
            apply wp_region_seq (l := [_, _, _, _, _, _, _, _, _, _, _, _, _, _, _, _, _, _, _, _, _, _, _]) (t := [_]) [some 54, some 55, some 56, some 57, some 58, some 59, some 60, some 61, some 62, some 63, some 64, some 65, some 66, some 67, some 68, some 69, some 70, some 71, some 72, some 73, some 74, some 75, some 76, some 53] [[], [0], [1], [2], [3], [4], [5], [5, 6], [5, 7], [5, 8], [5, 9], [5, 10], [11], [12], [12, 13], [12, 14], [12, 15], [12], [12, 17], [12, 18], [12, 19], [12, 16, 20], [12, 21], [22]] [1, 2, 3, 4, 5, 12, 7, 8, 9, 10, 11, 12, 23, 14, 15, 16, 21, 18, 19, 20, 21, 22, 23] [eqv _, eqv _, eqv _, eqv _, (eqv (.bool false)), (eqv (.bool false)), eqv _, eqv _, eqv _, eqv _, eqv _, (eqv (.bool false)), (eqv (.bool false)), eqv _, eqv _, eqv _, eqv _, eqv _, eqv _, eqv _, eqv _, eqv _, (eqv (.bool false))] (by kernel_rfl) (by kernel_rfl) ⟨?o0, ?o1, ?o2, ?o3, ?o4, ?o5, ?o6, ?o7, ?o8, ?o9, ?o10, ?o11, ?o12, ?o13, ?o14, ?o15, ?o16, ?o17, ?o18, ?o19, ?o20, ?o21, ?o22, trivial⟩ ?last
            case o0 => -- Op.move (Operand.tmp 9)
              intro xv W8 hE _
              simp only [putD, List.foldl_nil, List.getD_cons_zero]
              refine OpGoal.plain ?_
              go_wp2_with fail
              exact ⟨rfl, Ext.refl _, rfl⟩
            case o1 => -- Op.nilCheck (Operand.tmp 54)
              intro xv W8 hE hp
              have r0 : xv 0 = _ := hp.1
              clear hp
              simp only [putD, List.foldl_nil, List.foldl_cons, List.getD_cons_zero, List.getD_cons_succ, Act.put, List.setIfInBounds_toArray, List.set_cons_zero, List.set_cons_succ]
              refine OpGoal.plain ?_
              go_wp2_with fail
              exact ⟨rfl, Ext.refl _, rfl⟩
            case o2 => -- Op.fieldAddr 79 (Operand.tmp 55) 2
              intro xv W8 hE hp
              have r1 : xv 1 = _ := hp.1
              clear hp
              simp only [putD, List.foldl_nil, List.foldl_cons, List.getD_cons_zero, List.getD_cons_succ, Act.put, List.setIfInBounds_toArray, List.set_cons_zero, List.set_cons_succ]
              refine OpGoal.plain ?_
              go_wp2_with fail
              exact ⟨rfl, Ext.refl _, rfl⟩
            case o3 => -- Op.load 9 (Operand.tmp 56)
              intro xv W8 hE hp
              have r2 : xv 2 = _ := hp.1
              clear hp
              obtain ⟨_, _, _, _, c0, c1⟩ := HQ8.out W8 hE
              simp only [strV] at c0 c1
              simp only [putD, List.foldl_nil, List.foldl_cons, List.getD_cons_zero, List.getD_cons_succ, Act.put, List.setIfInBounds_toArray, List.set_cons_zero, List.set_cons_succ]
              refine OpGoal.plain ?_
              go_wp2_with fail
              exact ⟨rfl, Ext.refl _, rfl⟩
            case o4 => -- Op.binOp BinOp.neq 9 (Operand.tmp 57) (Operand.const (Value.string { data := #[]
              intro xv W8 hE hp
              have r3 : xv 3 = _ := hp.1
              clear hp
              simp only [putD, List.foldl_nil, List.foldl_cons, List.getD_cons_zero, List.getD_cons_succ, Act.put, List.setIfInBounds_toArray, List.set_cons_zero, List.set_cons_succ]
              refine OpGoal.plain ?_
              go_wp2_with fail
              exact ⟨rfl, Ext.refl _, congrArg Value.bool HSN.out⟩
            case o5 => -- Op.move (Operand.tmp 58)
              intro xv W8 hE hp
              have r4 : xv 4 = _ := hp.1
              clear hp
              simp only [putD, List.foldl_nil, List.foldl_cons, List.getD_cons_zero, List.getD_cons_succ, Act.put, List.setIfInBounds_toArray, List.set_cons_zero, List.set_cons_succ]
              refine OpGoal.plain ?_
              go_wp2_with fail
              exact ⟨rfl, Ext.refl _, rfl⟩
            case o6 => -- Op.move (Operand.tmp 10)  GUARD (5, 'true')
              intro xv W8 hE hp
              have r5 : xv 5 = _ := hp.1
              clear hp
              simp only [putD, List.foldl_nil, List.foldl_cons, List.getD_cons_zero, List.getD_cons_succ, Act.put, List.setIfInBounds_toArray, List.set_cons_zero, List.set_cons_succ]
              exact OpGoal.no (by simp [yieldD, r5]) ⟨Ext.refl _, rfl⟩
            case o7 => -- Op.nilCheck (Operand.tmp 60)  GUARD (5, 'true')
              intro xv W8 hE hp
              have r5 : xv 5 = _ := hp.1
              have r6 : xv 6 = _ := hp.2.1
              clear hp
              simp only [putD, List.foldl_nil, List.foldl_cons, List.getD_cons_zero, List.getD_cons_succ, Act.put, List.setIfInBounds_toArray, List.set_cons_zero, List.set_cons_succ]
              exact OpGoal.no (by simp [yieldD, r5]) ⟨Ext.refl _, rfl⟩
            case o8 => -- Op.fieldAddr 79 (Operand.tmp 61) 2  GUARD (5, 'true')
              intro xv W8 hE hp
              have r5 : xv 5 = _ := hp.1
              have r7 : xv 7 = _ := hp.2.1
              clear hp
              simp only [putD, List.foldl_nil, List.foldl_cons, List.getD_cons_zero, List.getD_cons_succ, Act.put, List.setIfInBounds_toArray, List.set_cons_zero, List.set_cons_succ]
              exact OpGoal.no (by simp [yieldD, r5]) ⟨Ext.refl _, rfl⟩
            case o9 => -- Op.load 9 (Operand.tmp 62)  GUARD (5, 'true')
              intro xv W8 hE hp
              have r5 : xv 5 = _ := hp.1
              have r8 : xv 8 = _ := hp.2.1
              clear hp
              obtain ⟨_, _, _, _, c0, c1⟩ := HQ8.out W8 hE
              simp only [strV] at c0 c1
              simp only [putD, List.foldl_nil, List.foldl_cons, List.getD_cons_zero, List.getD_cons_succ, Act.put, List.setIfInBounds_toArray, List.set_cons_zero, List.set_cons_succ]
              exact OpGoal.no (by simp [yieldD, r5]) ⟨Ext.refl _, rfl⟩
            case o10 => -- Op.binOp BinOp.neq 9 (Operand.tmp 63) (Operand.const (Value.string { data := #[]
              intro xv W8 hE hp
              have r5 : xv 5 = _ := hp.1
              have r9 : xv 9 = _ := hp.2.1
              clear hp
              simp only [putD, List.foldl_nil, List.foldl_cons, List.getD_cons_zero, List.getD_cons_succ, Act.put, List.setIfInBounds_toArray, List.set_cons_zero, List.set_cons_succ]
              exact OpGoal.no (by simp [yieldD, r5]) ⟨Ext.refl _, rfl⟩
            case o11 => -- Op.pick (Operand.tmp 59) (Operand.tmp 64) (Operand.const (Value.bool false))
              intro xv W8 hE hp
              have r5 : xv 5 = _ := hp.1
              have r10 : xv 10 = _ := hp.2.1
              clear hp
              simp only [putD, List.foldl_nil, List.foldl_cons, List.getD_cons_zero, List.getD_cons_succ, Act.put, List.setIfInBounds_toArray, List.set_cons_zero, List.set_cons_succ]
              refine OpGoal.plain ?_
              go_wp2_with fail
              exact ⟨rfl, Ext.refl _, rfl⟩
            case o12 => -- Op.move (Operand.tmp 65)
              intro xv W8 hE hp
              have r11 : xv 11 = _ := hp.1
              clear hp
              simp only [putD, List.foldl_nil, List.foldl_cons, List.getD_cons_zero, List.getD_cons_succ, Act.put, List.setIfInBounds_toArray, List.set_cons_zero, List.set_cons_succ]
              refine OpGoal.plain ?_
              go_wp2_with fail
              exact ⟨rfl, Ext.refl _, rfl⟩
            case o13 => -- Op.move (Operand.tmp 9)  GUARD (12, 'true')
              intro xv W8 hE hp
              have r12 : xv 12 = _ := hp.1
              clear hp
              simp only [putD, List.foldl_nil, List.foldl_cons, List.getD_cons_zero, List.getD_cons_succ, Act.put, List.setIfInBounds_toArray, List.set_cons_zero, List.set_cons_succ]
              exact OpGoal.no (by simp [yieldD, r12]) ⟨Ext.refl _, rfl⟩
            case o14 => -- Op.nilCheck (Operand.tmp 67)  GUARD (12, 'true')
              intro xv W8 hE hp
              have r12 : xv 12 = _ := hp.1
              have r13 : xv 13 = _ := hp.2.1
              clear hp
              simp only [putD, List.foldl_nil, List.foldl_cons, List.getD_cons_zero, List.getD_cons_succ, Act.put, List.setIfInBounds_toArray, List.set_cons_zero, List.set_cons_succ]
              exact OpGoal.no (by simp [yieldD, r12]) ⟨Ext.refl _, rfl⟩
            case o15 => -- Op.fieldAddr 79 (Operand.tmp 68) 2  GUARD (12, 'true')
              intro xv W8 hE hp
              have r12 : xv 12 = _ := hp.1
              have r14 : xv 14 = _ := hp.2.1
              clear hp
              simp only [putD, List.foldl_nil, List.foldl_cons, List.getD_cons_zero, List.getD_cons_succ, Act.put, List.setIfInBounds_toArray, List.set_cons_zero, List.set_cons_succ]
              exact OpGoal.no (by simp [yieldD, r12]) ⟨Ext.refl _, rfl⟩
            case o16 => -- Op.load 9 (Operand.tmp 69)  GUARD (12, 'true')
              intro xv W8 hE hp
              have r12 : xv 12 = _ := hp.1
              have r15 : xv 15 = _ := hp.2.1
              clear hp
              obtain ⟨_, _, _, _, c0, c1⟩ := HQ8.out W8 hE
              simp only [strV] at c0 c1
              simp only [putD, List.foldl_nil, List.foldl_cons, List.getD_cons_zero, List.getD_cons_succ, Act.put, List.setIfInBounds_toArray, List.set_cons_zero, List.set_cons_succ]
              exact OpGoal.no (by simp [yieldD, r12]) ⟨Ext.refl _, rfl⟩
            case o17 => -- Op.move (Operand.tmp 10)  GUARD (12, 'true')
              intro xv W8 hE hp
              have r12 : xv 12 = _ := hp.1
              clear hp
              simp only [putD, List.foldl_nil, List.foldl_cons, List.getD_cons_zero, List.getD_cons_succ, Act.put, List.setIfInBounds_toArray, List.set_cons_zero, List.set_cons_succ]
              exact OpGoal.no (by simp [yieldD, r12]) ⟨Ext.refl _, rfl⟩
            case o18 => -- Op.nilCheck (Operand.tmp 71)  GUARD (12, 'true')
              intro xv W8 hE hp
              have r12 : xv 12 = _ := hp.1
              have r17 : xv 17 = _ := hp.2.1
              clear hp
              simp only [putD, List.foldl_nil, List.foldl_cons, List.getD_cons_zero, List.getD_cons_succ, Act.put, List.setIfInBounds_toArray, List.set_cons_zero, List.set_cons_succ]
              exact OpGoal.no (by simp [yieldD, r12]) ⟨Ext.refl _, rfl⟩
            case o19 => -- Op.fieldAddr 79 (Operand.tmp 72) 2  GUARD (12, 'true')
              intro xv W8 hE hp
              have r12 : xv 12 = _ := hp.1
              have r18 : xv 18 = _ := hp.2.1
              clear hp
              simp only [putD, List.foldl_nil, List.foldl_cons, List.getD_cons_zero, List.getD_cons_succ, Act.put, List.setIfInBounds_toArray, List.set_cons_zero, List.set_cons_succ]
              exact OpGoal.no (by simp [yieldD, r12]) ⟨Ext.refl _, rfl⟩
            case o20 => -- Op.load 9 (Operand.tmp 73)  GUARD (12, 'true')
              intro xv W8 hE hp
              have r12 : xv 12 = _ := hp.1
              have r19 : xv 19 = _ := hp.2.1
              clear hp
              obtain ⟨_, _, _, _, c0, c1⟩ := HQ8.out W8 hE
              simp only [strV] at c0 c1
              simp only [putD, List.foldl_nil, List.foldl_cons, List.getD_cons_zero, List.getD_cons_succ, Act.put, List.setIfInBounds_toArray, List.set_cons_zero, List.set_cons_succ]
              exact OpGoal.no (by simp [yieldD, r12]) ⟨Ext.refl _, rfl⟩
            case o21 => -- Op.binOp BinOp.neq 9 (Operand.tmp 70) (Operand.tmp 74) 9  GUARD (12, 'true')
              intro xv W8 hE hp
              have r12 : xv 12 = _ := hp.1
              have r16 : xv 16 = _ := hp.2.1
              have r20 : xv 20 = _ := hp.2.2.1
              clear hp
              simp only [putD, List.foldl_nil, List.foldl_cons, List.getD_cons_zero, List.getD_cons_succ, Act.put, List.setIfInBounds_toArray, List.set_cons_zero, List.set_cons_succ]
              exact OpGoal.no (by simp [yieldD, r12]) ⟨Ext.refl _, rfl⟩
            case o22 => -- Op.pick (Operand.tmp 66) (Operand.tmp 75) (Operand.const (Value.bool false))
              intro xv W8 hE hp
              have r12 : xv 12 = _ := hp.1
              have r21 : xv 21 = _ := hp.2.1
              clear hp
              simp only [putD, List.foldl_nil, List.foldl_cons, List.getD_cons_zero, List.getD_cons_succ, Act.put, List.setIfInBounds_toArray, List.set_cons_zero, List.set_cons_succ]
              refine OpGoal.plain ?_
              go_wp2_with fail
              exact ⟨rfl, Ext.refl _, rfl⟩
            case last =>
              intro xv W8 hE hp
              have r0 : xv 0 = _ := hp.1
              have r1 : xv 1 = _ := hp.2.1
              have r2 : xv 2 = _ := hp.2.2.1
              have r3 : xv 3 = _ := hp.2.2.2.1
              have r4 : xv 4 = _ := hp.2.2.2.2.1
              have r5 : xv 5 = _ := hp.2.2.2.2.2.1
              have r6 : xv 6 = _ := hp.2.2.2.2.2.2.1
              have r7 : xv 7 = _ := hp.2.2.2.2.2.2.2.1
              have r8 : xv 8 = _ := hp.2.2.2.2.2.2.2.2.1
              have r9 : xv 9 = _ := hp.2.2.2.2.2.2.2.2.2.1
              have r10 : xv 10 = _ := hp.2.2.2.2.2.2.2.2.2.2.1
              have r11 : xv 11 = _ := hp.2.2.2.2.2.2.2.2.2.2.2.1
              have r12 : xv 12 = _ := hp.2.2.2.2.2.2.2.2.2.2.2.2.1
              have r13 : xv 13 = _ := hp.2.2.2.2.2.2.2.2.2.2.2.2.2.1
              have r14 : xv 14 = _ := hp.2.2.2.2.2.2.2.2.2.2.2.2.2.2.1
              have r15 : xv 15 = _ := hp.2.2.2.2.2.2.2.2.2.2.2.2.2.2.2.1
              have r16 : xv 16 = _ := hp.2.2.2.2.2.2.2.2.2.2.2.2.2.2.2.2.1
              have r17 : xv 17 = _ := hp.2.2.2.2.2.2.2.2.2.2.2.2.2.2.2.2.2.1
              have r18 : xv 18 = _ := hp.2.2.2.2.2.2.2.2.2.2.2.2.2.2.2.2.2.2.1
              have r19 : xv 19 = _ := hp.2.2.2.2.2.2.2.2.2.2.2.2.2.2.2.2.2.2.2.1
              have r20 : xv 20 = _ := hp.2.2.2.2.2.2.2.2.2.2.2.2.2.2.2.2.2.2.2.2.1
              have r21 : xv 21 = _ := hp.2.2.2.2.2.2.2.2.2.2.2.2.2.2.2.2.2.2.2.2.2.1
              have r22 : xv 22 = _ := hp.2.2.2.2.2.2.2.2.2.2.2.2.2.2.2.2.2.2.2.2.2.2.1
              clear hp
              simp only [putD, List.foldl_nil, List.foldl_cons, List.getD_cons_zero, List.getD_cons_succ, Act.put, List.length_cons, List.length_nil, List.range_succ, List.range_zero, List.nil_append, List.cons_append, List.setIfInBounds_toArray, List.set_cons_zero, List.set_cons_succ]
              simp only [r22]
              go_wp2_with fail
              go_ret
              exact ⟨ret_i (show (0 : Int) = rs by rw [← HRS.out, if_neg hxy, if_neg hbs]), Ext.trans HE.out (Ext.trans hE7e.out (Ext.trans (Ext.drew w7) hE))⟩
          · have hnj : nj = [] := (hnm.resolve_left hbs).resolve_left hni
            have HSN : Hid ((!ni.isEmpty) = true) := Lib.hid (by cases ni with | nil => exact absurd rfl hni | cons c l => rfl)
            have HSJ : Hid ((!nj.isEmpty) = false) := Lib.hid (by rw [hnj]; rfl)
            clear hnj hni hnm
            apply wp_region_seq (l := [_, _, _, _, _, _, _, _, _, _, _, _, _, _, _, _, _, _, _, _, _, _, _]) (t := [_]) [some 54, some 55, some 56, some 57, some 58, some 59, some 60, some 61, some 62, some 63, some 64, some 65, some 66, some 67, some 68, some 69, some 70, some 71, some 72, some 73, some 74, some 75, some 76, some 53] [[], [0], [1], [2], [3], [4], [5], [5, 6], [5, 7], [5, 8], [5, 9], [5, 10], [11], [12], [12, 13], [12, 14], [12, 15], [12], [12, 17], [12, 18], [12, 19], [12, 16, 20], [12, 21], [22]] [1, 2, 3, 4, 5, 12, 7, 8, 9, 10, 11, 12, 23, 14, 15, 16, 21, 18, 19, 20, 21, 22, 23] [eqv _, eqv _, eqv _, eqv _, (eqv (.bool true)), (eqv (.bool true)), eqv _, eqv _, eqv _, eqv _, (eqv (.bool false)), (eqv (.bool false)), (eqv (.bool false)), eqv _, eqv _, eqv _, eqv _, eqv _, eqv _, eqv _, eqv _, eqv _, (eqv (.bool false))] (by kernel_rfl) (by kernel_rfl) ⟨?o0, ?o1, ?o2, ?o3, ?o4, ?o5, ?o6, ?o7, ?o8, ?o9, ?o10, ?o11, ?o12, ?o13, ?o14, ?o15, ?o16, ?o17, ?o18, ?o19, ?o20, ?o21, ?o22, trivial⟩ ?last
            case o0 => -- Op.move (Operand.tmp 9)
              intro xv W8 hE _
              simp only [putD, List.foldl_nil, List.getD_cons_zero]
              refine OpGoal.plain ?_
              go_wp2_with fail
              exact ⟨rfl, Ext.refl _, rfl⟩
            case o1 => -- Op.nilCheck (Operand.tmp 54)
              intro xv W8 hE hp
              have r0 : xv 0 = _ := hp.1
              clear hp
              simp only [putD, List.foldl_nil, List.foldl_cons, List.getD_cons_zero, List.getD_cons_succ, Act.put, List.setIfInBounds_toArray, List.set_cons_zero, List.set_cons_succ]
              refine OpGoal.plain ?_
              go_wp2_with fail
              exact ⟨rfl, Ext.refl _, rfl⟩
            case o2 => -- Op.fieldAddr 79 (Operand.tmp 55) 2
              intro xv W8 hE hp
              have r1 : xv 1 = _ := hp.1
              clear hp
              simp only [putD, List.foldl_nil, List.foldl_cons, List.getD_cons_zero, List.getD_cons_succ, Act.put, List.setIfInBounds_toArray, List.set_cons_zero, List.set_cons_succ]
              refine OpGoal.plain ?_
              go_wp2_with fail
              exact ⟨rfl, Ext.refl _, rfl⟩
            case o3 => -- Op.load 9 (Operand.tmp 56)
              intro xv W8 hE hp
              have r2 : xv 2 = _ := hp.1
              clear hp
              obtain ⟨_, _, _, _, c0, c1⟩ := HQ8.out W8 hE
              simp only [strV] at c0 c1
              simp only [putD, List.foldl_nil, List.foldl_cons, List.getD_cons_zero, List.getD_cons_succ, Act.put, List.setIfInBounds_toArray, List.set_cons_zero, List.set_cons_succ]
              refine OpGoal.plain ?_
              go_wp2_with fail
              exact ⟨rfl, Ext.refl _, rfl⟩
            case o4 => -- Op.binOp BinOp.neq 9 (Operand.tmp 57) (Operand.const (Value.string { data := #[]
              intro xv W8 hE hp
              have r3 : xv 3 = _ := hp.1
              clear hp
              simp only [putD, List.foldl_nil, List.foldl_cons, List.getD_cons_zero, List.getD_cons_succ, Act.put, List.setIfInBounds_toArray, List.set_cons_zero, List.set_cons_succ]
              refine OpGoal.plain ?_
              go_wp2_with fail
              exact ⟨rfl, Ext.refl _, congrArg Value.bool HSN.out⟩
            case o5 => -- Op.move (Operand.tmp 58)
              intro xv W8 hE hp
              have r4 : xv 4 = _ := hp.1
              clear hp
              simp only [putD, List.foldl_nil, List.foldl_cons, List.getD_cons_zero, List.getD_cons_succ, Act.put, List.setIfInBounds_toArray, List.set_cons_zero, List.set_cons_succ]
              refine OpGoal.plain ?_
              go_wp2_with fail
              exact ⟨rfl, Ext.refl _, rfl⟩
            case o6 => -- Op.move (Operand.tmp 10)  GUARD (5, 'true')
              intro xv W8 hE hp
              have r5 : xv 5 = _ := hp.1
              clear hp
              simp only [putD, List.foldl_nil, List.foldl_cons, List.getD_cons_zero, List.getD_cons_succ, Act.put, List.setIfInBounds_toArray, List.set_cons_zero, List.set_cons_succ]
              refine OpGoal.yes (by simp [yieldD, r5]) ?_
              go_wp2_with fail
              exact ⟨rfl, Ext.refl _, rfl⟩
            case o7 => -- Op.nilCheck (Operand.tmp 60)  GUARD (5, 'true')
              intro xv W8 hE hp
              have r5 : xv 5 = _ := hp.1
              have r6 : xv 6 = _ := hp.2.1
              clear hp
              simp only [putD, List.foldl_nil, List.foldl_cons, List.getD_cons_zero, List.getD_cons_succ, Act.put, List.setIfInBounds_toArray, List.set_cons_zero, List.set_cons_succ]
              refine OpGoal.yes (by simp [yieldD, r5]) ?_
              go_wp2_with fail
              exact ⟨rfl, Ext.refl _, rfl⟩
            case o8 => -- Op.fieldAddr 79 (Operand.tmp 61) 2  GUARD (5, 'true')
              intro xv W8 hE hp
              have r5 : xv 5 = _ := hp.1
              have r7 : xv 7 = _ := hp.2.1
              clear hp
              simp only [putD, List.foldl_nil, List.foldl_cons, List.getD_cons_zero, List.getD_cons_succ, Act.put, List.setIfInBounds_toArray, List.set_cons_zero, List.set_cons_succ]
              refine OpGoal.yes (by simp [yieldD, r5]) ?_
              go_wp2_with fail
              exact ⟨rfl, Ext.refl _, rfl⟩
            case o9 => -- Op.load 9 (Operand.tmp 62)  GUARD (5, 'true')
              intro xv W8 hE hp
              have r5 : xv 5 = _ := hp.1
              have r8 : xv 8 = _ := hp.2.1
              clear hp
              obtain ⟨_, _, _, _, c0, c1⟩ := HQ8.out W8 hE
              simp only [strV] at c0 c1
              simp only [putD, List.foldl_nil, List.foldl_cons, List.getD_cons_zero, List.getD_cons_succ, Act.put, List.setIfInBounds_toArray, List.set_cons_zero, List.set_cons_succ]
              refine OpGoal.yes (by simp [yieldD, r5]) ?_
              go_wp2_with fail
              exact ⟨rfl, Ext.refl _, rfl⟩
            case o10 => -- Op.binOp BinOp.neq 9 (Operand.tmp 63) (Operand.const (Value.string { data := #[]
              intro xv W8 hE hp
              have r5 : xv 5 = _ := hp.1
              have r9 : xv 9 = _ := hp.2.1
              clear hp
              simp only [putD, List.foldl_nil, List.foldl_cons, List.getD_cons_zero, List.getD_cons_succ, Act.put, List.setIfInBounds_toArray, List.set_cons_zero, List.set_cons_succ]
              refine OpGoal.yes (by simp [yieldD, r5]) ?_
              go_wp2_with fail
              exact ⟨rfl, Ext.refl _, congrArg Value.bool HSJ.out⟩
            case o11 => -- Op.pick (Operand.tmp 59) (Operand.tmp 64) (Operand.const (Value.bool false))
              intro xv W8 hE hp
              have r5 : xv 5 = _ := hp.1
              have r10 : xv 10 = _ := hp.2.1
              clear hp
              simp only [putD, List.foldl_nil, List.foldl_cons, List.getD_cons_zero, List.getD_cons_succ, Act.put, List.setIfInBounds_toArray, List.set_cons_zero, List.set_cons_succ]
              refine OpGoal.plain ?_
              go_wp2_with fail
              exact ⟨rfl, Ext.refl _, rfl⟩
            case o12 => -- Op.move (Operand.tmp 65)
              intro xv W8 hE hp
              have r11 : xv 11 = _ := hp.1
              clear hp
              simp only [putD, List.foldl_nil, List.foldl_cons, List.getD_cons_zero, List.getD_cons_succ, Act.put, List.setIfInBounds_toArray, List.set_cons_zero, List.set_cons_succ]
              refine OpGoal.plain ?_
              go_wp2_with fail
              exact ⟨rfl, Ext.refl _, rfl⟩
            case o13 => -- Op.move (Operand.tmp 9)  GUARD (12, 'true')
              intro xv W8 hE hp
              have r12 : xv 12 = _ := hp.1
              clear hp
              simp only [putD, List.foldl_nil, List.foldl_cons, List.getD_cons_zero, List.getD_cons_succ, Act.put, List.setIfInBounds_toArray, List.set_cons_zero, List.set_cons_succ]
              exact OpGoal.no (by simp [yieldD, r12]) ⟨Ext.refl _, rfl⟩
            case o14 => -- Op.nilCheck (Operand.tmp 67)  GUARD (12, 'true')
              intro xv W8 hE hp
              have r12 : xv 12 = _ := hp.1
              have r13 : xv 13 = _ := hp.2.1
              clear hp
              simp only [putD, List.foldl_nil, List.foldl_cons, List.getD_cons_zero, List.getD_cons_succ, Act.put, List.setIfInBounds_toArray, List.set_cons_zero, List.set_cons_succ]
              exact OpGoal.no (by simp [yieldD, r12]) ⟨Ext.refl _, rfl⟩
            case o15 => -- Op.fieldAddr 79 (Operand.tmp 68) 2  GUARD (12, 'true')
              intro xv W8 hE hp
              have r12 : xv 12 = _ := hp.1
              have r14 : xv 14 = _ := hp.2.1
              clear hp
              simp only [putD, List.foldl_nil, List.foldl_cons, List.getD_cons_zero, List.getD_cons_succ, Act.put, List.setIfInBounds_toArray, List.set_cons_zero, List.set_cons_succ]
              exact OpGoal.no (by simp [yieldD, r12]) ⟨Ext.refl _, rfl⟩
            case o16 => -- Op.load 9 (Operand.tmp 69)  GUARD (12, 'true')
              intro xv W8 hE hp
              have r12 : xv 12 = _ := hp.1
              have r15 : xv 15 = _ := hp.2.1
              clear hp
              obtain ⟨_, _, _, _, c0, c1⟩ := HQ8.out W8 hE
              simp only [strV] at c0 c1
              simp only [putD, List.foldl_nil, List.foldl_cons, List.getD_cons_zero, List.getD_cons_succ, Act.put, List.setIfInBounds_toArray, List.set_cons_zero, List.set_cons_succ]
              exact OpGoal.no (by simp [yieldD, r12]) ⟨Ext.refl _, rfl⟩
            case o17 => -- Op.move (Operand.tmp 10)  GUARD (12, 'true')
              intro xv W8 hE hp
              have r12 : xv 12 = _ := hp.1
              clear hp
              simp only [putD, List.foldl_nil, List.foldl_cons, List.getD_cons_zero, List.getD_cons_succ, Act.put, List.setIfInBounds_toArray, List.set_cons_zero, List.set_cons_succ]
              exact OpGoal.no (by simp [yieldD, r12]) ⟨Ext.refl _, rfl⟩
            case o18 => -- Op.nilCheck (Operand.tmp 71)  GUARD (12, 'true')
              intro xv W8 hE hp
              have r12 : xv 12 = _ := hp.1
              have r17 : xv 17 = _ := hp.2.1
              clear hp
              simp only [putD, List.foldl_nil, List.foldl_cons, List.getD_cons_zero, List.getD_cons_succ, Act.put, List.setIfInBounds_toArray, List.set_cons_zero, List.set_cons_succ]
              exact OpGoal.no (by simp [yieldD, r12]) ⟨Ext.refl _, rfl⟩
            case o19 => -- Op.fieldAddr 79 (Operand.tmp 72) 2  GUARD (12, 'true')
              intro xv W8 hE hp
              have r12 : xv 12 = _ := hp.1
              have r18 : xv 18 = _ := hp.2.1
              clear hp
              simp only [putD, List.foldl_nil, List.foldl_cons, List.getD_cons_zero, List.getD_cons_succ, Act.put, List.setIfInBounds_toArray, List.set_cons_zero, List.set_cons_succ]
              exact OpGoal.no (by simp [yieldD, r12]) ⟨Ext.refl _, rfl⟩
            case o20 => -- Op.load 9 (Operand.tmp 73)  GUARD (12, 'true')
              intro xv W8 hE hp
              have r12 : xv 12 = _ := hp.1
              have r19 : xv 19 = _ := hp.2.1
              clear hp
              obtain ⟨_, _, _, _, c0, c1⟩ := HQ8.out W8 hE
              simp only [strV] at c0 c1
              simp only [putD, List.foldl_nil, List.foldl_cons, List.getD_cons_zero, List.getD_cons_succ, Act.put, List.setIfInBounds_toArray, List.set_cons_zero, List.set_cons_succ]
              exact OpGoal.no (by simp [yieldD, r12]) ⟨Ext.refl _, rfl⟩
            case o21 => -- Op.binOp BinOp.neq 9 (Operand.tmp 70) (Operand.tmp 74) 9  GUARD (12, 'true')
              intro xv W8 hE hp
              have r12 : xv 12 = _ := hp.1
              have r16 : xv 16 = _ := hp.2.1
              have r20 : xv 20 = _ := hp.2.2.1
              clear hp
              simp only [putD, List.foldl_nil, List.foldl_cons, List.getD_cons_zero, List.getD_cons_succ, Act.put, List.setIfInBounds_toArray, List.set_cons_zero, List.set_cons_succ]
              exact OpGoal.no (by simp [yieldD, r12]) ⟨Ext.refl _, rfl⟩
            case o22 => -- Op.pick (Operand.tmp 66) (Operand.tmp 75) (Operand.const (Value.bool false))
              intro xv W8 hE hp
              have r12 : xv 12 = _ := hp.1
              have r21 : xv 21 = _ := hp.2.1
              clear hp
              simp only [putD, List.foldl_nil, List.foldl_cons, List.getD_cons_zero, List.getD_cons_succ, Act.put, List.setIfInBounds_toArray, List.set_cons_zero, List.set_cons_succ]
              refine OpGoal.plain ?_
              go_wp2_with fail
              exact ⟨rfl, Ext.refl _, rfl⟩
            case last =>
              intro xv W8 hE hp
              have r0 : xv 0 = _ := hp.1
              have r1 : xv 1 = _ := hp.2.1
              have r2 : xv 2 = _ := hp.2.2.1
              have r3 : xv 3 = _ := hp.2.2.2.1
              have r4 : xv 4 = _ := hp.2.2.2.2.1
              have r5 : xv 5 = _ := hp.2.2.2.2.2.1
              have r6 : xv 6 = _ := hp.2.2.2.2.2.2.1
              have r7 : xv 7 = _ := hp.2.2.2.2.2.2.2.1
              have r8 : xv 8 = _ := hp.2.2.2.2.2.2.2.2.1
              have r9 : xv 9 = _ := hp.2.2.2.2.2.2.2.2.2.1
              have r10 : xv 10 = _ := hp.2.2.2.2.2.2.2.2.2.2.1
              have r11 : xv 11 = _ := hp.2.2.2.2.2.2.2.2.2.2.2.1
              have r12 : xv 12 = _ := hp.2.2.2.2.2.2.2.2.2.2.2.2.1
              have r13 : xv 13 = _ := hp.2.2.2.2.2.2.2.2.2.2.2.2.2.1
              have r14 : xv 14 = _ := hp.2.2.2.2.2.2.2.2.2.2.2.2.2.2.1
              have r15 : xv 15 = _ := hp.2.2.2.2.2.2.2.2.2.2.2.2.2.2.2.1
              have r16 : xv 16 = _ := hp.2.2.2.2.2.2.2.2.2.2.2.2.2.2.2.2.1
              have r17 : xv 17 = _ := hp.2.2.2.2.2.2.2.2.2.2.2.2.2.2.2.2.2.1
              have r18 : xv 18 = _ := hp.2.2.2.2.2.2.2.2.2.2.2.2.2.2.2.2.2.2.1
              have r19 : xv 19 = _ := hp.2.2.2.2.2.2.2.2.2.2.2.2.2.2.2.2.2.2.2.1
              have r20 : xv 20 = _ := hp.2.2.2.2.2.2.2.2.2.2.2.2.2.2.2.2.2.2.2.2.1
              have r21 : xv 21 = _ := hp.2.2.2.2.2.2.2.2.2.2.2.2.2.2.2.2.2.2.2.2.2.1
              have r22 : xv 22 = _ := hp.2.2.2.2.2.2.2.2.2.2.2.2.2.2.2.2.2.2.2.2.2.2.1
              clear hp
              simp only [putD, List.foldl_nil, List.foldl_cons, List.getD_cons_zero, List.getD_cons_succ, Act.put, List.length_cons, List.length_nil, List.range_succ, List.range_zero, List.nil_append, List.cons_append, List.setIfInBounds_toArray, List.set_cons_zero, List.set_cons_succ]
              simp only [r22]
              go_wp2_with fail
              go_ret
              exact ⟨ret_i (show (0 : Int) = rs by rw [← HRS.out, if_neg hxy, if_neg hbs]), Ext.trans HE.out (Ext.trans hE7e.out (Ext.trans (Ext.drew w7) hE))⟩
end Go.Proofs.YtompfgofaplffaaGreatDoor

namespace Go.Proofs.YtompfgofaplffaaGreatDoor
open Go.RowKit Hach

def mapS (B : Nat) (kv : List (Int × Value)) : SP := ⟨fun v W => ∃ r, v = .map (some r) ∧ MapI W r kv, fun h hE => by
  obtain ⟨r, e, h1⟩ := h
  exact ⟨r, e, h1.keep hE⟩⟩
set_option maxHeartbeats 2000000 in
theorem fCan_any (m : Mp) (a : Ma) (b o i j : Nat) (w : World) (hm : MpAt w a m) (hA : a.fa = some ⟨b, o, none⟩) (hap : Apart m.faces) (hi : i < m.faces.length) (hj : j < m.faces.length)
    (hlen : m.edges.length < 1000000000) (hd : (fa m.faces i).district = (fa m.faces j).district) (hd1 : 1 ≤ (fa m.faces j).district)
    (hnm : bors m.edges (fa m.faces i).id (fa m.faces j).id m.edges.length = [] ∨ (fa m.faces i).name = [] ∨ (fa m.faces j).name = []) :
    Calls Tryz.prog 40 #[.agg (a.cells m).toArray, .int .i64 (fa m.faces i).id, .int .i64 (fa m.faces j).id] w fun e w' => e = .returned (.int .i64 (canF m.edges (fa m.faces i).id (fa m.faces j).id)) ∧ Ext w w' := by
  have hE1 := Ext.alloc w (.cells (a.cells m).toArray 41)
  have hB := Go.heap_alloc_new w (.cells (a.cells m).toArray 41)
  have HK : Hid (∀ W, Ext (w.alloc (.cells (a.cells m).toArray 41)) W → Calls Tryz.prog 83 #[.agg #[.slice a.ea m.edges.length a.ec, .slice a.fa m.faces.length a.fc, .slice a.wa m.ways.length a.wc, .slice a.pa m.places.length a.pc]] W fun e w' => ∃ r, e = .returned (.map (some r)) ∧ W.heap.size ≤ r ∧ MapI w' r (knF b o m.faces m.faces.length) ∧ Ext W w') := Lib.hid (fun W h => known_any m a b o W (hm.keep (Ext.trans hE1 h)) hA hap)
  have HF : Hid (∀ W r, Ext (w.alloc (.cells (a.cells m).toArray 41)) W → MapI W r (knF b o m.faces m.faces.length) → Calls Tryz.prog 82 #[.agg #[.slice a.ea m.edges.length a.ec, .slice a.fa m.faces.length a.fc, .slice a.wa m.ways.length a.wc, .slice a.pa m.places.length a.pc], .map (some r), .int .i64 (fa m.faces i).id, .int .i64 (fa m.faces j).id] W fun e w' => e = .returned (.int .i64 (canF m.edges (fa m.faces i).id (fa m.faces j).id)) ∧ Ext W w') := Lib.hid (fun W r h hM => fcan_any m a b o r i j W (hm.keep (Ext.trans hE1 h)) hA hap hM hi hj hlen hd hd1 hnm)
  have HB := Lib.hid (fun W (h : Ext (w.alloc (.cells (a.cells m).toArray 41)) W) => Ma.box (blk_ext hB h))
  have HE := Lib.hid hE1
  clear hm hB hA hap hlen hE1 hd hd1 hnm
  generalize canF m.edges (fa m.faces i).id (fa m.faces j).id = rs at *
  generalize (fa m.faces i).id = x at *
  generalize (fa m.faces j).id = y at *
  generalize knF b o m.faces m.faces.length = kl at *
  go_enter Tryz.func40, Tryz.ntmps40
  go_wp2_with fail
  generalize w.alloc (.cells (a.cells m).toArray 41) = V at *
  apply wp_region_seq (l := [_, _, _, _, _]) (t := [_, _]) [some 7, some 8, some 9, some 10, some 11, some 12, some 6] [[], [], [1], [], [], [0, 2, 3, 4], [5]] [5, 2, 5, 5, 5] [eqv _, eqv _, (mapS 0 kl), eqv _, eqv _] (by kernel_rfl) (by kernel_rfl) ⟨?o0, ?o1, ?o2, ?o3, ?o4, trivial⟩ ?last
  case o0 => -- Op.load 41 (Operand.tmp 3)
    intro xv W hE _
    obtain ⟨c0, c1, c2, c3⟩ := HB.out W (Ext.trans (Ext.drew V) hE)
    simp only [putD, List.foldl_nil, List.getD_cons_zero]
    refine OpGoal.plain ?_
    go_wp2_with fail
    exact ⟨rfl, Ext.refl _, rfl⟩
  case o1 => -- Op.load 41 (Operand.tmp 3)
    intro xv W hE _
    obtain ⟨c0, c1, c2, c3⟩ := HB.out W (Ext.trans (Ext.drew V) hE)
    simp only [putD, List.foldl_nil, List.getD_cons_zero, List.getD_cons_succ]
    refine OpGoal.plain ?_
    go_wp2_with fail
    exact ⟨rfl, Ext.refl _, rfl⟩
  case o2 => -- Op.call { callee := Callee.value (Operand.func 83), args := #[Operand.tmp 8], ar
    intro xv W hE hp
    have r1 : xv 1 = _ := hp.1
    clear hp
    simp only [putD, List.foldl_nil, List.foldl_cons, List.getD_cons_zero, List.getD_cons_succ, Act.put, List.setIfInBounds_toArray, List.set_cons_zero, List.set_cons_succ]
    refine OpGoal.plain ?_
    go_wp2_with fail
    refine (HK.out W (Ext.trans (Ext.drew V) hE)).mono ?_
    rintro e w' ⟨r, rfl, _, hM, hE'⟩
    go_wp2_with fail
    exact ⟨rfl, hE', r, rfl, hM⟩
  case o3 => -- Op.move (Operand.tmp 1)
    intro xv W hE _
    simp only [putD, List.foldl_nil, List.getD_cons_zero, List.getD_cons_succ]
    refine OpGoal.plain ?_
    go_wp2_with fail
    exact ⟨rfl, Ext.refl _, rfl⟩
  case o4 => -- Op.move (Operand.tmp 2)
    intro xv W hE _
    simp only [putD, List.foldl_nil, List.getD_cons_zero, List.getD_cons_succ]
    refine OpGoal.plain ?_
    go_wp2_with fail
    exact ⟨rfl, Ext.refl _, rfl⟩
  case last =>
    intro xv W hE hp
    have r0 : xv 0 = _ := hp.1
    have r1 : xv 1 = _ := hp.2.1
    obtain ⟨r, r2, hM⟩ := hp.2.2.1
    have r3 : xv 3 = _ := hp.2.2.2.1
    have r4 : xv 4 = _ := hp.2.2.2.2.1
    clear hp
    simp only [putD, List.foldl_nil, List.foldl_cons, List.getD_cons_zero, List.getD_cons_succ, Act.put, List.length_cons, List.length_nil, List.range_succ, List.range_zero, List.nil_append, List.cons_append, List.setIfInBounds_toArray, List.set_cons_zero, List.set_cons_succ]
    simp only [r0, r2, r3, r4]
    go_wp2_with fail
    refine (HF.out W r (Ext.trans (Ext.drew V) hE) hM).mono ?_
    rintro e w' ⟨rfl, hE'⟩
    go_wp2_with fail
    go_ret
    exact ⟨rfl, Ext.trans HE.out (Ext.trans (Ext.trans (Ext.drew V) hE) hE')⟩
set_option maxRecDepth 100000 in
set_option maxHeartbeats 2000000 in
theorem fCost_any (m : Mp) (a : Ma) (b o i : Nat) (y : Int) (w : World) (hm : MpAt w a m) (hA : a.fa = some ⟨b, o, none⟩) (hap : Apart m.faces) (hi : i < m.faces.length) (hw : 0 ≤ (fa m.faces i).weight ∧ (fa m.faces i).weight ≤ 1000000) :
    Calls Tryz.prog 41 #[.agg (a.cells m).toArray, .int .i64 (fa m.faces i).id, .int .i64 y] w fun e w' => e = .returned (.int .i64 (4 * (fa m.faces i).weight)) ∧ Ext w w' := by
  have hE1 := Ext.alloc w (.cells (a.cells m).toArray 41)
  have hB := Go.heap_alloc_new w (.cells (a.cells m).toArray 41)
  have HK : Hid (Calls Tryz.prog 83 #[.agg #[.slice a.ea m.edges.length a.ec, .slice a.fa m.faces.length a.fc, .slice a.wa m.ways.length a.wc, .slice a.pa m.places.length a.pc]] (w.alloc (.cells (a.cells m).toArray 41)) fun e w' => ∃ r, e = .returned (.map (some r)) ∧ (w.alloc (.cells (a.cells m).toArray 41)).heap.size ≤ r ∧ MapI w' r (knF b o m.faces m.faces.length) ∧ Ext (w.alloc (.cells (a.cells m).toArray 41)) w') := Lib.hid (known_any m a b o _ (hm.keep hE1) hA hap)
  obtain ⟨z0, z1, z2, z3⟩ := Ma.box hB
  have HR := Lib.hid (fun W (h : Ext w W) => RowAt.keep hm.faces h)
  rw [hA] at HR
  have HQ := Lib.hid (fun W (h : Ext w W) => RowAt.cell (HR.out W h) (j := i) (i := 3) hi rfl)
  have HG := Lib.hid (getF_kn (b := b) (o := o) hap hi (Nat.le_refl _))
  have HE := Lib.hid hE1
  clear hm hB hA hap hE1 HR
  generalize (fa m.faces i).id = x at *
  generalize (fa m.faces i).weight = wt at *
  generalize knF b o m.faces m.faces.length = kl at *
  have e4 : IntKind.i64.wrap (4 * wt) = 4 * wt := IntWalk.i64_in _ (by omega)
  go_enter Tryz.func41, Tryz.ntmps41
  go_wp2_with fail
  refine HK.out.mono ?_
  rintro e w' ⟨r, rfl, _, hM, hE'⟩
  have q3 := HQ.out w' (Ext.trans HE.out hE')
  clear z0 z1 z2 z3
  have HM := Lib.hid hM
  clear hM
  go_wp2_with (refine lk_I rfl (.tmp 9) (.tmp 10) rfl r _ x rfl rfl HM.out ?_; rw [HG.out])
  go_ret
  exact ⟨rfl, Ext.trans HE.out hE'⟩
end Go.Proofs.YtompfgofaplffaaGreatDoor
