/- event.Next; the reference's SameEvents. -/
import Derived.Test.YtompfgofaplffaaGreatDoorQGj
import Derived.Test.YtompfgofaplffaaGreatDoorQGe
import Derived.ArgAppend
import Derived.Deep.Cut
set_option linter.unusedSimpArgs false
set_option linter.unusedVariables false
namespace Go.Proofs.YtompfgofaplffaaGreatDoor
open Go.RowKit Hach

def nextE (e : Ev) (bf : Int) : Option Ev := if max e.at_ (bf + 1) < 1 then none else if 1024 < max e.at_ (bf + 1) then none else some ⟨e.kind, max e.at_ (bf + 1), e.id, e.other, e.n⟩
set_option maxRecDepth 100000 in
set_option maxHeartbeats 8000000 in
theorem enext_any (m : Mp) (a : Ma) (b o : Nat) (d bf : Int) (ss : List Ev) (w : World) (hm : MpAt w a m) (hA : a.fa = some ⟨b, o, none⟩) (hok : EvOk m d ss) (hb0 : -1000000 ≤ bf) (hb1 : bf ≤ 1000000) :
    Calls Tryz.prog 32 #[.agg (a.cells m).toArray, .int .i64 d, .int .i64 bf] w fun e w' => e = .returned (resV (nextE (evG ss 0) bf)) ∧ Ext w w' := by
  have hpos : 0 < ss.length := by rw [hok.same]; exact hok.some_
  have hM0 : (w.alloc (.cells (a.cells m).toArray 41)).heap[w.heap.size]? = some (.cells (a.cells m).toArray 41 (0, 0)) := Go.heap_alloc_new w _
  have hE0 : EvBlk ((w.alloc (.cells (a.cells m).toArray 41)).alloc (.cells #[.int .i64 0, .int .i64 0, .int .i64 0, .int .i64 0, .int .i64 0] 23)) (w.heap.size + 1) zeroEv := by
    have := Go.heap_alloc_new (w.alloc (.cells (a.cells m).toArray 41)) (.cells #[.int .i64 0, .int .i64 0, .int .i64 0, .int .i64 0, .int .i64 0] 23)
    rw [World.size_alloc] at this
    exact this
  have hM1 := blk_ext hM0 (Ext.alloc (w.alloc (.cells (a.cells m).toArray 41)) (.cells #[.int .i64 0, .int .i64 0, .int .i64 0, .int .i64 0, .int .i64 0] 23))
  have hX1 := Ext.trans (Ext.alloc w (.cells (a.cells m).toArray 41)) (Ext.alloc (w.alloc (.cells (a.cells m).toArray 41)) (.cells #[.int .i64 0, .int .i64 0, .int .i64 0, .int .i64 0, .int .i64 0] 23))
  have HAL : Hid (∀ W, Ext w W → Calls Tryz.prog 14 #[.agg #[.slice a.ea m.edges.length a.ec, .slice a.fa m.faces.length a.fc, .slice a.wa m.ways.length a.wc, .slice a.pa m.places.length a.pc], .int .i64 d] W fun e w' => (∃ g c, e = .returned (.slice (some ⟨g, 0, none⟩) ss.length c) ∧ W.heap.size ≤ g ∧ g < w'.heap.size ∧ EvRow w' g ss) ∧ Ext W w') := Lib.hid (fun W h => eall_any m a b o d ss W (hm.keep h) hA hok)
  obtain ⟨c0, c1, c2, c3⟩ := Ma.box hM1
  obtain ⟨V, hV⟩ : ∃ V, (w.alloc (.cells (a.cells m).toArray 41)).alloc (.cells #[.int .i64 0, .int .i64 0, .int .i64 0, .int .i64 0, .int .i64 0] 23) = V := ⟨_, rfl⟩
  rw [hV] at hM1 hE0 hX1
  have HV := Lib.hid hV
  have HE0 := Lib.hid hE0
  have HX1 := Lib.hid hX1
  have HAV := Lib.hid (HAL.out V hX1)
  unfold nextE
  obtain ⟨e0, he0⟩ : ∃ e0, evG ss 0 = e0 := ⟨_, rfl⟩
  have HE := Lib.hid he0
  rw [he0]
  have eb : IntKind.i64.wrap (bf + 1) = bf + 1 := IntWalk.i64_in _ (by omega)
  obtain ⟨mx, hmx⟩ : ∃ mx, max e0.at_ (bf + 1) = mx := ⟨_, rfl⟩
  rw [hmx]
  generalize hRS : (if mx < 1 then none else if 1024 < mx then none else some (⟨e0.kind, mx, e0.id, e0.other, e0.n⟩ : Ev)) = RS
  have HRS := Lib.hid hRS
  clear hRS hm hA hok hM0 hE0 hM1 hX1 hV he0 HAL
  go_enter Tryz.func32, Tryz.ntmps32
  go_wp2_with fail
  rw [HV.out]
  refine HAV.out.mono ?_
  rintro e w1 ⟨⟨g, c, rfl, lo, hg, hR⟩, hE1⟩
  have q0 := hR.cell (j := 0) (i := 0) hpos rfl
  have q1 := hR.cell (j := 0) (i := 1) hpos rfl
  have q2 := hR.cell (j := 0) (i := 2) hpos rfl
  have q3 := hR.cell (j := 0) (i := 3) hpos rfl
  have q4 := hR.cell (j := 0) (i := 4) hpos rfl
  rw [HE.out] at q0 q1 q2 q3 q4
  simp only [Nat.zero_mul, Nat.zero_add] at q0 q1 q2 q3 q4
  have tl : ¬ (ss.length : Int) = 0 := by omega
  have HRW := Lib.hid (HE0.out.ext (Ext.trans hE1 (Ext.alloc w1 (.cells #[.int .i64 e0.kind, .int .i64 mx, .int .i64 e0.id, .int .i64 e0.other, .int .i64 e0.n] 23))))
  have HXW := Lib.hid (Ext.trans HX1.out (Ext.trans hE1 (Ext.alloc w1 (.cells #[.int .i64 e0.kind, .int .i64 mx, .int .i64 e0.id, .int .i64 e0.other, .int .i64 e0.n] 23))))
  clear hR hE1 lo c0 c1 c2 c3 HAV HE0 HX1
  by_cases m1 : mx < 1
  · have s1 : decide (mx < 1) = true := by simpa using m1
    have HR2 : Hid (RS = none) := Lib.hid (by rw [← HRS.out, if_pos m1])
    clear m1
    go_wp2_with (refine store_TE 23 23 (w.heap.size + 1) [.int .i64 0, .int .i64 0, .int .i64 0, .int .i64 0, .int .i64 0] [.int .i64 0, .int .i64 0, .int .i64 0, .int .i64 0, .int .i64 0] HRW.out rfl (by kernel_rfl) (by intro v hv; simp at hv; subst hv; rfl) rfl (.tmp 6) (.tmp 34) rfl rfl rfl ?_; intro w9 h9 hg9)
    refine bodyPost_ret (results_Eb (e := zeroEv) rfl h9 _ (.bool false) rfl rfl) rfl ⟨by rw [HR2.out]; rfl, Ext.grow_ge HXW.out hg9 (fun b e => by simp only [Option.some.injEq] at e; omega)⟩
  have s1 : decide (mx < 1) = false := by simpa using m1
  by_cases m2 : 1024 < mx
  · have s2 : decide (1024 < mx) = true := by simpa using m2
    have HR2 : Hid (RS = none) := Lib.hid (by rw [← HRS.out, if_neg (by omega), if_pos m2])
    clear m1 m2
    go_wp2_with (refine store_TE 23 23 (w.heap.size + 1) [.int .i64 0, .int .i64 0, .int .i64 0, .int .i64 0, .int .i64 0] [.int .i64 0, .int .i64 0, .int .i64 0, .int .i64 0, .int .i64 0] HRW.out rfl (by kernel_rfl) (by intro v hv; simp at hv; subst hv; rfl) rfl (.tmp 6) (.tmp 34) rfl rfl rfl ?_; intro w9 h9 hg9)
    refine bodyPost_ret (results_Eb (e := zeroEv) rfl h9 _ (.bool false) rfl rfl) rfl ⟨by rw [HR2.out]; rfl, Ext.grow_ge HXW.out hg9 (fun b e => by simp only [Option.some.injEq] at e; omega)⟩
  · have s2 : decide (1024 < mx) = false := by simpa using m2
    have HR2 : Hid (RS = some ⟨e0.kind, mx, e0.id, e0.other, e0.n⟩) := Lib.hid (by rw [← HRS.out, if_neg (by omega), if_neg m2])
    clear m1 m2
    go_wp2_with (refine store_TE 23 23 (w.heap.size + 1) [.int .i64 0, .int .i64 0, .int .i64 0, .int .i64 0, .int .i64 0] [.int .i64 e0.kind, .int .i64 mx, .int .i64 e0.id, .int .i64 e0.other, .int .i64 e0.n] HRW.out rfl (by kernel_rfl) (by intro v hv; simp at hv; rcases hv with rfl | rfl | rfl | rfl | rfl <;> rfl) rfl (.tmp 6) (.tmp 35) rfl rfl rfl ?_; intro w9 h9 hg9)
    refine bodyPost_ret (results_Eb (e := ⟨e0.kind, mx, e0.id, e0.other, e0.n⟩) rfl h9 _ (.bool true) rfl rfl) rfl ⟨by rw [HR2.out]; rfl, Ext.grow_ge HXW.out hg9 (fun b e => by simp only [Option.some.injEq] at e; omega)⟩
set_option maxRecDepth 100000 in
set_option maxHeartbeats 4000000 in
theorem same_any (g g' c c' : Nat) (us : List Ev) (w : World) (h1 : EvRow w g us) (h2 : EvRow w g' us) (hn : us.length < 1000000) :
    Calls Tryz.prog 13 #[.slice (some ⟨g, 0, none⟩) us.length c, .slice (some ⟨g', 0, none⟩) us.length c'] w fun e w' => e = .returned (.bool true) ∧ Ext w w' := by
  have HQ := Lib.hid (fun j (hj : j < us.length) W (h : Ext w W) => And.intro ((h1.keep h).cell (j := j) (i := 0) hj rfl) (And.intro ((h1.keep h).cell (j := j) (i := 1) hj rfl) (And.intro ((h1.keep h).cell (j := j) (i := 2) hj rfl) (And.intro ((h1.keep h).cell (j := j) (i := 3) hj rfl) ((h1.keep h).cell (j := j) (i := 4) hj rfl)))))
  have HQ' := Lib.hid (fun j (hj : j < us.length) W (h : Ext w W) => And.intro ((h2.keep h).cell (j := j) (i := 0) hj rfl) (And.intro ((h2.keep h).cell (j := j) (i := 1) hj rfl) (And.intro ((h2.keep h).cell (j := j) (i := 2) hj rfl) (And.intro ((h2.keep h).cell (j := j) (i := 3) hj rfl) ((h2.keep h).cell (j := j) (i := 4) hj rfl)))))
  generalize us.length = n at *
  clear h1 h2
  go_enter Tryz.func13, Tryz.ntmps13
  go_wp2_with fail
  go_loopw [5] (fun s5 wr => ∃ k : Nat, k ≤ n ∧ s5 = .int .i64 k ∧ Hid (Ext w wr)) (fun s5 _ => n - (intOf s5).toNat)
  case atStart => exact ⟨0, Nat.zero_le _, rfl, Lib.hid (Ext.refl _)⟩
  case round =>
    obtain ⟨k, hk, rfl, hE⟩ := hrel
    by_cases hlt : k < n
    · have t : decide (k < n) = true := by simpa using hlt
      have HC := Lib.hid (fun W (h : Ext wr.drew W) => And.intro (HQ.out k hlt W (Ext.trans hE.out (Ext.trans (Ext.drew wr) h))) (HQ'.out k hlt W (Ext.trans hE.out (Ext.trans (Ext.drew wr) h))))
      generalize evG us k = e0 at *
      go_wp2_with fail
      apply wp_region_seq (l := [_, _, _, _, _, _, _, _, _]) (t := []) [some 17, some 18, some 19, some 20, some 21, some 22, some 23, some 24, some 25] [[], [], [0, 1], [2], [], [], [4, 5], [6], [3, 7]] [] [eqv _, eqv _, (eqv (.pointer (some ⟨g, k * 5, none⟩))), (eqv (.agg #[.int .i64 e0.kind, .int .i64 e0.at_, .int .i64 e0.id, .int .i64 e0.other, .int .i64 e0.n])), eqv _, eqv _, (eqv (.pointer (some ⟨g', k * 5, none⟩))), (eqv (.agg #[.int .i64 e0.kind, .int .i64 e0.at_, .int .i64 e0.id, .int .i64 e0.other, .int .i64 e0.n])), (eqv (.bool false))] (by kernel_rfl) (by kernel_rfl) ⟨?o0, ?o1, ?o2, ?o3, ?o4, ?o5, ?o6, ?o7, ?o8, trivial⟩ ?last
      case o0 => -- Op.move (Operand.tmp 0)
        intro xv W hE _
        simp only [putD, List.foldl_nil, List.getD_cons_zero]
        refine OpGoal.plain ?_
        go_wp2_with fail
        exact ⟨rfl, Ext.refl _, rfl⟩
      case o1 => -- Op.move (Operand.tmp 5)
        intro xv W hE _
        simp only [putD, List.foldl_nil, List.getD_cons_zero, List.getD_cons_succ]
        refine OpGoal.plain ?_
        go_wp2_with fail
        exact ⟨rfl, Ext.refl _, rfl⟩
      case o2 => -- Op.indexAddr 28 (Operand.tmp 17) (Operand.tmp 18)
        intro xv W hE hp
        have r0 : xv 0 = _ := hp.1
        have r1 : xv 1 = _ := hp.2.1
        clear hp
        simp only [putD, List.foldl_nil, List.foldl_cons, List.getD_cons_zero, List.getD_cons_succ, Act.put, List.setIfInBounds_toArray, List.set_cons_zero, List.set_cons_succ]
        refine OpGoal.plain ?_
        go_wp2_with fail
        exact ⟨rfl, Ext.refl _, rfl⟩
      case o3 => -- Op.load 23 (Operand.tmp 19)
        intro xv W hE hp
        have r2 : xv 2 = _ := hp.1
        clear hp
        obtain ⟨⟨c0, c1, c2, c3, c4⟩, ⟨d0, d1, d2, d3, d4⟩⟩ := HC.out W hE
        simp only [Nat.add_zero] at c0 d0
        simp only [putD, List.foldl_nil, List.foldl_cons, List.getD_cons_zero, List.getD_cons_succ, Act.put, List.setIfInBounds_toArray, List.set_cons_zero, List.set_cons_succ]
        refine OpGoal.plain ?_
        go_wp2_with fail
        exact ⟨rfl, Ext.refl _, rfl⟩
      case o4 => -- Op.move (Operand.tmp 1)
        intro xv W hE _
        simp only [putD, List.foldl_nil, List.getD_cons_zero, List.getD_cons_succ]
        refine OpGoal.plain ?_
        go_wp2_with fail
        exact ⟨rfl, Ext.refl _, rfl⟩
      case o5 => -- Op.move (Operand.tmp 5)
        intro xv W hE _
        simp only [putD, List.foldl_nil, List.getD_cons_zero, List.getD_cons_succ]
        refine OpGoal.plain ?_
        go_wp2_with fail
        exact ⟨rfl, Ext.refl _, rfl⟩
      case o6 => -- Op.indexAddr 28 (Operand.tmp 21) (Operand.tmp 22)
        intro xv W hE hp
        have r4 : xv 4 = _ := hp.1
        have r5 : xv 5 = _ := hp.2.1
        clear hp
        simp only [putD, List.foldl_nil, List.foldl_cons, List.getD_cons_zero, List.getD_cons_succ, Act.put, List.setIfInBounds_toArray, List.set_cons_zero, List.set_cons_succ]
        refine OpGoal.plain ?_
        go_wp2_with fail
        exact ⟨rfl, Ext.refl _, rfl⟩
      case o7 => -- Op.load 23 (Operand.tmp 23)
        intro xv W hE hp
        have r6 : xv 6 = _ := hp.1
        clear hp
        obtain ⟨⟨c0, c1, c2, c3, c4⟩, ⟨d0, d1, d2, d3, d4⟩⟩ := HC.out W hE
        simp only [Nat.add_zero] at c0 d0
        simp only [putD, List.foldl_nil, List.foldl_cons, List.getD_cons_zero, List.getD_cons_succ, Act.put, List.setIfInBounds_toArray, List.set_cons_zero, List.set_cons_succ]
        refine OpGoal.plain ?_
        go_wp2_with fail
        exact ⟨rfl, Ext.refl _, rfl⟩
      case o8 => -- Op.binOp BinOp.neq 23 (Operand.tmp 20) (Operand.tmp 24) 23
        intro xv W hE hp
        have r3 : xv 3 = _ := hp.1
        have r7 : xv 7 = _ := hp.2.1
        clear hp
        simp only [putD, List.foldl_nil, List.foldl_cons, List.getD_cons_zero, List.getD_cons_succ, Act.put, List.setIfInBounds_toArray, List.set_cons_zero, List.set_cons_succ]
        refine OpGoal.plain ?_
        go_wp2_with fail
        exact ⟨rfl, Ext.refl _, rfl⟩
      case last =>
        intro xv W hE hp
        have r0 : xv 0 = _ := hp.1
        have r1 : xv 1 = _ := hp.2.1
        have r2 : xv 2 = _ := hp.2.2.1
        have r3 : xv 3 = _ := hp.2.2.2.1
        have r4 : xv 4 = _ := hp.2.2.2.2.1
        have r5 : xv 5 = _ := hp.2.2.2.2.2.1
        have r6 : xv 6 = _ := hp.2.2.2.2.2.2.1
        have r7 : xv 7 = _ := hp.2.2.2.2.2.2.2.1
        have r8 : xv 8 = _ := hp.2.2.2.2.2.2.2.2.1
        clear hp
        simp only [putD, List.foldl_nil, List.foldl_cons, List.getD_cons_zero, List.getD_cons_succ, Act.put, List.length_cons, List.length_nil, List.range_succ, List.range_zero, List.nil_append, List.cons_append, List.setIfInBounds_toArray, List.set_cons_zero, List.set_cons_succ]
        simp only [r8]
        have HX := Lib.hid (Ext.trans (Ext.drew wr) hE)
        clear hE
        go_wp2_with fail
        go_roundw
        case rel => exact ⟨k + 1, by omega, by go_num, Lib.hid (Ext.trans (by assumption : Hid (Ext w wr)).out HX.out)⟩
        case measure => simp [intOf]; omega
    · have t : decide (k < n) = false := by simpa using hlt
      go_wp2_with fail
      go_ret
      exact ⟨rfl, hE.out⟩
end Go.Proofs.YtompfgofaplffaaGreatDoor

namespace Go.Proofs.YtompfgofaplffaaGreatDoor
open Go.RowKit Hach

def exL1 : List Pt := [⟨0, 0⟩, ⟨10, 0⟩, ⟨10, 10⟩]
def exL2 : List Pt := [⟨10, 10⟩, ⟨0, 10⟩, ⟨0, 0⟩]
def exL3 : List Pt := [⟨0, 0⟩, ⟨10, 10⟩]
def exL4 : List Pt := [⟨4, 1⟩, ⟨6, 1⟩, ⟨6, 3⟩, ⟨4, 1⟩]
def exEs : List Ed := [⟨1, exL1, 5, 0⟩, ⟨2, exL2, 6, 0⟩, ⟨3, exL3, 6, 5⟩, ⟨4, exL4, 7, 5⟩]
def exFs : List Fa := [⟨5, [102, 105, 101, 108, 100], [], 9, 2⟩, ⟨6, [102, 105, 101, 108, 100], [77, 111, 111, 114], 250, 2⟩, ⟨7, [108, 97, 107, 101], [72, 111, 108, 109], 1, 2⟩]
def exM : Mp := ⟨exEs, exFs, [], []⟩
def flP (l : List Pt) : Array Value := (l.flatMap ptC).toArray
theorem infoEdg : (Tryz.prog.info? 77).map (fun i => (i.zero, i.size, i.bytes)) = some (some (.agg #[.int .i64 0, .slice none 0 0, .int .i64 0, .int .i64 0]), 4, 48) := by kernel_rfl
theorem pts_of {W : World} {g : Nat} {l : List Pt} (h : W.heap[g]? = some (.cells (flP l) 73 (0, 0))) (hl : ∀ j, j < l.length → (flP l)[j * 2]? = some (.int .i64 (gp l j).x) ∧ (flP l)[j * 2 + 1]? = some (.int .i64 (gp l j).y)) : Pts W (some ⟨g, 0, none⟩) l := fun j hj => by
  refine ⟨g, 0, rfl, (Array.getElem?_eq_some_iff.1 h).1, fun i v hv => ?_⟩
  obtain ⟨h1, h2⟩ := hl j hj
  have hi : i < 2 := (List.getElem?_eq_some_iff.1 hv).1
  rw [Nat.zero_add]
  obtain rfl | rfl : i = 0 ∨ i = 1 := by omega
  · cases hv; exact cells_of h _ _ h1
  · cases hv; exact cells_of h _ _ h2
theorem results_Pt {fn : Func} {t : Tmp} (hr : fn.results = #[.cell t 73]) {w : World} {b : Nat} {x y : Int} (h : w.heap[b]? = some (.cells #[.int .i64 x, .int .i64 y] 73 (0, 0))) (tmps : Array Value) (ht : tmps.getD t undef = .pointer (some ⟨b, 0, none⟩)) :
    (results fn tmps).run Tryz.prog w = .ok (.agg #[.int .i64 x, .int .i64 y]) w := by
  have p0 := cells_of h 0 _ rfl
  have p1 := cells_of h 1 _ rfl
  clear h
  rw [Array.getD_eq_getD_getElem?] at ht
  simp only [results, hr]
  go_simp
theorem expt_any (x y : Int) (w : World) : Calls Tryz.prog 29 #[.int .i64 x, .int .i64 y] w fun e w' => e = .returned (.agg #[.int .i64 x, .int .i64 y]) ∧ Ext w w' := by
  go_enter Tryz.func29, Tryz.ntmps29
  go_wp2_with fail
  exact bodyPost_ret (results_Pt rfl (Go.heap_alloc_new _ _) _ rfl) rfl ⟨rfl, Ext.alloc _ _⟩
def MB (W : World) (b : Nat) (c0 c1 c2 c3 : Value) : Prop := W.heap[b]? = some (.cells #[c0, c1, c2, c3] 41 (0, 0))
theorem MB.get {W : World} {b : Nat} {c0 c1 c2 c3 : Value} (h : MB W b c0 c1 c2 c3) : W.cell? ⟨b, 0, none⟩ = some c0 ∧ W.cell? ⟨b, 1, none⟩ = some c1 ∧ W.cell? ⟨b, 2, none⟩ = some c2 ∧ W.cell? ⟨b, 3, none⟩ = some c3 := ⟨cells_of h 0 _ rfl, cells_of h 1 _ rfl, cells_of h 2 _ rfl, cells_of h 3 _ rfl⟩
theorem MB.fro {W : World} {b : Nat} {c0 c1 c2 c3 : Value} (h : MB W b c0 c1 c2 c3) (i : Nat) : W.frozen? ⟨b, i, none⟩ = false := by unfold MB at h; simp [World.frozen?, h]
theorem MB.set0 {W : World} {b : Nat} {c0 c1 c2 c3 : Value} (h : MB W b c0 c1 c2 c3) (v : Value) : MB (W.setCell ⟨b, 0, none⟩ v) b v c1 c2 c3 := by
  unfold MB at h ⊢
  simp only [World.setCell, Array.getElem?_modify, if_pos, h, Option.map_some]
  simp
theorem MB.set1 {W : World} {b : Nat} {c0 c1 c2 c3 : Value} (h : MB W b c0 c1 c2 c3) (v : Value) : MB (W.setCell ⟨b, 1, none⟩ v) b c0 v c2 c3 := by
  unfold MB at h ⊢
  simp only [World.setCell, Array.getElem?_modify, if_pos, h, Option.map_some]
  simp
theorem blk_over {W W' : World} {b g : Nat} {o : Obj} (h : W.heap[b]? = some o) (hg : W.grownBy W' (some g)) (hne : b ≠ g) : W'.heap[b]? = some o :=
  (hg.block b (Array.getElem?_eq_some_iff.1 h).1 (by simpa using hne)).trans h
theorem results_M {fn : Func} {t : Tmp} (hr : fn.results = #[.cell t 41]) {w : World} {b : Nat} {c0 c1 c2 c3 : Value} (h : MB w b c0 c1 c2 c3) (tmps : Array Value) (ht : tmps.getD t undef = .pointer (some ⟨b, 0, none⟩)) :
    (results fn tmps).run Tryz.prog w = .ok (.agg #[c0, c1, c2, c3]) w := by
  obtain ⟨p0, p1, p2, p3⟩ := h.get
  clear h
  rw [Array.getD_eq_getD_getElem?] at ht
  simp only [results, hr]
  go_simp
def slB (n : Nat) (T : TypeId) (X : Array Value) : SP := ⟨fun v W => ∃ g, v = .slice (some ⟨g, 0, none⟩) n n ∧ W.heap[g]? = some (.cells X T (0, 0)), fun h hE => by
  obtain ⟨g, e, h1⟩ := h
  exact ⟨g, e, blk_ext h1 hE⟩⟩
def edS (id l r : Int) (n : Nat) (X : Array Value) : SP := ⟨fun v W => ∃ g, v = .agg #[.int .i64 id, .slice (some ⟨g, 0, none⟩) n n, .int .i64 l, .int .i64 r] ∧ W.heap[g]? = some (.cells X 73 (0, 0)), fun h hE => by
  obtain ⟨g, e, h1⟩ := h
  exact ⟨g, e, blk_ext h1 hE⟩⟩
def edX (id l r : Int) (g n : Nat) : List Value := [.int .i64 id, .slice (some ⟨g, 0, none⟩) n n, .int .i64 l, .int .i64 r]
def es3 : SP := ⟨fun v W => ∃ gE g1 g2 g3, v = .slice (some ⟨gE, 0, none⟩) 3 3 ∧ W.heap[gE]? = some (.cells (edX 1 5 0 g1 3 ++ edX 2 6 0 g2 3 ++ edX 3 6 5 g3 2).toArray 77 (0, 0)) ∧ W.heap[g1]? = some (.cells (flP exL1) 73 (0, 0)) ∧ W.heap[g2]? = some (.cells (flP exL2) 73 (0, 0)) ∧ W.heap[g3]? = some (.cells (flP exL3) 73 (0, 0)), fun h hE => by
  obtain ⟨gE, g1, g2, g3, e, h0, h1, h2, h3⟩ := h
  exact ⟨gE, g1, g2, g3, e, blk_ext h0 hE, blk_ext h1 hE, blk_ext h2 hE, blk_ext h3 hE⟩⟩
def es1 : SP := ⟨fun v W => ∃ gE g4, v = .slice (some ⟨gE, 0, none⟩) 1 1 ∧ W.heap[gE]? = some (.cells (edX 4 7 5 g4 4).toArray 77 (0, 0)) ∧ W.heap[g4]? = some (.cells (flP exL4) 73 (0, 0)), fun h hE => by
  obtain ⟨gE, g1, e, h0, h1⟩ := h
  exact ⟨gE, g1, e, blk_ext h0 hE, blk_ext h1 hE⟩⟩
theorem ex_b0 {w6 : World} {b0 b4 : Nat} {X : Array Value} {T T' : TypeId} {F : Array Value} {u v : Value} (h : w6.heap[b0]? = some (.cells X T (0, 0))) (hne : b0 ≠ b4) : (((w6.setCell ⟨b4, 0, none⟩ u).alloc (.cells F T')).setCell ⟨b4, 1, none⟩ v).heap[b0]? = some (.cells X T (0, 0)) :=
  blk_over (blk_ext (blk_over h (grownE_set w6 b4 0 u) hne) (Ext.alloc _ _)) (grownE_set _ b4 1 v) hne
theorem app_ed {ops : Array Oper} {rest : List Oper} {o : Oper} {a : Act} {w : World} {Q : Exit → Act → World → Prop} (hgd : o.guard = none) (s x : Tmp)
    (ho : o.op = .call { callee := .builtin .append, args := #[.tmp s, .tmp x], argTypes := #[36, 36] }) (gE gN : Nat) (olds news : List Value) (hl : olds.length = 12) (hn : news.length = 4)
    (hs : a.eval (.tmp s) = .slice (some ⟨gE, 0, none⟩) 3 3) (hx : a.eval (.tmp x) = .slice (some ⟨gN, 0, none⟩) 1 1) (hE : w.heap[gE]? = some (.cells olds.toArray 77 (0, 0))) (hN : w.heap[gN]? = some (.cells news.toArray 77 (0, 0)))
    (h0 : ∀ u ∈ olds, u.oneCell' = true) (h1 : ∀ u ∈ news, u.oneCell' = true)
    (h : ∀ gR c w', (∀ j u, (olds ++ news)[j]? = some u → w'.cell? ⟨gR, j, none⟩ = some u) → w.heap.size ≤ gR → gR < w'.heap.size → 4 ≤ c → Ext w w' → wpList Tryz.prog ops Q rest (a.put o.dst (.slice (some ⟨gR, 0, none⟩) 4 c)) w') : wpList Tryz.prog ops Q (o :: rest) a w := by
  obtain ⟨i0, hi, hz0, hz1, hz2⟩ := info_parts infoEdg
  have ad : ∀ (g j : Nat), (⟨g, 0, none⟩ : Addr).add j = ⟨g, j, none⟩ := fun g j => by cases j <;> simp [Addr.add]
  have cl : ∀ {g : Nat} {cs : List Value}, w.heap[g]? = some (.cells cs.toArray 77 (0, 0)) → ∀ j u, cs[j]? = some u → w.cell? ((⟨g, 0, none⟩ : Addr).add j) = some u := fun {g cs} hg j u hu => by
    rw [ad]; exact cells_of hg j u (by simpa using hu)
  refine wpList_append_grows w hgd _ _ _ ho 77 i0 _ 4 48 Tryz.underlying36 hi hz0 hz1 hz2 rfl (by decide) (some ⟨gE, 0, none⟩) 3 3 olds hs (fun h => by cases h) hl (fun q hq => by cases hq; exact cl hE) ⟨gN, 0, none⟩ 1 1 news hx hn (cl hN) h1 (by decide) (by decide) (by decide) ?_
  intro v' w' h2 h3
  have hX : Ext w w' := Below.grown (Below.refl _ w) h3 (Nat.le_refl _) (by intro k hk; cases hk)
  have hlt := World.ownsRow.lt h2
  rcases h2.2 with ⟨_, h4⟩ | ⟨g, cap, cur, rfl, hb, hg, hnc, hcm, hcs, ht⟩
  · omega
  · refine h g cap w' (fun j u hu => ?_) hb (hlt g rfl).2 hnc hX
    have := World.ownsRow.cells h2 (g := g) rfl j u hu
    rwa [ad] at this
theorem ed_one (id l r : Int) (g n : Nat) : ∀ u ∈ edX id l r g n, u.oneCell' = true := by
  intro u hu
  simp [edX] at hu
  rcases hu with rfl | rfl | rfl | rfl <;> rfl
theorem ed_one3 {a b c : List Value} (ha : ∀ u ∈ a, u.oneCell' = true) (hb : ∀ u ∈ b, u.oneCell' = true) (hc : ∀ u ∈ c, u.oneCell' = true) : ∀ u ∈ a ++ b ++ c, u.oneCell' = true := by
  intro u hu
  rcases List.mem_append.1 hu with hu | hu
  · rcases List.mem_append.1 hu with hu | hu
    · exact ha u hu
    · exact hb u hu
  · exact hc u hu
def nl : Value := .slice none 0 0
theorem ed_row {W : World} {gR : Nat} {cs : List Value} (h : ∀ j u, cs[j]? = some u → W.cell? ⟨gR, j, none⟩ = some u) (hb : gR < W.heap.size) (n k : Nat) (E : Nat → List Value) (hE : ∀ j, j < n → ∀ i v, (E j)[i]? = some v → cs[j * k + i]? = some v) : RowAt W (some ⟨gR, 0, none⟩) n k E := fun j hj =>
  ⟨gR, 0, rfl, hb, fun i v hv => by rw [Nat.zero_add]; exact h _ _ (hE j hj i v hv)⟩
def exA (gR cR g1 g2 g3 g4 gF : Nat) : Ma := { ea := some ⟨gR, 0, none⟩, ec := cR, el := ⟨fun j => some ⟨[g1, g2, g3, g4].getD j 0, 0, none⟩, fun j => [3, 3, 2, 4].getD j 0⟩, fa := some ⟨gF, 0, none⟩, fc := 3, wa := none, wc := 0, wl := ⟨fun _ => none, fun _ => 0⟩, pa := none, pc := 0 }
def exF : Array Value := (exFs.flatMap faC).toArray
theorem ex_map {W : World} {gR cR g1 g2 g3 g4 gF : Nat} (hrow : ∀ j u, ((edX 1 5 0 g1 3 ++ edX 2 6 0 g2 3 ++ edX 3 6 5 g3 2) ++ edX 4 7 5 g4 4)[j]? = some u → W.cell? ⟨gR, j, none⟩ = some u) (hb : gR < W.heap.size)
    (h1 : W.heap[g1]? = some (.cells (flP exL1) 73 (0, 0))) (h2 : W.heap[g2]? = some (.cells (flP exL2) 73 (0, 0))) (h3 : W.heap[g3]? = some (.cells (flP exL3) 73 (0, 0))) (h4 : W.heap[g4]? = some (.cells (flP exL4) 73 (0, 0)))
    (hF : W.heap[gF]? = some (.cells exF 79 (0, 0))) : MpAt W (exA gR cR g1 g2 g3 g4 gF) exM where
  edges := by
    refine ⟨ed_row hrow hb 4 4 _ (fun j hj i v hv => ?_), fun j hj => ?_⟩
    · have hi : i < 4 := (List.getElem?_eq_some_iff.1 hv).1
      obtain rfl | rfl | rfl | rfl : j = 0 ∨ j = 1 ∨ j = 2 ∨ j = 3 := by omega
      all_goals
        obtain rfl | rfl | rfl | rfl : i = 0 ∨ i = 1 ∨ i = 2 ∨ i = 3 := by omega
        all_goals exact hv
    · have hj4 : j < 4 := hj
      obtain rfl | rfl | rfl | rfl : j = 0 ∨ j = 1 ∨ j = 2 ∨ j = 3 := by omega
      · exact ⟨pts_of h1 (fun i hi => by have h3 : i < 3 := hi; obtain rfl | rfl | rfl : i = 0 ∨ i = 1 ∨ i = 2 := by omega
                                         all_goals exact ⟨rfl, rfl⟩), by decide, Nat.le_refl 3⟩
      · exact ⟨pts_of h2 (fun i hi => by have h3 : i < 3 := hi; obtain rfl | rfl | rfl : i = 0 ∨ i = 1 ∨ i = 2 := by omega
                                         all_goals exact ⟨rfl, rfl⟩), by decide, Nat.le_refl 3⟩
      · exact ⟨pts_of h3 (fun i hi => by have h3 : i < 2 := hi; obtain rfl | rfl : i = 0 ∨ i = 1 := by omega
                                         all_goals exact ⟨rfl, rfl⟩), by decide, Nat.le_refl 2⟩
      · exact ⟨pts_of h4 (fun i hi => by have h3 : i < 4 := hi; obtain rfl | rfl | rfl | rfl : i = 0 ∨ i = 1 ∨ i = 2 ∨ i = 3 := by omega
                                         all_goals exact ⟨rfl, rfl⟩), by decide, Nat.le_refl 4⟩
  faces := by
    refine ed_row (cs := exFs.flatMap faC) (fun j u hu => cells_of hF j u (by unfold exF; simpa using hu)) (Array.getElem?_eq_some_iff.1 hF).1 3 5 _ (fun j hj i v hv => ?_)
    have hi : i < 5 := (List.getElem?_eq_some_iff.1 hv).1
    obtain rfl | rfl | rfl : j = 0 ∨ j = 1 ∨ j = 2 := by omega
    all_goals
      obtain rfl | rfl | rfl | rfl | rfl : i = 0 ∨ i = 1 ∨ i = 2 ∨ i = 3 ∨ i = 4 := by omega
      all_goals exact hv
  ways := ⟨RowAt.nil, fun j hj => absurd hj (Nat.not_lt_zero j)⟩
  places := RowAt.nil
  small := by decide
theorem row_over {W W' : World} {g b : Nat} {cs : List Value} (h : ∀ j u, cs[j]? = some u → W.cell? ⟨g, j, none⟩ = some u) (hlt : g < W.heap.size) (hg : W.grownBy W' (some b)) (hne : g ≠ b) : ∀ j u, cs[j]? = some u → W'.cell? ⟨g, j, none⟩ = some u := fun j u hu =>
  (World.cell?_of_block (a := ⟨g, j, none⟩) (hg.block g hlt (by simpa using hne))).trans (h j u hu)
end Go.Proofs.YtompfgofaplffaaGreatDoor

namespace Go.Proofs.YtompfgofaplffaaGreatDoor
open Go.RowKit Hach

set_option maxRecDepth 100000 in
set_option maxHeartbeats 8000000 in
theorem example_any (w : World) : Calls Tryz.prog 12 #[] w fun e w' => (∃ a b o, e = .returned (.agg (a.cells exM).toArray) ∧ MpAt w' a exM ∧ a.fa = some ⟨b, o, none⟩) ∧ Ext w w' := by
  have HP := Lib.hid (fun x y W => expt_any x y W)
  go_enter Tryz.func12, Tryz.ntmps12
  go_wp2_with fail
  refine (HP.out 0 0 _).mono ?_
  rintro r w1 ⟨rfl, hE1⟩
  go_wp2_with fail
  refine (HP.out 10 10 _).mono ?_
  rintro r w2 ⟨rfl, hE2⟩
  go_wp2_with fail
  have hE2' := Ext.trans hE1 hE2
  have hMB0 : MB (w.alloc (.cells #[nl, nl, nl, nl] 41)) w.heap.size nl nl nl nl := Go.heap_alloc_new _ _
  have hV1 := Go.heap_alloc_new w2 (.cells #[.int .i64 0, .int .i64 0] 73)
  have hV2 := Go.heap_alloc_new (w2.alloc (.cells #[.int .i64 0, .int .i64 0] 73)) (.cells #[.int .i64 10, .int .i64 10] 73)
  have hV3 := Go.heap_alloc_new ((w2.alloc (.cells #[.int .i64 0, .int .i64 0] 73)).alloc (.cells #[.int .i64 10, .int .i64 10] 73)) (.cells #[nl, nl, nl, nl] 41)
  simp only [World.size_alloc] at hV2 hV3
  have k2 := blk_ext hV2 (Ext.alloc _ (.cells #[nl, nl, nl, nl] 41))
  have k1 := blk_ext (blk_ext hV1 (Ext.alloc _ (.cells #[.int .i64 10, .int .i64 10] 73))) (Ext.alloc _ (.cells #[nl, nl, nl, nl] 41))
  have hXV : Ext w2 (((w2.alloc (.cells #[.int .i64 0, .int .i64 0] 73)).alloc (.cells #[.int .i64 10, .int .i64 10] 73)).alloc (.cells #[nl, nl, nl, nl] 41)) := Ext.trans (Ext.alloc _ _) (Ext.trans (Ext.alloc _ _) (Ext.alloc _ _))
  obtain ⟨V, hV⟩ : ∃ V, ((w2.alloc (.cells #[.int .i64 0, .int .i64 0] 73)).alloc (.cells #[.int .i64 10, .int .i64 10] 73)).alloc (.cells #[nl, nl, nl, nl] 41) = V := ⟨_, rfl⟩
  rw [hV] at k1 k2 hV3 hXV
  have hB4 : MB V (w2.heap.size + 1 + 1) nl nl nl nl := hV3
  have hB0 : MB V w.heap.size nl nl nl nl := blk_ext hMB0 (Ext.trans hE2' hXV)
  have hXw : Ext w V := Ext.trans (Ext.alloc _ _) (Ext.trans hE2' hXV)
  have hlt0 : w.heap.size < w2.heap.size := by have := hE2'.sz; rw [World.size_alloc] at this; omega
  have HV := Lib.hid hV
  have HQ := Lib.hid (fun W (h : Ext V.drew W) => And.intro (cells_of (blk_ext k1 (Ext.trans (Ext.drew V) h)) 0 _ rfl) (And.intro (cells_of (blk_ext k1 (Ext.trans (Ext.drew V) h)) 1 _ rfl) (And.intro (cells_of (blk_ext k2 (Ext.trans (Ext.drew V) h)) 0 _ rfl) (cells_of (blk_ext k2 (Ext.trans (Ext.drew V) h)) 1 _ rfl))))
  have HB4 := Lib.hid hB4
  have HB0 := Lib.hid hB0
  have HXw := Lib.hid hXw
  have HLT := Lib.hid hlt0
  clear hMB0 hV1 hV2 hV3 k1 k2 hXV hB4 hB0 hXw hlt0 hE2' hE1 hE2
  unfold nl at hV
  rw [hV]
  clear hV
  apply wp_region_seq (l := [_, _, _, _, _, _, _, _, _, _, _, _, _, _, _, _, _]) (t := [_, _]) [some 9, some 10, some 11, some 12, some 13, some 14, some 15, some 16, some 17, some 18, some 19, some 20, some 21, some 22, some 23, some 24, some 25, some 26, none] [[], [], [1], [], [0, 2, 3], [4], [], [], [7], [], [6, 8, 9], [10], [], [], [12, 13], [14], [5, 11, 15], [], [16, 17]] [17, 17, 17, 17, 17, 17, 17, 17, 17, 17, 17, 17, 17, 17, 17, 17, 17] [(eqv (.agg #[.int .i64 0, .int .i64 0])), eqv _, (eqv (.agg #[.int .i64 10, .int .i64 0])), (eqv (.agg #[.int .i64 10, .int .i64 10])), (slB 3 73 (flP exL1)), (edS 1 5 0 3 (flP exL1)), (eqv (.agg #[.int .i64 10, .int .i64 10])), eqv _, (eqv (.agg #[.int .i64 0, .int .i64 10])), (eqv (.agg #[.int .i64 0, .int .i64 0])), (slB 3 73 (flP exL2)), (edS 2 6 0 3 (flP exL2)), (eqv (.agg #[.int .i64 0, .int .i64 0])), (eqv (.agg #[.int .i64 10, .int .i64 10])), (slB 2 73 (flP exL3)), (edS 3 6 5 2 (flP exL3)), (es3)] (by kernel_rfl) (by kernel_rfl) ⟨?o0, ?o1, ?o2, ?o3, ?o4, ?o5, ?o6, ?o7, ?o8, ?o9, ?o10, ?o11, ?o12, ?o13, ?o14, ?o15, ?o16, trivial⟩ ?last
  case o0 => -- Op.load 73 (Operand.tmp 2)
    intro xv W hE _
    obtain ⟨a0, a1, b0, b1⟩ := HQ.out W hE
    simp only [putD, List.foldl_nil, List.getD_cons_zero]
    refine OpGoal.plain ?_
    go_wp2_with fail
    exact ⟨rfl, Ext.refl _, rfl⟩
  case o1 => -- Op.move (Operand.tmp 1)
    intro xv W hE _
    simp only [putD, List.foldl_nil, List.getD_cons_zero, List.getD_cons_succ]
    refine OpGoal.plain ?_
    go_wp2_with fail
    exact ⟨rfl, Ext.refl _, rfl⟩
  case o2 => -- Op.call { callee := Callee.value (Operand.tmp 10), args := #[Operand.const (Valu
    intro xv W hE hp
    have r1 : xv 1 = _ := hp.1
    clear hp
    simp only [putD, List.foldl_nil, List.foldl_cons, List.getD_cons_zero, List.getD_cons_succ, Act.put, List.setIfInBounds_toArray, List.set_cons_zero, List.set_cons_succ]
    refine OpGoal.plain ?_
    go_wp2_with fail
    refine (HP.out 10 0 W).mono ?_
    rintro r W' ⟨rfl, hE'⟩
    go_wp2_with fail
    exact ⟨rfl, hE', rfl⟩
  case o3 => -- Op.load 73 (Operand.tmp 3)
    intro xv W hE _
    obtain ⟨a0, a1, b0, b1⟩ := HQ.out W hE
    simp only [putD, List.foldl_nil, List.getD_cons_zero, List.getD_cons_succ]
    refine OpGoal.plain ?_
    go_wp2_with fail
    exact ⟨rfl, Ext.refl _, rfl⟩
  case o4 => -- Op.buildSlice 75 3 #[(0, Operand.tmp 9), (1, Operand.tmp 11), (2, Operand.tmp 12
    intro xv W hE hp
    have r0 : xv 0 = _ := hp.1
    have r2 : xv 2 = _ := hp.2.1
    have r3 : xv 3 = _ := hp.2.2.1
    clear hp
    simp only [putD, List.foldl_nil, List.foldl_cons, List.getD_cons_zero, List.getD_cons_succ, Act.put, List.setIfInBounds_toArray, List.set_cons_zero, List.set_cons_succ]
    refine OpGoal.plain ?_
    go_wp2_with fail
    exact ⟨rfl, Ext.alloc _ _, W.heap.size, rfl, Go.heap_alloc_new _ _⟩
  case o5 => -- Op.build 77 #[(0, Operand.const (Value.int IntKind.i64 1)), (1, Operand.tmp 13),
    intro xv W hE hp
    obtain ⟨g4, r4, h4⟩ := hp.1
    clear hp
    simp only [putD, List.foldl_nil, List.foldl_cons, List.getD_cons_zero, List.getD_cons_succ, Act.put, List.setIfInBounds_toArray, List.set_cons_zero, List.set_cons_succ]
    refine OpGoal.plain ?_
    go_wp2_with fail
    exact ⟨rfl, Ext.refl _, g4, rfl, h4⟩
  case o6 => -- Op.load 73 (Operand.tmp 3)
    intro xv W hE _
    obtain ⟨a0, a1, b0, b1⟩ := HQ.out W hE
    simp only [putD, List.foldl_nil, List.getD_cons_zero, List.getD_cons_succ]
    refine OpGoal.plain ?_
    go_wp2_with fail
    exact ⟨rfl, Ext.refl _, rfl⟩
  case o7 => -- Op.move (Operand.tmp 1)
    intro xv W hE _
    simp only [putD, List.foldl_nil, List.getD_cons_zero, List.getD_cons_succ]
    refine OpGoal.plain ?_
    go_wp2_with fail
    exact ⟨rfl, Ext.refl _, rfl⟩
  case o8 => -- Op.call { callee := Callee.value (Operand.tmp 16), args := #[Operand.const (Valu
    intro xv W hE hp
    have r7 : xv 7 = _ := hp.1
    clear hp
    simp only [putD, List.foldl_nil, List.foldl_cons, List.getD_cons_zero, List.getD_cons_succ, Act.put, List.setIfInBounds_toArray, List.set_cons_zero, List.set_cons_succ]
    refine OpGoal.plain ?_
    go_wp2_with fail
    refine (HP.out 0 10 W).mono ?_
    rintro r W' ⟨rfl, hE'⟩
    go_wp2_with fail
    exact ⟨rfl, hE', rfl⟩
  case o9 => -- Op.load 73 (Operand.tmp 2)
    intro xv W hE _
    obtain ⟨a0, a1, b0, b1⟩ := HQ.out W hE
    simp only [putD, List.foldl_nil, List.getD_cons_zero, List.getD_cons_succ]
    refine OpGoal.plain ?_
    go_wp2_with fail
    exact ⟨rfl, Ext.refl _, rfl⟩
  case o10 => -- Op.buildSlice 75 3 #[(0, Operand.tmp 15), (1, Operand.tmp 17), (2, Operand.tmp 1
    intro xv W hE hp
    have r6 : xv 6 = _ := hp.1
    have r8 : xv 8 = _ := hp.2.1
    have r9 : xv 9 = _ := hp.2.2.1
    clear hp
    simp only [putD, List.foldl_nil, List.foldl_cons, List.getD_cons_zero, List.getD_cons_succ, Act.put, List.setIfInBounds_toArray, List.set_cons_zero, List.set_cons_succ]
    refine OpGoal.plain ?_
    go_wp2_with fail
    exact ⟨rfl, Ext.alloc _ _, W.heap.size, rfl, Go.heap_alloc_new _ _⟩
  case o11 => -- Op.build 77 #[(0, Operand.const (Value.int IntKind.i64 2)), (1, Operand.tmp 19),
    intro xv W hE hp
    obtain ⟨g10, r10, h10⟩ := hp.1
    clear hp
    simp only [putD, List.foldl_nil, List.foldl_cons, List.getD_cons_zero, List.getD_cons_succ, Act.put, List.setIfInBounds_toArray, List.set_cons_zero, List.set_cons_succ]
    refine OpGoal.plain ?_
    go_wp2_with fail
    exact ⟨rfl, Ext.refl _, g10, rfl, h10⟩
  case o12 => -- Op.load 73 (Operand.tmp 2)
    intro xv W hE _
    obtain ⟨a0, a1, b0, b1⟩ := HQ.out W hE
    simp only [putD, List.foldl_nil, List.getD_cons_zero, List.getD_cons_succ]
    refine OpGoal.plain ?_
    go_wp2_with fail
    exact ⟨rfl, Ext.refl _, rfl⟩
  case o13 => -- Op.load 73 (Operand.tmp 3)
    intro xv W hE _
    obtain ⟨a0, a1, b0, b1⟩ := HQ.out W hE
    simp only [putD, List.foldl_nil, List.getD_cons_zero, List.getD_cons_succ]
    refine OpGoal.plain ?_
    go_wp2_with fail
    exact ⟨rfl, Ext.refl _, rfl⟩
  case o14 => -- Op.buildSlice 75 2 #[(0, Operand.tmp 21), (1, Operand.tmp 22)]
    intro xv W hE hp
    have r12 : xv 12 = _ := hp.1
    have r13 : xv 13 = _ := hp.2.1
    clear hp
    simp only [putD, List.foldl_nil, List.foldl_cons, List.getD_cons_zero, List.getD_cons_succ, Act.put, List.setIfInBounds_toArray, List.set_cons_zero, List.set_cons_succ]
    refine OpGoal.plain ?_
    go_wp2_with fail
    exact ⟨rfl, Ext.alloc _ _, W.heap.size, rfl, Go.heap_alloc_new _ _⟩
  case o15 => -- Op.build 77 #[(0, Operand.const (Value.int IntKind.i64 3)), (1, Operand.tmp 23),
    intro xv W hE hp
    obtain ⟨g14, r14, h14⟩ := hp.1
    clear hp
    simp only [putD, List.foldl_nil, List.foldl_cons, List.getD_cons_zero, List.getD_cons_succ, Act.put, List.setIfInBounds_toArray, List.set_cons_zero, List.set_cons_succ]
    refine OpGoal.plain ?_
    go_wp2_with fail
    exact ⟨rfl, Ext.refl _, g14, rfl, h14⟩
  case o16 => -- Op.buildSlice 36 3 #[(0, Operand.tmp 14), (1, Operand.tmp 20), (2, Operand.tmp 2
    intro xv W hE hp
    obtain ⟨g5, r5, h5⟩ := hp.1
    obtain ⟨g11, r11, h11⟩ := hp.2.1
    obtain ⟨g15, r15, h15⟩ := hp.2.2.1
    clear hp
    simp only [putD, List.foldl_nil, List.foldl_cons, List.getD_cons_zero, List.getD_cons_succ, Act.put, List.setIfInBounds_toArray, List.set_cons_zero, List.set_cons_succ]
    refine OpGoal.plain ?_
    go_wp2_with fail
    exact ⟨rfl, Ext.alloc _ _, W.heap.size, g5, g11, g15, rfl, Go.heap_alloc_new _ _, blk_ext h5 (Ext.alloc _ _), blk_ext h11 (Ext.alloc _ _), blk_ext h15 (Ext.alloc _ _)⟩
  case last =>
    intro xv W hE hp
    have r0 : xv 0 = _ := hp.1
    have r1 : xv 1 = _ := hp.2.1
    have r2 : xv 2 = _ := hp.2.2.1
    have r3 : xv 3 = _ := hp.2.2.2.1
    obtain ⟨g4, r4, h4⟩ := hp.2.2.2.2.1
    obtain ⟨g5, r5, h5⟩ := hp.2.2.2.2.2.1
    have r6 : xv 6 = _ := hp.2.2.2.2.2.2.1
    have r7 : xv 7 = _ := hp.2.2.2.2.2.2.2.1
    have r8 : xv 8 = _ := hp.2.2.2.2.2.2.2.2.1
    have r9 : xv 9 = _ := hp.2.2.2.2.2.2.2.2.2.1
    obtain ⟨g10, r10, h10⟩ := hp.2.2.2.2.2.2.2.2.2.2.1
    obtain ⟨g11, r11, h11⟩ := hp.2.2.2.2.2.2.2.2.2.2.2.1
    have r12 : xv 12 = _ := hp.2.2.2.2.2.2.2.2.2.2.2.2.1
    have r13 : xv 13 = _ := hp.2.2.2.2.2.2.2.2.2.2.2.2.2.1
    obtain ⟨g14, r14, h14⟩ := hp.2.2.2.2.2.2.2.2.2.2.2.2.2.2.1
    obtain ⟨g15, r15, h15⟩ := hp.2.2.2.2.2.2.2.2.2.2.2.2.2.2.2.1
    obtain ⟨gE, g1, g2, g3, r16, hgE, hg1, hg2, hg3⟩ := hp.2.2.2.2.2.2.2.2.2.2.2.2.2.2.2.2.1
    clear hp
    simp only [putD, List.foldl_nil, List.foldl_cons, List.getD_cons_zero, List.getD_cons_succ, Act.put, List.length_cons, List.length_nil, List.range_succ, List.range_zero, List.nil_append, List.cons_append, List.setIfInBounds_toArray, List.set_cons_zero, List.set_cons_succ]
    simp only [r16]
    have hX := Ext.trans (Ext.drew V) hE
    have hB4 := HB4.out
    have hM4 := blk_ext hB4 hX
    have hM0 := blk_ext HB0.out hX
    have f4 := MB.fro hM4 0
    obtain ⟨m0, m1, m2, m3⟩ := MB.get hM4
    have hs := grownE_set W (w2.heap.size + 1 + 1) 0 (.slice (some ⟨gE, 0, none⟩) 3 3)
    have hne : ∀ (g : Nat) (X : Array Value) (T : TypeId), T ≠ 41 → W.heap[g]? = some (.cells X T (0, 0)) → g ≠ w2.heap.size + 1 + 1 := fun g X T hT h e => by
      subst e
      have hM4' : W.heap[w2.heap.size + 1 + 1]? = _ := hM4
      rw [hM4'] at h
      simp only [Option.some.injEq, Obj.cells.injEq] at h
      exact hT h.2.1.symm
    have HgE := Lib.hid (blk_over hgE hs (hne _ _ _ (by decide) hgE))
    have Hg1 := Lib.hid (blk_over hg1 hs (hne _ _ _ (by decide) hg1))
    have Hg2 := Lib.hid (blk_over hg2 hs (hne _ _ _ (by decide) hg2))
    have Hg3 := Lib.hid (blk_over hg3 hs (hne _ _ _ (by decide) hg3))
    have HM4 := Lib.hid (MB.set0 hM4 (.slice (some ⟨gE, 0, none⟩) 3 3))
    have HM0 := Lib.hid (blk_over hM0 hs (by have := HLT.out; omega))
    have HXX := Lib.hid (Ext.grow_ge (Ext.trans HXw.out hX) hs (fun b e => by simp only [Option.some.injEq] at e; have := HLT.out; omega))
    clear r0 r1 r2 r3 r4 r5 r6 r7 r8 r9 r10 r11 r12 r13 r14 r15 r16 h4 h5 h10 h11 h14 h15 hgE hg1 hg2 hg3 hne hs hM4 hM0 hX hB4 hE
    go_wp2_with fail
    obtain ⟨V5, hV5⟩ : ∃ V5, W.setCell ⟨w2.heap.size + 1 + 1, 0, none⟩ (.slice (some ⟨gE, 0, none⟩) 3 3) = V5 := ⟨_, rfl⟩
    rw [hV5] at HgE Hg1 Hg2 Hg3 HM4 HM0 HXX
    rw [hV5]
    have HM4' := Lib.hid (fun U (h : Ext V5.drew U) => MB.get (show MB U _ _ _ _ _ from blk_ext HM4.out (Ext.trans (Ext.drew V5) h)))
    clear hV5 f4 m0 m1 m2 m3
    apply wp_region_seq (l := [_, _, _, _, _, _, _, _, _, _, _, _, _]) (t := [_, _, _]) [some 27, some 28, some 29, some 30, some 31, some 32, some 33, some 34, some 35, some 36, some 37, some 38, some 39, some 40, some 41, none] [[], [0], [], [2], [], [4], [], [6], [], [8], [3, 5, 7, 9], [10], [11], [1, 12], [], [13, 14]] [1, 13, 3, 10, 5, 10, 7, 10, 9, 13, 11, 12, 13] [eqv _, (eqv (.slice (some ⟨gE, 0, none⟩) 3 3)), eqv _, (eqv (.agg #[.int .i64 4, .int .i64 1])), eqv _, (eqv (.agg #[.int .i64 6, .int .i64 1])), eqv _, (eqv (.agg #[.int .i64 6, .int .i64 3])), eqv _, (eqv (.agg #[.int .i64 4, .int .i64 1])), (slB 4 73 (flP exL4)), (edS 4 7 5 4 (flP exL4)), (es1)] (by kernel_rfl) (by kernel_rfl) ⟨?o0, ?o1, ?o2, ?o3, ?o4, ?o5, ?o6, ?o7, ?o8, ?o9, ?o10, ?o11, ?o12, trivial⟩ ?last
    case o0 => -- Op.fieldAddr 41 (Operand.tmp 4) 0
      intro xv W5 hE _
      simp only [putD, List.foldl_nil, List.getD_cons_zero]
      refine OpGoal.plain ?_
      go_wp2_with fail
      exact ⟨rfl, Ext.refl _, rfl⟩
    case o1 => -- Op.load 36 (Operand.tmp 27)
      intro xv W5 hE hp
      have r0 : xv 0 = _ := hp.1
      clear hp
      obtain ⟨m0, _, _, _⟩ := HM4'.out W5 hE
      simp only [putD, List.foldl_nil, List.foldl_cons, List.getD_cons_zero, List.getD_cons_succ, Act.put, List.setIfInBounds_toArray, List.set_cons_zero, List.set_cons_succ]
      refine OpGoal.plain ?_
      go_wp2_with fail
      exact ⟨rfl, Ext.refl _, rfl⟩
    case o2 => -- Op.move (Operand.tmp 1)
      intro xv W5 hE _
      simp only [putD, List.foldl_nil, List.getD_cons_zero, List.getD_cons_succ]
      refine OpGoal.plain ?_
      go_wp2_with fail
      exact ⟨rfl, Ext.refl _, rfl⟩
    case o3 => -- Op.call { callee := Callee.value (Operand.tmp 29), args := #[Operand.const (Valu
      intro xv W5 hE hp
      have r2 : xv 2 = _ := hp.1
      clear hp
      simp only [putD, List.foldl_nil, List.foldl_cons, List.getD_cons_zero, List.getD_cons_succ, Act.put, List.setIfInBounds_toArray, List.set_cons_zero, List.set_cons_succ]
      refine OpGoal.plain ?_
      go_wp2_with fail
      refine (HP.out 4 1 W5).mono ?_
      rintro r W' ⟨rfl, hE'⟩
      go_wp2_with fail
      exact ⟨rfl, hE', rfl⟩
    case o4 => -- Op.move (Operand.tmp 1)
      intro xv W5 hE _
      simp only [putD, List.foldl_nil, List.getD_cons_zero, List.getD_cons_succ]
      refine OpGoal.plain ?_
      go_wp2_with fail
      exact ⟨rfl, Ext.refl _, rfl⟩
    case o5 => -- Op.call { callee := Callee.value (Operand.tmp 31), args := #[Operand.const (Valu
      intro xv W5 hE hp
      have r4 : xv 4 = _ := hp.1
      clear hp
      simp only [putD, List.foldl_nil, List.foldl_cons, List.getD_cons_zero, List.getD_cons_succ, Act.put, List.setIfInBounds_toArray, List.set_cons_zero, List.set_cons_succ]
      refine OpGoal.plain ?_
      go_wp2_with fail
      refine (HP.out 6 1 W5).mono ?_
      rintro r W' ⟨rfl, hE'⟩
      go_wp2_with fail
      exact ⟨rfl, hE', rfl⟩
    case o6 => -- Op.move (Operand.tmp 1)
      intro xv W5 hE _
      simp only [putD, List.foldl_nil, List.getD_cons_zero, List.getD_cons_succ]
      refine OpGoal.plain ?_
      go_wp2_with fail
      exact ⟨rfl, Ext.refl _, rfl⟩
    case o7 => -- Op.call { callee := Callee.value (Operand.tmp 33), args := #[Operand.const (Valu
      intro xv W5 hE hp
      have r6 : xv 6 = _ := hp.1
      clear hp
      simp only [putD, List.foldl_nil, List.foldl_cons, List.getD_cons_zero, List.getD_cons_succ, Act.put, List.setIfInBounds_toArray, List.set_cons_zero, List.set_cons_succ]
      refine OpGoal.plain ?_
      go_wp2_with fail
      refine (HP.out 6 3 W5).mono ?_
      rintro r W' ⟨rfl, hE'⟩
      go_wp2_with fail
      exact ⟨rfl, hE', rfl⟩
    case o8 => -- Op.move (Operand.tmp 1)
      intro xv W5 hE _
      simp only [putD, List.foldl_nil, List.getD_cons_zero, List.getD_cons_succ]
      refine OpGoal.plain ?_
      go_wp2_with fail
      exact ⟨rfl, Ext.refl _, rfl⟩
    case o9 => -- Op.call { callee := Callee.value (Operand.tmp 35), args := #[Operand.const (Valu
      intro xv W5 hE hp
      have r8 : xv 8 = _ := hp.1
      clear hp
      simp only [putD, List.foldl_nil, List.foldl_cons, List.getD_cons_zero, List.getD_cons_succ, Act.put, List.setIfInBounds_toArray, List.set_cons_zero, List.set_cons_succ]
      refine OpGoal.plain ?_
      go_wp2_with fail
      refine (HP.out 4 1 W5).mono ?_
      rintro r W' ⟨rfl, hE'⟩
      go_wp2_with fail
      exact ⟨rfl, hE', rfl⟩
    case o10 => -- Op.buildSlice 75 4 #[(0, Operand.tmp 30), (1, Operand.tmp 32), (2, Operand.tmp 3
      intro xv W5 hE hp
      have r3 : xv 3 = _ := hp.1
      have r5 : xv 5 = _ := hp.2.1
      have r7 : xv 7 = _ := hp.2.2.1
      have r9 : xv 9 = _ := hp.2.2.2.1
      clear hp
      simp only [putD, List.foldl_nil, List.foldl_cons, List.getD_cons_zero, List.getD_cons_succ, Act.put, List.setIfInBounds_toArray, List.set_cons_zero, List.set_cons_succ]
      refine OpGoal.plain ?_
      go_wp2_with fail
      exact ⟨rfl, Ext.alloc _ _, W5.heap.size, rfl, Go.heap_alloc_new _ _⟩
    case o11 => -- Op.build 77 #[(0, Operand.const (Value.int IntKind.i64 4)), (1, Operand.tmp 37),
      intro xv W5 hE hp
      obtain ⟨n10, r10, h10⟩ := hp.1
      clear hp
      simp only [putD, List.foldl_nil, List.foldl_cons, List.getD_cons_zero, List.getD_cons_succ, Act.put, List.setIfInBounds_toArray, List.set_cons_zero, List.set_cons_succ]
      refine OpGoal.plain ?_
      go_wp2_with fail
      exact ⟨rfl, Ext.refl _, n10, rfl, h10⟩
    case o12 => -- Op.buildSlice 36 1 #[(0, Operand.tmp 38)]
      intro xv W5 hE hp
      obtain ⟨n11, r11, h11⟩ := hp.1
      clear hp
      simp only [putD, List.foldl_nil, List.foldl_cons, List.getD_cons_zero, List.getD_cons_succ, Act.put, List.setIfInBounds_toArray, List.set_cons_zero, List.set_cons_succ]
      refine OpGoal.plain ?_
      go_wp2_with fail
      exact ⟨rfl, Ext.alloc _ _, W5.heap.size, n11, rfl, Go.heap_alloc_new _ _, blk_ext h11 (Ext.alloc _ _)⟩
    case last =>
      intro xv W5 hE hp
      have r0 : xv 0 = _ := hp.1
      have r1 : xv 1 = _ := hp.2.1
      have r2 : xv 2 = _ := hp.2.2.1
      have r3 : xv 3 = _ := hp.2.2.2.1
      have r4 : xv 4 = _ := hp.2.2.2.2.1
      have r5 : xv 5 = _ := hp.2.2.2.2.2.1
      have r6 : xv 6 = _ := hp.2.2.2.2.2.2.1
      have r7 : xv 7 = _ := hp.2.2.2.2.2.2.2.1
      have r8 : xv 8 = _ := hp.2.2.2.2.2.2.2.2.1
      have r9 : xv 9 = _ := hp.2.2.2.2.2.2.2.2.2.1
      obtain ⟨n10, r10, h10⟩ := hp.2.2.2.2.2.2.2.2.2.2.1
      obtain ⟨n11, r11, h11⟩ := hp.2.2.2.2.2.2.2.2.2.2.2.1
      obtain ⟨nE, n4, r12, hnE, hn4⟩ := hp.2.2.2.2.2.2.2.2.2.2.2.2.1
      clear hp
      simp only [putD, List.foldl_nil, List.foldl_cons, List.getD_cons_zero, List.getD_cons_succ, Act.put, List.length_cons, List.length_nil, List.range_succ, List.range_zero, List.nil_append, List.cons_append, List.setIfInBounds_toArray, List.set_cons_zero, List.set_cons_succ]
      simp only [r1, r12]
      have hX5 := Ext.trans (Ext.drew V5) hE
      have HX5 := Lib.hid (Ext.trans HXX.out hX5)
      have HgE5 := Lib.hid (blk_ext HgE.out hX5)
      have Hg15 := Lib.hid (blk_ext Hg1.out hX5)
      have Hg25 := Lib.hid (blk_ext Hg2.out hX5)
      have Hg35 := Lib.hid (blk_ext Hg3.out hX5)
      have HM45 := Lib.hid (blk_ext HM4.out hX5)
      have HM05 := Lib.hid (blk_ext HM0.out hX5)
      have HnE := Lib.hid hnE
      have Hn4 := Lib.hid hn4
      clear r0 r1 r2 r3 r4 r5 r6 r7 r8 r9 r10 r11 r12 h10 h11 hE hX5 hnE hn4 HgE Hg1 Hg2 Hg3 HM4 HM0 HXX HM4' HQ HB4 HB0 HXw HV
      go_upto_region 7 with (refine app_ed rfl 28 39 rfl gE nE _ _ rfl rfl rfl rfl HgE5.out HnE.out (ed_one3 (ed_one _ _ _ _ _) (ed_one _ _ _ _ _) (ed_one _ _ _ _ _)) (ed_one _ _ _ _ _) ?_; intro gR cR w6 hR lo6 lt6 hc6 hE6; obtain ⟨m0, m1, m2, m3⟩ := MB.get (show MB w6 _ _ _ _ _ from blk_ext HM45.out hE6); have fm0 := MB.fro (show MB w6 _ _ _ _ _ from blk_ext HM45.out hE6) 0; have fm1 := MB.fro (show MB w6 _ _ _ _ _ from blk_ext HM45.out hE6) 1; have l4 : w2.heap.size + 1 + 1 < w6.heap.size := (Array.getElem?_eq_some_iff.1 (blk_ext HM45.out hE6)).1)
      have hpt : ∀ (g : Nat) (X : Array Value), W5.heap[g]? = some (.cells X 73 (0, 0)) → g ≠ w2.heap.size + 1 + 1 ∧ g ≠ w.heap.size := fun g X h => by
        constructor
        · intro e; subst e
          rw [HM45.out] at h
          simp at h
        · intro e; subst e
          rw [HM05.out] at h
          simp at h
      have hgw : w6.grownBy ((w6.setCell ⟨w2.heap.size + 1 + 1, 0, none⟩ (.slice (some ⟨gR, 0, none⟩) 4 cR)).setCell ⟨w2.heap.size + 1 + 1, 1, none⟩ (.slice (some ⟨w6.heap.size, 0, none⟩) 3 3)) (some (w2.heap.size + 1 + 1)) := grownE_trans (grownE_set _ _ _ _) (grownE_set _ _ _ _)
      have hB4U : MB ((w6.setCell ⟨w2.heap.size + 1 + 1, 0, none⟩ (.slice (some ⟨gR, 0, none⟩) 4 cR)).setCell ⟨w2.heap.size + 1 + 1, 1, none⟩ (.slice (some ⟨w6.heap.size, 0, none⟩) 3 3)) (w2.heap.size + 1 + 1) _ _ _ _ := MB.set1 (MB.set0 (show MB w6 _ _ _ _ _ from blk_ext HM45.out hE6) _) _
      have hB0U := blk_over (blk_ext HM05.out hE6) hgw (by have := HLT.out; omega)
      have hX6 : Ext w ((w6.setCell ⟨w2.heap.size + 1 + 1, 0, none⟩ (.slice (some ⟨gR, 0, none⟩) 4 cR)).setCell ⟨w2.heap.size + 1 + 1, 1, none⟩ (.slice (some ⟨w6.heap.size, 0, none⟩) 3 3)) := Ext.grow_ge (Ext.trans HX5.out hE6) hgw (fun b e => by simp only [Option.some.injEq] at e; have := HLT.out; omega)
      have hb4 : w2.heap.size + 1 + 1 < W5.heap.size := (Array.getElem?_eq_some_iff.1 HM45.out).1
      have hRU := row_over hR lt6 hgw (by omega)
      have hlU : gR < ((w6.setCell ⟨w2.heap.size + 1 + 1, 0, none⟩ (.slice (some ⟨gR, 0, none⟩) 4 cR)).setCell ⟨w2.heap.size + 1 + 1, 1, none⟩ (.slice (some ⟨w6.heap.size, 0, none⟩) 3 3)).heap.size := Nat.lt_of_lt_of_le lt6 hgw.size
      have u1 := blk_over (blk_ext Hg15.out hE6) hgw (hpt _ _ Hg15.out).1
      have u2 := blk_over (blk_ext Hg25.out hE6) hgw (hpt _ _ Hg25.out).1
      have u3 := blk_over (blk_ext Hg35.out hE6) hgw (hpt _ _ Hg35.out).1
      have u4 := blk_over (blk_ext Hn4.out hE6) hgw (hpt _ _ Hn4.out).1
      have hsz : ((w6.setCell ⟨w2.heap.size + 1 + 1, 0, none⟩ (.slice (some ⟨gR, 0, none⟩) 4 cR)).setCell ⟨w2.heap.size + 1 + 1, 1, none⟩ (.slice (some ⟨w6.heap.size, 0, none⟩) 3 3)).heap.size = w6.heap.size := by simp [World.setCell]
      have hF := Go.heap_alloc_new ((w6.setCell ⟨w2.heap.size + 1 + 1, 0, none⟩ (.slice (some ⟨gR, 0, none⟩) 4 cR)).setCell ⟨w2.heap.size + 1 + 1, 1, none⟩ (.slice (some ⟨w6.heap.size, 0, none⟩) 3 3)) (.cells exF 79)
      have hXA := Ext.alloc ((w6.setCell ⟨w2.heap.size + 1 + 1, 0, none⟩ (.slice (some ⟨gR, 0, none⟩) 4 cR)).setCell ⟨w2.heap.size + 1 + 1, 1, none⟩ (.slice (some ⟨w6.heap.size, 0, none⟩) 3 3)) (.cells exF 79)
      rw [hsz] at hF
      obtain ⟨U, hU⟩ : ∃ U, ((w6.setCell ⟨w2.heap.size + 1 + 1, 0, none⟩ (.slice (some ⟨gR, 0, none⟩) 4 cR)).setCell ⟨w2.heap.size + 1 + 1, 1, none⟩ (.slice (some ⟨w6.heap.size, 0, none⟩) 3 3)).alloc (.cells exF 79) = U := ⟨_, rfl⟩
      rw [hU] at hF hXA
      have hB4V := MB.get (show MB U _ _ _ _ _ from blk_ext hB4U hXA)
      have HB0V := Lib.hid (blk_ext hB0U hXA)
      have HRV := Lib.hid (fun j u hu => cell_ext hXA (hRU j u hu))
      have HlV := Lib.hid (Nat.lt_of_lt_of_le hlU hXA.sz)
      have HV1 := Lib.hid (blk_ext u1 hXA)
      have HV2 := Lib.hid (blk_ext u2 hXA)
      have HV3 := Lib.hid (blk_ext u3 hXA)
      have HV4 := Lib.hid (blk_ext u4 hXA)
      have HF := Lib.hid hF
      have HXU := Lib.hid (Ext.trans hX6 hXA)
      have HN1 := Lib.hid (hpt _ _ Hg15.out).2
      have HN2 := Lib.hid (hpt _ _ Hg25.out).2
      have HN3 := Lib.hid (hpt _ _ Hg35.out).2
      have HN4 := Lib.hid (hpt _ _ Hn4.out).2
      have HNR : Hid (gR ≠ w.heap.size) := Lib.hid (by have := HLT.out; omega)
      have HNF : Hid (w6.heap.size ≠ w.heap.size) := Lib.hid (by have := HLT.out; omega)
      clear hpt hgw hB4U hB0U hX6 hb4 hRU hlU u1 u2 u3 u4 hsz hF hXA m0 m1 m2 m3 fm0 fm1 l4 hE6 hR lo6 lt6 hc6 HX5 HgE5 Hg15 Hg25 Hg35 HM45 HM05 HnE Hn4
      obtain ⟨m0, m1, m2, m3⟩ := hB4V
      unfold exF exFs at hU
      rw [show ((w6.setCell ⟨w2.heap.size + 1 + 1, 0, none⟩ (.slice (some ⟨gR, 0, none⟩) 4 cR)).setCell ⟨w2.heap.size + 1 + 1, 1, none⟩ (.slice (some ⟨w6.heap.size, 0, none⟩) 3 3)).alloc (.cells #[.int .i64 5, .string ⟨#[102, 105, 101, 108, 100]⟩, .string ⟨#[]⟩, .int .i64 9, .int .i64 2, .int .i64 6, .string ⟨#[102, 105, 101, 108, 100]⟩, .string ⟨#[77, 111, 111, 114]⟩, .int .i64 250, .int .i64 2, .int .i64 7, .string ⟨#[108, 97, 107, 101]⟩, .string ⟨#[72, 111, 108, 109]⟩, .int .i64 1, .int .i64 2] 79) = U from hU]
      clear hU
      go_wp2_with (refine store_TE 41 41 w.heap.size [nl, nl, nl, nl] [.slice (some ⟨gR, 0, none⟩) 4 cR, .slice (some ⟨w6.heap.size, 0, none⟩) 3 3, nl, nl] HB0V.out rfl (by kernel_rfl) (by intro v hv; simp at hv; rcases hv with rfl | rfl | rfl <;> rfl) rfl (.tmp 0) (.tmp 47) rfl rfl rfl ?_; intro w9 h9 hg9)
      refine bodyPost_ret (results_M rfl h9 _ rfl) rfl ⟨⟨exA gR cR g1 g2 g3 n4 w6.heap.size, w6.heap.size, 0, rfl, ex_map (row_over HRV.out HlV.out hg9 HNR.out) (Nat.lt_of_lt_of_le HlV.out hg9.size) (blk_over HV1.out hg9 HN1.out) (blk_over HV2.out hg9 HN2.out) (blk_over HV3.out hg9 HN3.out) (blk_over HV4.out hg9 HN4.out) (blk_over HF.out hg9 HNF.out), rfl⟩, Ext.grow_ge HXU.out hg9 (fun b e => by simp only [Option.some.injEq] at e; omega)⟩
end Go.Proofs.YtompfgofaplffaaGreatDoor

namespace Go.Proofs.YtompfgofaplffaaGreatDoor
open Go.RowKit Hach Go.Sort

def exS : List Ev := [⟨2, 4, 7, 5, 0⟩, ⟨2, 36, 5, 6, 0⟩, ⟨2, 1000, 6, 5, 0⟩]
theorem exIds : idsF exM.faces = [5, 6, 7] := by
  unfold idsF
  show ([5, 6, 7] : List Int).mergeSort _ = _
  exact List.mergeSort_of_pairwise (by decide)
theorem exLens : lenLn exL1 = 20 ∧ lenLn exL2 = 20 ∧ lenLn exL3 = 14 ∧ lenLn exL4 = 6 := by decide +kernel
theorem exSum (x y : Int) (k : Nat) (hk : k ≤ 4) : 0 ≤ sumB exEs x y k ∧ sumB exEs x y k ≤ 4611686018427387904 := by
  obtain ⟨h1, h2, h3, h4⟩ := exLens
  have key : ∀ k, k ≤ 4 → 0 ≤ sumB exEs x y k ∧ sumB exEs x y k ≤ 100 * (k : Int) := by
    intro k
    induction k with
    | zero => intro _; exact ⟨Int.le_refl _, Int.le_refl _⟩
    | succ k ih =>
      intro hk
      have := ih (by omega)
      have hl : 0 ≤ lenLn (ed exEs k).line ∧ lenLn (ed exEs k).line ≤ 100 := by
        obtain rfl | rfl | rfl | rfl : k = 0 ∨ k = 1 ∨ k = 2 ∨ k = 3 := by omega
        · show 0 ≤ lenLn exL1 ∧ lenLn exL1 ≤ 100; omega
        · show 0 ≤ lenLn exL2 ∧ lenLn exL2 ≤ 100; omega
        · show 0 ≤ lenLn exL3 ∧ lenLn exL3 ≤ 100; omega
        · show 0 ≤ lenLn exL4 ∧ lenLn exL4 ≤ 100; omega
      unfold sumB
      split <;> omega
  have := key k hk
  omega
theorem exFuse : FuseOk exM 2 where
  ap := fun i j hij hj => by
    have hj3 : j < 3 := hj
    obtain ⟨rfl, rfl⟩ | ⟨rfl, rfl⟩ | ⟨rfl, rfl⟩ : (i = 0 ∧ j = 1) ∨ (i = 0 ∧ j = 2) ∨ (i = 1 ∧ j = 2) := by omega
    all_goals decide
  dis := fun i hi => by
    have h3 : i < 3 := hi
    obtain rfl | rfl | rfl : i = 0 ∨ i = 1 ∨ i = 2 := by omega
    all_goals rfl
  pos := by decide
  some_ := by decide
  few := by decide
  elen := by decide
  nm := fun i j hi hj => by
    have h3 : i < 3 := hi
    have h4 : j < 3 := hj
    obtain rfl | rfl | rfl : i = 0 ∨ i = 1 ∨ i = 2 := by omega
    all_goals
      obtain rfl | rfl | rfl : j = 0 ∨ j = 1 ∨ j = 2 := by omega
      all_goals decide
  wt := fun i hi => by
    have h3 : i < 3 := hi
    obtain rfl | rfl | rfl : i = 0 ∨ i = 1 ∨ i = 2 := by omega
    all_goals decide
  ln := fun k hk => by
    have h3 : k < 4 := hk
    obtain rfl | rfl | rfl | rfl : k = 0 ∨ k = 1 ∨ k = 2 ∨ k = 3 := by omega
    all_goals exact ⟨by decide, by decide⟩
  sum := fun x y k hk => exSum x y k hk
theorem exList : listF exM = [⟨2, 36, 5, 6, 0⟩, ⟨2, 1000, 6, 5, 0⟩, ⟨2, 4, 7, 5, 0⟩] := by
  unfold listF
  rw [exIds]
  decide +kernel
theorem exNo : NoDrop exM 2 := fun k hk h1 h2 n hn1 hn2 => by
  have hk4 : k < 4 := hk
  obtain rfl | rfl | rfl | rfl : k = 0 ∨ k = 1 ∨ k = 2 ∨ k = 3 := by omega
  · exfalso; revert h2; decide
  · exfalso; revert h2; decide
  · have : n + 1 < 2 := hn2
    omega
  · have : n + 1 < 4 := hn2
    obtain rfl | rfl : n = 1 ∨ n = 2 := by omega
    · decide
    · decide
theorem exOk : EvOk exM 2 exS where
  fuse := exFuse
  edges := by decide
  lens := fun k hk => by
    have h3 : k < 4 := hk
    obtain rfl | rfl | rfl | rfl : k = 0 ∨ k = 1 ∨ k = 2 ∨ k = 3 := by omega
    all_goals decide
  nodrop := exNo
  ways := rfl
  places := rfl
  sort := by
    rw [exList]
    unfold insertionSort
    rw [insOuter, if_pos (by decide), insOuter, if_pos (by decide), insOuter, if_neg (by decide)]
    decide
  same := by rw [exList]; rfl
  few := by rw [exList]; decide
  some_ := by rw [exList]; decide
end Go.Proofs.YtompfgofaplffaaGreatDoor

namespace Go.Proofs.YtompfgofaplffaaGreatDoor
open Go.RowKit Hach

theorem exHead : evG exS 0 = ⟨2, 4, 7, 5, 0⟩ := rfl
set_option maxRecDepth 100000 in
set_option maxHeartbeats 4000000 in
theorem next_any (bf t : Int) (w : World) (hb0 : -1000000 ≤ bf) (hb1 : bf ≤ 1000000) (h : (t = 0 ∧ nextE ⟨2, 4, 7, 5, 0⟩ bf = none) ∨ (t ≠ 0 ∧ nextE ⟨2, 4, 7, 5, 0⟩ bf = some ⟨2, t, 7, 5, 0⟩)) :
    Calls Tryz.prog 15 #[.int .i64 bf, .int .i64 t] w fun e w' => e = .returned (.bool true) ∧ Ext w w' := by
  have HX := Lib.hid (fun W => example_any W)
  have HN := Lib.hid (fun a b o W hm hA => enext_any exM a b o 2 bf exS W hm hA exOk hb0 hb1)
  rw [exHead] at HN
  rcases h with ⟨rfl, h⟩ | ⟨ht, h⟩
  · rw [h] at HN
    clear h
    go_enter Tryz.func15, Tryz.ntmps15
    go_wp2_with fail
    refine (HX.out w).mono ?_
    rintro r w1 ⟨⟨a, b, o, rfl, hm, hA⟩, hE1⟩
    have HN1 := Lib.hid (HN.out a b o w1 hm hA)
    clear hm hA
    go_wp2_with fail
    refine HN1.out.mono ?_
    rintro r w2 ⟨rfl, hE2⟩
    unfold resV Ev.cells zeroEv
    simp only [Option.getD_none, Option.isSome_none]
    go_wp2_with fail
    go_ret
    exact ⟨rfl, Ext.trans hE1 (Ext.trans hE2 (Ext.alloc _ _))⟩
  · rw [h] at HN
    have tt : (t == 0) = false := by simpa using ht
    clear h
    go_enter Tryz.func15, Tryz.ntmps15
    go_wp2_with fail
    refine (HX.out w).mono ?_
    rintro r w1 ⟨⟨a, b, o, rfl, hm, hA⟩, hE1⟩
    have HN1 := Lib.hid (HN.out a b o w1 hm hA)
    clear hm hA
    go_wp2_with fail
    refine HN1.out.mono ?_
    rintro r w2 ⟨rfl, hE2⟩
    unfold resV Ev.cells
    simp only [Option.getD_some, Option.isSome_some]
    go_wp2_with fail
    go_ret
    exact ⟨rfl, Ext.trans hE1 (Ext.trans hE2 (Ext.alloc _ _))⟩
end Go.Proofs.YtompfgofaplffaaGreatDoor
