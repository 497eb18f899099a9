/- The reference's Copy once more: its row is its own. -/
import Derived.Test.YtggkkjnfonbpkaaGreatDoorQId

set_option linter.unusedSimpArgs false
set_option linter.unusedVariables false
namespace Go.Proofs.YtggkkjnfonbpkaaGreatDoor
open Go.RowKit Hach

theorem OwnN.lower {w : World} {b b' : Nat} {v : Value} {us : List Nd} (h : OwnN w b v us) (hb : b' ≤ b) : OwnN w b' v us := by
  obtain ⟨h1, h2⟩ := h
  refine ⟨h1, ?_⟩
  rcases h2 with h | ⟨g, cap, cur, e, hg, r⟩
  · exact .inl h
  · exact .inr ⟨g, cap, cur, e, Nat.le_trans hb hg, r⟩
def CopyR (e : Ex) (d : Nat) (w : World) (r : Ending) (w' : World) : Prop := ∃ (A' : Option Addr) (c' : Nat) (us : List Nd), r = .returned (.agg (e.cells A' c').toArray) ∧ us.map (·.x) = e.l ∧ OwnN w' w.heap.size (.slice A' e.l.length c') us ∧ Kids w' (SO w.heap.size w' (.slice A' e.l.length c')) d us ∧ Ext w w'
set_option maxRecDepth 100000 in
set_option maxHeartbeats 2000000 in
theorem Copy2_any (d : Nat) : ∀ (e : Ex) (A : Option Addr) (c : Nat) (w : World), ExB w w.heap.size d A e.l → e.size < 4294967296 →
    Calls Tryz.prog 35 #[.agg (e.cells A c).toArray] w (CopyR e d w) := by
  have ih := fun d' (_ : d' < d) => Copy_any d'
  intro e A c w hX hsz
  have hk := Nat.lt_trans e.kids_lt hsz
  have hll := Nat.lt_of_le_of_lt (Ex.len_le e.l) hk
  obtain ⟨w3, hw3⟩ : ∃ w3, ((w.alloc (.cells (e.cells A c).toArray 29)).alloc (.cells zero7 29)).alloc (.cells (cell7 e (.slice none 0 0)) 29) = w3 := ⟨_, rfl⟩
  have hsz3 : w3.heap.size = w.heap.size + 3 := by rw [← hw3]; simp
  have hE3 : Ext w w3 := by rw [← hw3]; exact ((Ext.alloc _ _).trans (Ext.alloc _ _)).trans (Ext.alloc _ _)
  have hbox : Box w3 w.heap.size e A c := by rw [← hw3]; exact ((Box.new w e A c _).ext (Ext.alloc _ _)).ext (Ext.alloc _ _)
  have hzero : w3.heap[w.heap.size + 1]? = some (.cells zero7 29 (0, 0)) := by
    rw [← hw3]
    have h1 := Go.heap_alloc_new (w.alloc (.cells (e.cells A c).toArray 29)) (.cells zero7 29)
    rw [World.size_alloc] at h1
    exact ((Ext.alloc ((w.alloc (.cells (e.cells A c).toArray 29)).alloc (.cells zero7 29)) _).below.block _ (by simp)).trans h1
  have hout : InBlk w3 (w.heap.size + 2) e (.slice none 0 0) := by
    rw [← hw3]
    have h1 := InBlk.new ((w.alloc (.cells (e.cells A c).toArray 29)).alloc (.cells zero7 29)) e (.slice none 0 0)
    rw [World.size_alloc, World.size_alloc] at h1
    exact h1
  have HZ3 := Lib.hid hsz3
  clear hsz3
  unfold Ex.cells at hw3 ⊢
  unfold zero7 cell7 at hw3
  have HW3 := Lib.hid hw3
  clear hw3
  go_enter Tryz.func35, Tryz.ntmps35
  go_wp2_with fail
  rw [HW3.out]
  go_loopw [4] (fun kv wr => ∃ (k : Nat) (v : Value) (us : List Nd), k ≤ e.l.length ∧ kv = .int .i64 k ∧ us.map (·.x) = e.l.take k ∧ OwnN wr (w.heap.size + 3) v us ∧ Kids wr (SO (w.heap.size + 3) wr v) (d - 1) us ∧ InBlk wr (w.heap.size + 2) e v ∧ Below (w.heap.size + 2) w3 wr ∧ w.heap.size + 3 ≤ wr.heap.size) (fun kv _ => e.l.length - (intOf kv).toNat)
  case atStart => exact ⟨0, _, [], Nat.zero_le _, rfl, rfl, OwnN.nil _ _, Kids.nil _ _ _, hout, Below.refl _ _, by have := HZ3.out; omega⟩
  case round =>
    obtain ⟨k, v, us, hkl, rfl, hmap, hO, hK, hI, hB, hBs⟩ := hrel
    have hul : us.length = k := by have := congrArg List.length hmap; simp at this; omega
    obtain ⟨q0, q1, q2, q3, q4, q5, q6⟩ := hI.cells
    have q6b := (hB.cell (p := ⟨w.heap.size, 6, none⟩) (show w.heap.size < w.heap.size + 2 by omega)).trans hbox.c6
    by_cases hlt : k < e.l.length
    · have hXr : ExB wr w.heap.size d A e.l := hX.keep fun b hb o => ((hB.mono (by omega)).cell (p := ⟨b, o, none⟩) hb).trans (hE3.old (p := ⟨b, o, none⟩) hb)
      obtain ⟨b, o, A', c', d', hd, rfl, hb, hX', hOne⟩ := hXr.at_ hlt
      have ihx := ih d' (by omega)
      obtain ⟨o0, o1, o2, o3, o4, o5, o6⟩ := hOne
      have hsx := Nat.lt_of_le_of_lt (Ex.size_mem (List.getElem_mem hlt)) hk
      have hsnoc : e.l.take (k + 1) = e.l.take k ++ [e.l[k]] := List.take_succ_eq_append_getElem hlt
      have hbw : b < wr.heap.size := by omega
      have HMAP := Lib.hid hmap
      have HSN := Lib.hid hsnoc
      have HD := Lib.hid hd
      obtain ⟨x, hx⟩ : ∃ x, e.l[k] = x := ⟨_, rfl⟩
      rw [hx] at o0 o1 o2 o3 o4 o5 o6 hX' hsx HSN
      have hul2 : us.length < 4294967296 := by omega
      have HUL := Lib.hid hul
      clear hmap hsnoc hx hd hul
      have hwrN : w.heap.size + 3 ≤ wr.heap.size := hBs
      have hKd : Kids wr (SO (w.heap.size + 3) wr v) d' us := by rw [show d' = d - 1 by have := HD.out; omega]; exact hK
      go_wp2_with fail
      apply wp_region_seq (l := [_, _, _, _, _, _, _, _, _]) (t := [_, _, _]) [some 14, some 15, some 16, some 17, some 18, some 19, some 20, some 21, some 22, some 23, some 24, none] [[], [0], [], [2], [], [3, 4], [5], [6], [7], [1, 8], [], [9, 10]] [1, 9, 3, 5, 5, 6, 7, 9, 9] [eqv _, eqv _, eqv _, eqv _, eqv _, eqv _, eqv _, (ndSP wr.heap.size x d'), (slNd wr.heap.size x d')] (by kernel_rfl) (by kernel_rfl) ⟨?o0, ?o1, ?o2, ?o3, ?o4, ?o5, ?o6, ?o7, ?o8, trivial⟩ ?last
      case o0 => -- Op.fieldAddr 29 (Operand.tmp 3) 3
        intro xv W hE _
        simp only [putD, List.foldl_nil, List.getD_cons_zero]
        refine OpGoal.plain ?_
        go_wp2_with fail
        exact ⟨rfl, Ext.refl _, rfl⟩
      case o1 => -- Op.load 27 (Operand.tmp 14)
        intro xv W hE hp
        have r0 : xv 0 = _ := hp.1
        clear hp
        have l6 : W.cell? ⟨w.heap.size + 2, 6, none⟩ = some v := (hE.old (p := ⟨w.heap.size + 2, 6, none⟩) hI.lt).trans q6
        have m6 : W.cell? ⟨w.heap.size, 6, none⟩ = some (.slice (some ⟨b, o, none⟩) e.l.length c) := (hE.old (p := ⟨w.heap.size, 6, none⟩) (show w.heap.size < wr.heap.size by omega)).trans q6b
        obtain ⟨y0, y1, y2, y3, y4, y5, y6⟩ := One.ext (w := wr) (b := b) (o := o + k * 7) (x := x) (A := A') (c := c') ⟨o0, o1, o2, o3, o4, o5, o6⟩ hbw ((Ext.drew _).trans hE)
        simp only [putD, List.foldl_nil, List.foldl_cons, List.getD_cons_zero, List.getD_cons_succ, Act.put, List.setIfInBounds_toArray, List.set_cons_zero, List.set_cons_succ]
        refine OpGoal.plain ?_
        go_wp2_with fail
        exact ⟨rfl, Ext.refl _, rfl⟩
      case o2 => -- Op.fieldAddr 29 (Operand.tmp 1) 3
        intro xv W hE _
        simp only [putD, List.foldl_nil, List.getD_cons_zero, List.getD_cons_succ]
        refine OpGoal.plain ?_
        go_wp2_with fail
        exact ⟨rfl, Ext.refl _, rfl⟩
      case o3 => -- Op.load 27 (Operand.tmp 16)
        intro xv W hE hp
        have r2 : xv 2 = _ := hp.1
        clear hp
        have l6 : W.cell? ⟨w.heap.size + 2, 6, none⟩ = some v := (hE.old (p := ⟨w.heap.size + 2, 6, none⟩) hI.lt).trans q6
        have m6 : W.cell? ⟨w.heap.size, 6, none⟩ = some (.slice (some ⟨b, o, none⟩) e.l.length c) := (hE.old (p := ⟨w.heap.size, 6, none⟩) (show w.heap.size < wr.heap.size by omega)).trans q6b
        obtain ⟨y0, y1, y2, y3, y4, y5, y6⟩ := One.ext (w := wr) (b := b) (o := o + k * 7) (x := x) (A := A') (c := c') ⟨o0, o1, o2, o3, o4, o5, o6⟩ hbw ((Ext.drew _).trans hE)
        simp only [putD, List.foldl_nil, List.foldl_cons, List.getD_cons_zero, List.getD_cons_succ, Act.put, List.setIfInBounds_toArray, List.set_cons_zero, List.set_cons_succ]
        refine OpGoal.plain ?_
        go_wp2_with fail
        exact ⟨rfl, Ext.refl _, rfl⟩
      case o4 => -- Op.move (Operand.tmp 4)
        intro xv W hE _
        simp only [putD, List.foldl_nil, List.getD_cons_zero, List.getD_cons_succ]
        refine OpGoal.plain ?_
        go_wp2_with fail
        exact ⟨rfl, Ext.refl _, rfl⟩
      case o5 => -- Op.indexAddr 27 (Operand.tmp 17) (Operand.tmp 18)
        intro xv W hE hp
        have r3 : xv 3 = _ := hp.1
        have r4 : xv 4 = _ := hp.2.1
        clear hp
        simp only [putD, List.foldl_nil, List.foldl_cons, List.getD_cons_zero, List.getD_cons_succ, Act.put, List.setIfInBounds_toArray, List.set_cons_zero, List.set_cons_succ]
        refine OpGoal.plain ?_
        go_wp2_with fail
        exact ⟨rfl, Ext.refl _, rfl⟩
      case o6 => -- Op.load 29 (Operand.tmp 19)
        intro xv W hE hp
        have r5 : xv 5 = _ := hp.1
        clear hp
        have l6 : W.cell? ⟨w.heap.size + 2, 6, none⟩ = some v := (hE.old (p := ⟨w.heap.size + 2, 6, none⟩) hI.lt).trans q6
        have m6 : W.cell? ⟨w.heap.size, 6, none⟩ = some (.slice (some ⟨b, o, none⟩) e.l.length c) := (hE.old (p := ⟨w.heap.size, 6, none⟩) (show w.heap.size < wr.heap.size by omega)).trans q6b
        obtain ⟨y0, y1, y2, y3, y4, y5, y6⟩ := One.ext (w := wr) (b := b) (o := o + k * 7) (x := x) (A := A') (c := c') ⟨o0, o1, o2, o3, o4, o5, o6⟩ hbw ((Ext.drew _).trans hE)
        simp only [putD, List.foldl_nil, List.foldl_cons, List.getD_cons_zero, List.getD_cons_succ, Act.put, List.setIfInBounds_toArray, List.set_cons_zero, List.set_cons_succ]
        refine OpGoal.plain ?_
        go_wp2_with fail
        exact ⟨rfl, Ext.refl _, rfl⟩
      case o7 => -- Op.call { callee := Callee.value (Operand.func 35), args := #[Operand.tmp 20], a
        intro xv W hE hp
        have r6 : xv 6 = _ := hp.1
        clear hp
        simp only [putD, List.foldl_nil, List.foldl_cons, List.getD_cons_zero, List.getD_cons_succ, Act.put, List.setIfInBounds_toArray, List.set_cons_zero, List.set_cons_succ]
        refine OpGoal.plain ?_
        go_wp2_with fail
        refine (ihx x A' c' W (hX'.keep (fun b hb o => ((Ext.drew wr).trans hE).old (p := ⟨b, o, none⟩) (show b < wr.heap.size by omega)) |>.up (by have := ((Ext.drew wr).trans hE).sz; omega)) hsx).mono ?_
        rintro r w' ⟨A7, c7, rfl, hk7, hE7⟩
        go_wp2_with fail
        exact ⟨rfl, hE7, A7, c7, rfl, hk7.more fun b hb => ⟨Nat.le_trans ((Ext.drew wr).trans hE).sz hb.1, hb.2⟩⟩
      case o8 => -- Op.buildSlice 27 1 #[(0, Operand.tmp 21)]
        intro xv W hE hp
        obtain ⟨A7, c7, r7, hk7⟩ := hp.1
        clear hp
        simp only [putD, List.foldl_nil, List.foldl_cons, List.getD_cons_zero, List.getD_cons_succ, Act.put, List.setIfInBounds_toArray, List.set_cons_zero, List.set_cons_succ]
        refine OpGoal.plain ?_
        go_wp2_with fail
        exact ⟨rfl, Ext.alloc _ _, W.heap.size, A7, c7, rfl, ((Ext.drew wr).trans hE).sz, by simp, fun i u hi => by rw [World.cell?_alloc_new]; exact (by simpa [Ex.cells] using hi), (hk7.keep fun b hb o => (Ext.alloc W _).old (p := ⟨b, o, none⟩) hb.2).more fun b hb => ⟨hb.1, Nat.lt_of_lt_of_le hb.2 (Ext.alloc W _).sz⟩⟩
      case last =>
        intro xv W hE hp
        have r0 : xv 0 = _ := hp.1
        have r1 : xv 1 = _ := hp.2.1
        have r2 : xv 2 = _ := hp.2.2.1
        have r3 : xv 3 = _ := hp.2.2.2.1
        have r4 : xv 4 = _ := hp.2.2.2.2.1
        have r5 : xv 5 = _ := hp.2.2.2.2.2.1
        have r6 : xv 6 = _ := hp.2.2.2.2.2.2.1
        obtain ⟨A7, c7, r7, hk7⟩ := hp.2.2.2.2.2.2.2.1
        obtain ⟨g, A8, c8, r8, hg1, hg2, hcg, hk8⟩ := hp.2.2.2.2.2.2.2.2.1
        clear hp
        simp only [putD, List.foldl_nil, List.foldl_cons, List.getD_cons_zero, List.getD_cons_succ, Act.put, List.length_cons, List.length_nil, List.range_succ, List.range_zero, List.nil_append, List.cons_append, List.setIfInBounds_toArray, List.set_cons_zero, List.set_cons_succ]
        have hEw : Ext wr W := (Ext.drew wr).trans hE
        have hOW := hO.ext hEw
        have hKW : Kids W (SO (w.heap.size + 3) W v) d' us := (hKd.keep fun b hb o => hEw.old (p := ⟨b, o, none⟩) hb.2.1).more fun b hb => ⟨hb.1, Nat.lt_of_lt_of_le hb.2.1 hEw.sz, hb.2.2⟩
        have hIW := hI.ext hEw
        have hBW : Below (w.heap.size + 2) w3 W := Below.trans hB (hEw.below.mono (by omega))
        have hsW : wr.heap.size ≤ W.heap.size := hEw.sz
        have hvw : ∀ b, v.ownBlock = some b → w.heap.size + 3 ≤ b ∧ b < wr.heap.size := fun b e => hO.lt b e
        have hul4 : us.length < 4294967296 := by have := HUL.out; omega
        have r1' : xv 1 = v := r1
        rw [r8, r1']
        clear r0 r1 r2 r3 r4 r5 r6 r7 r8 r1' hO hI hKd hB hE q0 q1 q2 q3 q4 q5 q6 q6b o0 o1 o2 o3 o4 o5 o6 hk7 hK
        have hne2 : some (w.heap.size + 2) ≠ v.ownBlock := fun e => by have := (hvw _ e.symm).1; omega
        go_wp2_with (at_builtin; refine app_N rfl 15 22 rfl (w.heap.size + 3) v us rfl hOW g ⟨x, A8, c8⟩ rfl hcg hul4 (by omega) ?_; intro v1 wb hO1 hg1 hn1; obtain ⟨A1, c1, hv1, hf1⟩ := OwnN.form hO1; subst hv1; clear hf1; have hIb := InBlk.own hIW hg1 hne2; have hc6 := hIb.cells.2.2.2.2.2.2; have hf6 := hIb.free 6)
        go_roundw
        case rel =>
          have hlen1 : (us ++ [(⟨x, A8, c8⟩ : Nd)]).length = us.length + 1 := by simp
          rw [hlen1] at hO1
          have hlow1 : ∀ b, (Value.slice A1 (us.length + 1) c1).ownBlock = some b → w.heap.size + 3 ≤ b := fun b e => (hO1.lt b e).1
          refine ⟨k + 1, .slice A1 (us.length + 1) c1, us ++ [⟨x, A8, c8⟩], by omega, by go_num, by rw [List.map_append, HMAP.out, HSN.out]; rfl, ?_, ?_, hIb.set _, ?_, ?_⟩
          · refine hO1.keep (grown_set wb (w.heap.size + 2) 6 _) ?_
            cases hq : (Value.slice A1 (us.length + 1) c1).ownBlock with
            | none => exact .inl rfl
            | some b => exact .inr fun e => by have := hlow1 b hq; simp only [Option.some.injEq] at e; omega
          · rw [show d - 1 = d' by have := HD.out; omega]
            exact Kids.step hKW hk8 hwrN (fun b e => (hvw b e).2) hg1 (by simpa using hn1) (by omega)
          · have h1 : Below (w.heap.size + 2) W wb := below_row' hg1 (by omega) (fun b e => by have := (hvw b e).1; omega)
            exact Below.trans (Below.trans hBW h1) (below_row' (grown_set wb (w.heap.size + 2) 6 _) (by have := h1.size; omega) (fun b e => by simp only [Option.some.injEq] at e; omega))
          · have := hg1.size
            rw [show (wb.setCell ⟨w.heap.size + 1 + 1, 6, none⟩ (Value.slice A1 (us.length + 1) c1)).heap.size = wb.heap.size from set_size _ _ _]
            omega
        case measure => simp [intOf]; omega
    · have tn : decide (k < e.l.length) = false := by simp; omega
      have hz1 : wr.heap[w.heap.size + 1]? = some (.cells zero7 29 (0, 0)) := (hB.block _ (by omega)).trans hzero
      have fz : ∀ o, wr.frozen? ⟨w.heap.size + 1, o, none⟩ = false := fun o => by simp [World.frozen?, hz1]
      have zc : ∀ o, wr.cell? ⟨w.heap.size + 1, o, none⟩ = zero7[o]? := fun o => by simp [World.cell?, hz1]
      have z0 := zc 0
      have z1 := zc 1
      have z2 := zc 2
      have z3 := zc 3
      have z4 := zc 4
      have z5 := zc 5
      have z6 := zc 6
      have f0 := fz 0
      have f1 := fz 1
      have f2 := fz 2
      have f3 := fz 3
      have f4 := fz 4
      have f5 := fz 5
      have f6 := fz 6
      obtain ⟨A1, c1, hv1, _⟩ := OwnN.form hO
      rw [hul] at hv1
      subst hv1
      simp only [zero7] at z0 z1 z2 z3 z4 z5 z6
      clear fz zc
      go_wp2_with fail
      have hS := set7_size wr (w.heap.size + 1) e (.slice A1 k c1)
      have hG := set7_grown wr (w.heap.size + 1) e (.slice A1 k c1)
      have hIn := set7_in hz1 e (.slice A1 k c1)
      have hke : k = e.l.length := by omega
      have hO2 : OwnN (set7 wr (w.heap.size + 1) e (.slice A1 k c1)) (w.heap.size + 3) (.slice A1 k c1) us := hO.keep hG (by
        cases hq : (Value.slice A1 k c1).ownBlock with
        | none => exact .inl rfl
        | some g => exact .inr fun e => by have := (hO.lt g hq).1; simp only [Option.some.injEq] at e; omega)
      have hK2 : Kids (set7 wr (w.heap.size + 1) e (.slice A1 k c1)) (SO w.heap.size (set7 wr (w.heap.size + 1) e (.slice A1 k c1)) (.slice A1 k c1)) (d - 1) us := (hK.keep fun b hb o => grown_cell hG hb.2.1 (by have := hb.1; simp; omega) o).more fun b hb => ⟨by have := hb.1; omega, by rw [hS]; exact hb.2.1, hb.2.2⟩
      have HKE := Lib.hid hke
      show bodyPost _ _ _ _ _ (set7 wr (w.heap.size + 1) e (.slice A1 k c1))
      generalize set7 wr (w.heap.size + 1) e (.slice A1 k c1) = wf at hS hG hIn hO2 hK2 ⊢
      refine bodyPost_ret (v := .agg #[.int .i64 e.op, .int .i64 e.var, .int .i64 e.ty, .int .i64 e.n, .bool e.b, .string ⟨e.s.toArray⟩, .slice A1 k c1]) (results_blk rfl hIn _ rfl) rfl ⟨A1, c1, us, by rw [HKE.out]; rfl, by rw [hmap]; exact List.take_of_length_le (by have := HKE.out; omega), by rw [← HKE.out]; exact hO2.lower (by omega), by rw [← HKE.out]; exact fun u hu => (hK2 u hu).deep (by omega), ?_⟩
      exact Below.trans (Below.trans hE3 (hB.mono (by omega))) (below_row' hG (by omega) (by simp))
end Go.Proofs.YtggkkjnfonbpkaaGreatDoor
