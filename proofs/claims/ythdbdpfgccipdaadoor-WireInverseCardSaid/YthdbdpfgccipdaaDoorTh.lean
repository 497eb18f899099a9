/- The walk of the statement WireInverse: at every input the call returns true. -/
import Derived.Test.YthdbdpfgccipdaaDoorTg
import Derived.Deep.RegionHeld3
namespace Go.Proofs.YthdbdpfgccipdaaDoor
open Go.RowKit Hach Num

set_option maxRecDepth 100000 in
set_option maxHeartbeats 4000000 in
theorem WireInverse_any (A : Option Addr) (n c : Nat) (w : World) (hT : Tabs w) (hA : RowV w A n) (hn : n < 9223372036854775808) (hnc : n ≤ c) :
    Calls Tryd.prog 5 #[.slice A n c] w fun e w' => e = .returned (.bool true) ∧ Ext w w' := by
  obtain ⟨n8, hn8, hnn, hn8l⟩ : ∃ n8 : Nat, min (n : Int) 8 = n8 ∧ n8 ≤ n ∧ n8 ≤ 8 := ⟨min n 8, by omega, by omega, by omega⟩
  have hn8c : (n8 : Int) ≤ c := by omega
  go_enter Tryd.func5, Tryd.ntmps5
  go_wp2_with fail
  refine (sanity_any w hT).mono ?_
  rintro e w1 ⟨rfl, hE1⟩
  go_wp2_with fail
  go_loopw [4, 5, 19] (fun v sv i wr => ∃ (k : Nat) (us : List Rec), k ≤ n8 ∧ i = .int .i64 k ∧ us.length = k ∧ OwnV wr w.heap.size v us ∧ (∀ u ∈ us, u.Ok ∧ u.At wr v.ownBlock) ∧ sv = .string ⟨((us.map Rec.ser).flatten).toArray⟩ ∧ Ext w wr) (fun _ _ i _ => n8 - (intOf i).toNat)
  case atStart => exact ⟨0, [], Nat.zero_le _, rfl, rfl, OwnV.nil _ _, fun u h => (by cases h), rfl, hE1⟩
  case round =>
    obtain ⟨k, us, hk, rfl, hul, hO, hus, rfl, hE⟩ := hrel
    have hTr := hT.ext hE
    by_cases hlt : k < n8
    · obtain ⟨b, o, rfl, hbl, hc0⟩ := hA (by omega)
      obtain ⟨c0, c1, c2, c3, c4, z, m, s, xs, ts, hP, k0, k1, k2, k3, k4⟩ := hc0 k (by omega)
      have hE' : Ext w wr := hE
      have r0 := (hE'.old (p := ⟨b, o + k * 5, none⟩) hbl).trans k0
      have r1 := (hE'.old (p := ⟨b, o + k * 5 + 1, none⟩) hbl).trans k1
      have r2 := (hE'.old (p := ⟨b, o + k * 5 + 2, none⟩) hbl).trans k2
      have r3 := (hE'.old (p := ⟨b, o + k * 5 + 3, none⟩) hbl).trans k3
      have r4 := (hE'.old (p := ⟨b, o + k * 5 + 4, none⟩) hbl).trans k4
      clear hc0 k0 k1 k2 k3 k4
      obtain ⟨⟨q, rfl, hq, hqz⟩, ⟨rfl, hm⟩, ⟨sb, rfl, hs, hsb⟩, ⟨A3, m3, d3, rfl, hX, hm3, hmc, hV⟩, ⟨A4, m4, d4, rfl, hY, hm4, hts⟩⟩ := hP
      have e1 : (q : Int) % 4 = (q % 4 : Nat) := rfl
      have e2 : (q : Int).tmod 4 = (q % 4 : Nat) := rfl
      have hz4 : q % 4 < 4 := by omega
      obtain ⟨z0, hz0⟩ : ∃ z0, q % 4 = z0 := ⟨_, rfl⟩
      rw [hz0] at e1 e2 hz4
      have HZ0 := Lib.hid hz0
      clear hz0
      clear hqz
      have hcut := take_some sb s hs
      have hsl : (s.take 100).length ≤ 100 := by simp; omega
      generalize s.take 100 = st at hcut hsl
      obtain ⟨k3, hk3, hkm, hk20⟩ : ∃ k3 : Nat, min (m3 : Int) 20 = k3 ∧ k3 ≤ m3 ∧ k3 ≤ 20 := ⟨min m3 20, by omega, by omega, by omega⟩
      have hkc : (k3 : Int) ≤ d3 := by omega
      have hX2 := hX.take hkm
      have hV2 : ∀ x ∈ xs.take k3, InI x := fun x hx => hV x (List.mem_of_mem_take hx)
      have hx2l : (xs.take k3).length = k3 := hX2.1
      generalize xs.take k3 = xs' at hX2 hV2 hx2l
      have HX2L := Lib.hid hx2l
      have HUL := Lib.hid hul
      have hul8 : us.length < 8 := by omega
      have hcl := cutL_len ts
      have hcs := cutL_small (ts := ts)
      clear hX hV hs hx2l hul
      go_wp2_with fail
      obtain ⟨w2, hw2⟩ : ∃ w2, wr.alloc (.cells #[.int .u8 q, .int .i64 m, .string ⟨st.toArray⟩, .slice A3 k3 d3, .slice A4 m4 d4] 45) = w2 := ⟨_, rfl⟩
      have hB2 : w2.heap[wr.heap.size]? = some (.cells #[.int .u8 q, .int .i64 m, .string ⟨st.toArray⟩, .slice A3 k3 d3, .slice A4 m4 d4] 45 (0, 0)) := by rw [← hw2]; exact heap_alloc_new _ _
      have hE2 : Ext wr w2 := by rw [← hw2]; exact Ext.alloc _ _
      have hz2 : wr.heap.size < w2.heap.size := (Array.getElem?_eq_some_iff.1 hB2).1
      rw [hw2]
      clear hw2
      refine (cutl_any A4 m4 d4 ts w2 (hY.ext (hE.trans hE2)) hm4 hts).mono ?_
      rintro e w3 ⟨v4, rfl, hO4, hE3⟩
      obtain ⟨B2, d2, rfl, hR2⟩ := hO4.form
      have hlt4 := hO4.lt
      have hB3 := (hE3.below.block _ hz2).trans hB2
      have x0 : w3.cell? ⟨wr.heap.size, 0, none⟩ = some (.int .u8 q) := by simp [World.cell?, hB3]
      have x1 : w3.cell? ⟨wr.heap.size, 1, none⟩ = some (.int .i64 m) := by simp [World.cell?, hB3]
      have x2 : w3.cell? ⟨wr.heap.size, 2, none⟩ = some (.string ⟨st.toArray⟩) := by simp [World.cell?, hB3]
      have x3 : w3.cell? ⟨wr.heap.size, 3, none⟩ = some (.slice A3 k3 d3) := by simp [World.cell?, hB3]
      have x4 : w3.cell? ⟨wr.heap.size, 4, none⟩ = some (.slice A4 m4 d4) := by simp [World.cell?, hB3]
      have f4 : w3.frozen? ⟨wr.heap.size, 4, none⟩ = false := by simp [World.frozen?, hB3]
      have hzb := hE.sz
      have hown := hO.lt
      have hsc : ∀ x : Value, w3.grownBy (w3.setCell ⟨wr.heap.size, 4, none⟩ x) (some wr.heap.size) := fun x => grown_set w3 wr.heap.size 4 x
      have hz3 := hE3.sz
      have hO3 := hO.ext (hE2.trans hE3)
      have hO4s : ∀ x : Value, OwnV (w3.setCell ⟨wr.heap.size, 4, none⟩ x) w.heap.size u4 us := fun x => World.ownsRow.kept hO3 (hsc x) (by
        cases hv : u4.ownBlock with
        | none => exact .inl rfl
        | some g => right; have := (hown g hv).2; intro e; simp only [Option.some.injEq] at e; omega)
      have hO5 : ∀ (x : Value) (o : Obj), OwnV ((w3.setCell ⟨wr.heap.size, 4, none⟩ x).alloc o) w.heap.size u4 us := fun x o => (hO4s x).ext (Ext.alloc _ _)
      have hbs : ∀ (x : Value) (o : Obj), w.heap.size ≤ ((w3.setCell ⟨wr.heap.size, 4, none⟩ x).alloc o).heap.size := fun x o => by rw [World.size_alloc]; have := (hsc x).size; omega
      obtain ⟨t, ht⟩ : ∃ t : Rec, (⟨q, m, st, A3, k3, d3, xs', B2, (cutL ts).length, d2, cutL ts⟩ : Rec) = t := ⟨_, rfl⟩
      have htc : t.cells = [.int .u8 q, .int .i64 m, .string ⟨st.toArray⟩, .slice A3 k3 d3, .slice B2 (cutL ts).length d2] := by rw [← ht]; rfl
      have hnew : ∀ x : Value, ∀ (i : Nat) (u : Value), t.cells[i]? = some u → ((w3.setCell ⟨wr.heap.size, 4, none⟩ x).alloc (.cells #[.int .u8 q, .int .i64 m, .string ⟨st.toArray⟩, .slice A3 k3 d3, .slice B2 (cutL ts).length d2] 45)).cell? ⟨w3.heap.size, i, none⟩ = some u := fun x i u hu => by
        have hs : (w3.setCell ⟨wr.heap.size, 4, none⟩ x).heap.size = w3.heap.size := by simp
        rw [← hs, World.cell?_alloc_new]
        rw [htc] at hu
        simpa using hu
      have HTC := Lib.hid htc
      have HT1 := Lib.hid ht
      clear htc ht
      go_wp2_with (at_builtin; refine app_V rfl 43 45 rfl w.heap.size u4 us rfl (hO5 _ _) w3.heap.size t rfl (hnew _) (by omega) (hbs _ _) ?_; intro v' w5 hO' hg' hv')
      have hEwr := hE
      have hE13 := hE2.trans hE3
      have hEs := ext_own (hE.trans hE13) (hsc (.slice B2 (cutL ts).length d2)) hzb
      have hEa : Ext (w3.setCell ⟨wr.heap.size, 4, none⟩ (.slice B2 (cutL ts).length d2)) ((w3.setCell ⟨wr.heap.size, 4, none⟩ (.slice B2 (cutL ts).length d2)).alloc (.cells #[.int .u8 q, .int .i64 m, .string ⟨st.toArray⟩, .slice A3 k3 d3, .slice B2 (cutL ts).length d2] 45)) := Ext.alloc _ _
      have hBs : (w3.setCell ⟨wr.heap.size, 4, none⟩ (.slice B2 (cutL ts).length d2)).heap[wr.heap.size]? = some (.cells #[.int .u8 q, .int .i64 m, .string ⟨st.toArray⟩, .slice A3 k3 d3, .slice B2 (cutL ts).length d2] 45 (0, 0)) := heap_setCell_same w3 wr.heap.size 4 _ _ _ hB3
      have hAt : ∀ u ∈ us, u.Ok ∧ u.At ((w3.setCell ⟨wr.heap.size, 4, none⟩ (.slice B2 (cutL ts).length d2)).alloc (.cells #[.int .u8 q, .int .i64 m, .string ⟨st.toArray⟩, .slice A3 k3 d3, .slice B2 (cutL ts).length d2] 45)) u4.ownBlock := fun u hu => ⟨(hus u hu).1, ((hus u hu).2.over hE13 (hsc _) (Nat.le_refl _)).ext hEa⟩
      have hAtt : t.At ((w3.setCell ⟨wr.heap.size, 4, none⟩ (.slice B2 (cutL ts).length d2)).alloc (.cells #[.int .u8 q, .int .i64 m, .string ⟨st.toArray⟩, .slice A3 k3 d3, .slice B2 (cutL ts).length d2] 45)) u4.ownBlock := by
        rw [← HT1.out]
        refine ⟨((hX2.ext (hE.trans hE13)).keep (hsc _) fun h0 a e => ?_).ext hEa, (hR2.keep (hsc _) fun h0 a e => ?_).ext hEa, fun h0 a e => ?_, fun h0 a e => ?_⟩
        · have := hX2.lt h0 e; intro e'; simp only [Option.some.injEq] at e'; omega
        · have := (hlt4 a.block (by rw [e]; rfl)).1; intro e'; simp only [Option.some.injEq] at e'; omega
        · have h1 := hX2.lt h0 e; intro e'; have := (hown a.block e').1; omega
        · have h1 := (hlt4 a.block (by rw [show B2 = some a from e]; rfl)).1; intro e'; have := (hown a.block e').2; omega
      have hOk : t.Ok := by
        rw [← HT1.out]
        exact ⟨hq, hm, hsl, hk20, hV2, hcl, hcs⟩
      have hser : t.ser = ser z0 m st xs' (cutL ts) := by rw [← HT1.out]; unfold Rec.ser; simp only [HZ0.out]
      have hserl := ser_len (z := z0) hm hsl (by rw [HX2L.out]; exact hk20 : xs'.length ≤ 20) hV2 hcl hcs
      generalize (w3.setCell ⟨wr.heap.size, 4, none⟩ (.slice B2 (cutL ts).length d2)) = ws at hEs hEa hBs hAt hAtt hg' hv'
      have hB4 := (hEa.below.block _ (Array.getElem?_eq_some_iff.1 hBs).1).trans hBs
      generalize ws.alloc (.cells #[.int .u8 q, .int .i64 m, .string ⟨st.toArray⟩, .slice A3 k3 d3, .slice B2 (cutL ts).length d2] 45) = w4 at hEa hB4 hAt hAtt hg' hv'
      have hE4 := hEs.trans hEa
      have hB5 := (hg'.block wr.heap.size (Array.getElem?_eq_some_iff.1 hB4).1 (fun e => by have := (hown _ e.symm).2; omega)).trans hB4
      have hE5 : Ext w w5 := hE4.below.grown hg' hE4.sz (fun g hg => (hown g hg).1)
      have hAt5 : ∀ u ∈ us, u.Ok ∧ u.At w5 v'.ownBlock := fun u hu => ⟨(hAt u hu).1, (hAt u hu).2.grown hg' hv'⟩
      have hAtt5 := hAtt.grown hg' hv'
      have hT5 := hT.ext hE5
      have hbl5 : wr.heap.size < w5.heap.size := (Array.getElem?_eq_some_iff.1 hB5).1
      have y0 : w5.cell? ⟨wr.heap.size, 0, none⟩ = some (.int .u8 q) := by simp [World.cell?, hB5]
      have y1 : w5.cell? ⟨wr.heap.size, 1, none⟩ = some (.int .i64 m) := by simp [World.cell?, hB5]
      have y2 : w5.cell? ⟨wr.heap.size, 2, none⟩ = some (.string ⟨st.toArray⟩) := by simp [World.cell?, hB5]
      have y3 : w5.cell? ⟨wr.heap.size, 3, none⟩ = some (.slice A3 k3 d3) := by simp [World.cell?, hB5]
      have y4 : w5.cell? ⟨wr.heap.size, 4, none⟩ = some (.slice B2 (cutL ts).length d2) := by simp [World.cell?, hB5]
      have hX5 : RowI w5 w5.heap.size A3 k3 xs' := by have := hAtt5.xs; rw [← HT1.out] at this; exact this
      have hR5 : RowT w5 w5.heap.size B2 (cutL ts).length (cutL ts) := by have := hAtt5.ts; rw [← HT1.out] at this; exact this
      have hSl := recs_small us (fun u hu => (hus u hu).1.ser (by rw [(hus u hu).2.xs.1]; exact (hus u hu).1.k) (by rw [(hus u hu).2.ts.1]; exact (hus u hu).1.m))
      obtain ⟨S, hS⟩ : ∃ S, (us.map Rec.ser).flatten = S := ⟨_, rfl⟩
      rw [hS] at hSl
      rw [hS]
      have HS := Lib.hid hS
      have hs1 : (⟨S.toArray⟩ : ByteArray).size ≤ 24000 := by rw [toArr_size]; omega
      have hs2 : (⟨(ser z0 m st xs' (cutL ts)).toArray⟩ : ByteArray).size ≤ 3000 := by rw [toArr_size]; exact hserl
      have HSER := Lib.hid hser
      generalize wr.heap.size = bx at hbl5 y0 y1 y2 y3 y4
      clear hS hser hE hE13 hE2 hE3 hEs hEa hBs hAt hAtt hB4 hB5 hg' hv' hE4 hnew hbs hO5 hO4s hO3 hsc hown hzb hz3 hB2 hB3 hX2 hR2 hO4 hlt4 hO x0 x1 x2 x3 x4 f4 hY hus r0 r1 r2 r3 r4 hcut hk3 hz2
      apply wp_region_seq (l := [_, _, _, _, _, _, _, _, _, _, _, _, _, _, _, _, _, _, _, _]) (t := [_]) [some 47, some 48, some 49, some 50, some 51, some 52, some 53, some 54, some 55, some 56, some 57, some 58, some 59, some 60, some 61, some 62, some 63, some 64, some 65, some 66, some 5] [[], [], [1], [2], [], [4], [5], [], [7], [8], [], [10], [11], [3, 6, 9, 12], [], [14], [15], [13, 16], [17], [0, 18], [19]] [20, 20, 20, 20, 20, 20, 20, 20, 20, 20, 20, 20, 20, 20, 20, 20, 20, 20, 20, 20] [eqv _, eqv _, eqv _, (eqv (.string ⟨(wrInt m).toArray⟩)), eqv _, eqv _, (eqv (.string ⟨(wrText st).toArray⟩)), eqv _, eqv _, (eqv (.string ⟨(wrList wrInt xs').toArray⟩)), eqv _, eqv _, (eqv (.string ⟨(wrList wrText (cutL ts)).toArray⟩)), (slFour ⟨(wrInt m).toArray⟩ ⟨(wrText st).toArray⟩ ⟨(wrList wrInt xs').toArray⟩ ⟨(wrList wrText (cutL ts)).toArray⟩), eqv _, eqv _, eqv _, (adAt z0 ⟨(ser z0 m st xs' (cutL ts)).toArray⟩), (eqv (.string ⟨(ser z0 m st xs' (cutL ts)).toArray⟩)), (eqv (.string ⟨(S ++ ser z0 m st xs' (cutL ts)).toArray⟩))] (by kernel_rfl) (by kernel_rfl) ⟨?o0, ?o1, ?o2, ?o3, ?o4, ?o5, ?o6, ?o7, ?o8, ?o9, ?o10, ?o11, ?o12, ?o13, ?o14, ?o15, ?o16, ?o17, ?o18, ?o19, trivial⟩ ?last
      case o0 => -- Op.move (Operand.tmp 5)
        intro xv W hE _
        simp only [putD, List.foldl_nil, List.getD_cons_zero]
        refine OpGoal.plain ?_
        go_wp2_with fail
        exact ⟨rfl, Ext.refl _, rfl⟩
      case o1 => -- Op.fieldAddr 45 (Operand.tmp 7) 1
        intro xv W hE _
        simp only [putD, List.foldl_nil, List.getD_cons_zero, List.getD_cons_succ]
        refine OpGoal.plain ?_
        go_wp2_with fail
        exact ⟨rfl, Ext.refl _, rfl⟩
      case o2 => -- Op.load 3 (Operand.tmp 48)
        intro xv W hE hp
        have r1 : xv 1 = _ := hp.1
        clear hp
        have hW := (Ext.drew w5).trans hE
        have l0 := (hW.old (p := ⟨bx, 0, none⟩) hbl5).trans y0
        have l1 := (hW.old (p := ⟨bx, 1, none⟩) hbl5).trans y1
        have l2 := (hW.old (p := ⟨bx, 2, none⟩) hbl5).trans y2
        have l3 := (hW.old (p := ⟨bx, 3, none⟩) hbl5).trans y3
        have l4 := (hW.old (p := ⟨bx, 4, none⟩) hbl5).trans y4
        simp only [putD, List.foldl_nil, List.foldl_cons, List.getD_cons_zero, List.getD_cons_succ, Act.put, List.setIfInBounds_toArray, List.set_cons_zero, List.set_cons_succ]
        refine OpGoal.plain ?_
        go_wp2_with fail
        exact ⟨rfl, Ext.refl _, rfl⟩
      case o3 => -- Op.call { callee := Callee.value (Operand.func 12), args := #[Operand.tmp 49], a
        intro xv W hE hp
        have r2 : xv 2 = _ := hp.1
        clear hp
        simp only [putD, List.foldl_nil, List.foldl_cons, List.getD_cons_zero, List.getD_cons_succ, Act.put, List.setIfInBounds_toArray, List.set_cons_zero, List.set_cons_succ]
        refine OpGoal.plain ?_
        go_wp2_with fail
        refine (wInt_any m hm W (hT5.ext ((Ext.drew w5).trans hE))).mono ?_
        rintro e w' ⟨rfl, hE2⟩
        go_wp2_with fail
        exact ⟨rfl, hE2, rfl⟩
      case o4 => -- Op.fieldAddr 45 (Operand.tmp 7) 2
        intro xv W hE _
        simp only [putD, List.foldl_nil, List.getD_cons_zero, List.getD_cons_succ]
        refine OpGoal.plain ?_
        go_wp2_with fail
        exact ⟨rfl, Ext.refl _, rfl⟩
      case o5 => -- Op.load 9 (Operand.tmp 51)
        intro xv W hE hp
        have r4 : xv 4 = _ := hp.1
        clear hp
        have hW := (Ext.drew w5).trans hE
        have l0 := (hW.old (p := ⟨bx, 0, none⟩) hbl5).trans y0
        have l1 := (hW.old (p := ⟨bx, 1, none⟩) hbl5).trans y1
        have l2 := (hW.old (p := ⟨bx, 2, none⟩) hbl5).trans y2
        have l3 := (hW.old (p := ⟨bx, 3, none⟩) hbl5).trans y3
        have l4 := (hW.old (p := ⟨bx, 4, none⟩) hbl5).trans y4
        simp only [putD, List.foldl_nil, List.foldl_cons, List.getD_cons_zero, List.getD_cons_succ, Act.put, List.setIfInBounds_toArray, List.set_cons_zero, List.set_cons_succ]
        refine OpGoal.plain ?_
        go_wp2_with fail
        exact ⟨rfl, Ext.refl _, rfl⟩
      case o6 => -- Op.call { callee := Callee.value (Operand.func 14), args := #[Operand.tmp 52], a
        intro xv W hE hp
        have r5 : xv 5 = _ := hp.1
        clear hp
        simp only [putD, List.foldl_nil, List.foldl_cons, List.getD_cons_zero, List.getD_cons_succ, Act.put, List.setIfInBounds_toArray, List.set_cons_zero, List.set_cons_succ]
        refine OpGoal.plain ?_
        go_wp2_with fail
        refine (wText_any st (by omega) W (hT5.ext ((Ext.drew w5).trans hE))).mono ?_
        rintro e w' ⟨rfl, hE2⟩
        go_wp2_with fail
        exact ⟨rfl, hE2, rfl⟩
      case o7 => -- Op.fieldAddr 45 (Operand.tmp 7) 3
        intro xv W hE _
        simp only [putD, List.foldl_nil, List.getD_cons_zero, List.getD_cons_succ]
        refine OpGoal.plain ?_
        go_wp2_with fail
        exact ⟨rfl, Ext.refl _, rfl⟩
      case o8 => -- Op.load 22 (Operand.tmp 54)
        intro xv W hE hp
        have r7 : xv 7 = _ := hp.1
        clear hp
        have hW := (Ext.drew w5).trans hE
        have l0 := (hW.old (p := ⟨bx, 0, none⟩) hbl5).trans y0
        have l1 := (hW.old (p := ⟨bx, 1, none⟩) hbl5).trans y1
        have l2 := (hW.old (p := ⟨bx, 2, none⟩) hbl5).trans y2
        have l3 := (hW.old (p := ⟨bx, 3, none⟩) hbl5).trans y3
        have l4 := (hW.old (p := ⟨bx, 4, none⟩) hbl5).trans y4
        simp only [putD, List.foldl_nil, List.foldl_cons, List.getD_cons_zero, List.getD_cons_succ, Act.put, List.setIfInBounds_toArray, List.set_cons_zero, List.set_cons_succ]
        refine OpGoal.plain ?_
        go_wp2_with fail
        exact ⟨rfl, Ext.refl _, rfl⟩
      case o9 => -- Op.call { callee := Callee.value (Operand.func 16), args := #[Operand.tmp 55], a
        intro xv W hE hp
        have r8 : xv 8 = _ := hp.1
        clear hp
        simp only [putD, List.foldl_nil, List.foldl_cons, List.getD_cons_zero, List.getD_cons_succ, Act.put, List.setIfInBounds_toArray, List.set_cons_zero, List.set_cons_succ]
        refine OpGoal.plain ?_
        go_wp2_with fail
        refine (wlist_I A3 k3 d3 xs' W (hX5.ext ((Ext.drew w5).trans hE)) (by omega) hV2 (by have := flat_small wrInt 22 xs' (fun x hx => wrInt_len (hV2 x hx)); rw [HX2L.out] at this; omega) (hT5.ext ((Ext.drew w5).trans hE))).mono ?_
        rintro e w' ⟨rfl, hE2⟩
        go_wp2_with fail
        exact ⟨rfl, hE2, rfl⟩
      case o10 => -- Op.fieldAddr 45 (Operand.tmp 7) 4
        intro xv W hE _
        simp only [putD, List.foldl_nil, List.getD_cons_zero, List.getD_cons_succ]
        refine OpGoal.plain ?_
        go_wp2_with fail
        exact ⟨rfl, Ext.refl _, rfl⟩
      case o11 => -- Op.load 23 (Operand.tmp 57)
        intro xv W hE hp
        have r10 : xv 10 = _ := hp.1
        clear hp
        have hW := (Ext.drew w5).trans hE
        have l0 := (hW.old (p := ⟨bx, 0, none⟩) hbl5).trans y0
        have l1 := (hW.old (p := ⟨bx, 1, none⟩) hbl5).trans y1
        have l2 := (hW.old (p := ⟨bx, 2, none⟩) hbl5).trans y2
        have l3 := (hW.old (p := ⟨bx, 3, none⟩) hbl5).trans y3
        have l4 := (hW.old (p := ⟨bx, 4, none⟩) hbl5).trans y4
        simp only [putD, List.foldl_nil, List.foldl_cons, List.getD_cons_zero, List.getD_cons_succ, Act.put, List.setIfInBounds_toArray, List.set_cons_zero, List.set_cons_succ]
        refine OpGoal.plain ?_
        go_wp2_with fail
        exact ⟨rfl, Ext.refl _, rfl⟩
      case o12 => -- Op.call { callee := Callee.value (Operand.func 18), args := #[Operand.tmp 58], a
        intro xv W hE hp
        have r11 : xv 11 = _ := hp.1
        clear hp
        simp only [putD, List.foldl_nil, List.foldl_cons, List.getD_cons_zero, List.getD_cons_succ, Act.put, List.setIfInBounds_toArray, List.set_cons_zero, List.set_cons_succ]
        refine OpGoal.plain ?_
        go_wp2_with fail
        refine (wlist_T B2 _ d2 (cutL ts) W (hR5.ext ((Ext.drew w5).trans hE)) (by omega) (fun x hx => by have := hcs x hx; unfold ShortT; omega) (by have := flat_small wrText 122 (cutL ts) (fun x hx => wrText_len (hcs x hx)); omega) (hT5.ext ((Ext.drew w5).trans hE))).mono ?_
        rintro e w' ⟨rfl, hE2⟩
        go_wp2_with fail
        exact ⟨rfl, hE2, rfl⟩
      case o13 => -- Op.buildSlice 23 4 #[(0, Operand.tmp 50), (1, Operand.tmp 53), (2, Operand.tmp 5
        intro xv W hE hp
        have r3 : xv 3 = _ := hp.1
        have r6 : xv 6 = _ := hp.2.1
        have r9 : xv 9 = _ := hp.2.2.1
        have r12 : xv 12 = _ := hp.2.2.2.1
        clear hp
        simp only [putD, List.foldl_nil, List.foldl_cons, List.getD_cons_zero, List.getD_cons_succ, Act.put, List.setIfInBounds_toArray, List.set_cons_zero, List.set_cons_succ]
        refine OpGoal.plain ?_
        go_wp2_with fail
        exact ⟨rfl, Ext.alloc _ _, W.heap.size, rfl, by simp, by simp, by simp, by simp, by simp⟩
      case o14 => -- Op.fieldAddr 45 (Operand.tmp 7) 0
        intro xv W hE _
        simp only [putD, List.foldl_nil, List.getD_cons_zero, List.getD_cons_succ]
        refine OpGoal.plain ?_
        go_wp2_with fail
        exact ⟨rfl, Ext.refl _, rfl⟩
      case o15 => -- Op.load 5 (Operand.tmp 61)
        intro xv W hE hp
        have r14 : xv 14 = _ := hp.1
        clear hp
        have hW := (Ext.drew w5).trans hE
        have l0 := (hW.old (p := ⟨bx, 0, none⟩) hbl5).trans y0
        have l1 := (hW.old (p := ⟨bx, 1, none⟩) hbl5).trans y1
        have l2 := (hW.old (p := ⟨bx, 2, none⟩) hbl5).trans y2
        have l3 := (hW.old (p := ⟨bx, 3, none⟩) hbl5).trans y3
        have l4 := (hW.old (p := ⟨bx, 4, none⟩) hbl5).trans y4
        simp only [putD, List.foldl_nil, List.foldl_cons, List.getD_cons_zero, List.getD_cons_succ, Act.put, List.setIfInBounds_toArray, List.set_cons_zero, List.set_cons_succ]
        refine OpGoal.plain ?_
        go_wp2_with fail
        exact ⟨rfl, Ext.refl _, rfl⟩
      case o16 => -- Op.binOp BinOp.rem 5 (Operand.tmp 62) (Operand.const (Value.int IntKind.u8 4)) 5
        intro xv W hE hp
        have r15 : xv 15 = _ := hp.1
        clear hp
        simp only [putD, List.foldl_nil, List.foldl_cons, List.getD_cons_zero, List.getD_cons_succ, Act.put, List.setIfInBounds_toArray, List.set_cons_zero, List.set_cons_succ]
        refine OpGoal.plain ?_
        go_wp2_with fail
        exact ⟨rfl, Ext.refl _, rfl⟩
      case o17 => -- Op.indexAddr 23 (Operand.tmp 60) (Operand.tmp 63)
        intro xv W hE hp
        obtain ⟨g, r13, hg, g0, g1, g2, g3⟩ := hp.1
        have r16 : xv 16 = _ := hp.2.1
        clear hp
        simp only [putD, List.foldl_nil, List.foldl_cons, List.getD_cons_zero, List.getD_cons_succ, Act.put, List.setIfInBounds_toArray, List.set_cons_zero, List.set_cons_succ]
        refine OpGoal.plain ?_
        go_wp2_with fail
        exact ⟨rfl, Ext.refl _, g, rfl, hg, four_at hz4 g0 g1 g2 g3⟩
      case o18 => -- Op.load 9 (Operand.tmp 64)
        intro xv W hE hp
        obtain ⟨g, r17, hg, hx⟩ := hp.1
        clear hp
        have hW := (Ext.drew w5).trans hE
        have l0 := (hW.old (p := ⟨bx, 0, none⟩) hbl5).trans y0
        have l1 := (hW.old (p := ⟨bx, 1, none⟩) hbl5).trans y1
        have l2 := (hW.old (p := ⟨bx, 2, none⟩) hbl5).trans y2
        have l3 := (hW.old (p := ⟨bx, 3, none⟩) hbl5).trans y3
        have l4 := (hW.old (p := ⟨bx, 4, none⟩) hbl5).trans y4
        simp only [putD, List.foldl_nil, List.foldl_cons, List.getD_cons_zero, List.getD_cons_succ, Act.put, List.setIfInBounds_toArray, List.set_cons_zero, List.set_cons_succ]
        refine OpGoal.plain ?_
        go_wp2_with fail
        exact ⟨rfl, Ext.refl _, rfl⟩
      case o19 => -- Op.binOp BinOp.add 9 (Operand.tmp 47) (Operand.tmp 65) 9
        intro xv W hE hp
        have r0 : xv 0 = _ := hp.1
        have r18 : xv 18 = _ := hp.2.1
        clear hp
        simp only [putD, List.foldl_nil, List.foldl_cons, List.getD_cons_zero, List.getD_cons_succ, Act.put, List.setIfInBounds_toArray, List.set_cons_zero, List.set_cons_succ]
        refine OpGoal.plain ?_
        go_wp2_with fail
        exact ⟨rfl, Ext.refl _, by show Value.string _ = Value.string _; rw [ba_append]⟩
      case last =>
        intro xv W hE hp
        have r0 : xv 0 = _ := hp.1
        have r1 : xv 1 = _ := hp.2.1
        have r2 : xv 2 = _ := hp.2.2.1
        have r3 : xv 3 = _ := hp.2.2.2.1
        have r4 : xv 4 = _ := hp.2.2.2.2.1
        have r5 : xv 5 = _ := hp.2.2.2.2.2.1
        have r6 : xv 6 = _ := hp.2.2.2.2.2.2.1
        have r7 : xv 7 = _ := hp.2.2.2.2.2.2.2.1
        have r8 : xv 8 = _ := hp.2.2.2.2.2.2.2.2.1
        have r9 : xv 9 = _ := hp.2.2.2.2.2.2.2.2.2.1
        have r10 : xv 10 = _ := hp.2.2.2.2.2.2.2.2.2.2.1
        have r11 : xv 11 = _ := hp.2.2.2.2.2.2.2.2.2.2.2.1
        have r12 : xv 12 = _ := hp.2.2.2.2.2.2.2.2.2.2.2.2.1
        obtain ⟨g, r13, hg, g0, g1, g2, g3⟩ := hp.2.2.2.2.2.2.2.2.2.2.2.2.2.1
        have r14 : xv 14 = _ := hp.2.2.2.2.2.2.2.2.2.2.2.2.2.2.1
        have r15 : xv 15 = _ := hp.2.2.2.2.2.2.2.2.2.2.2.2.2.2.2.1
        have r16 : xv 16 = _ := hp.2.2.2.2.2.2.2.2.2.2.2.2.2.2.2.2.1
        obtain ⟨g, r17, hg, hx⟩ := hp.2.2.2.2.2.2.2.2.2.2.2.2.2.2.2.2.2.1
        have r18 : xv 18 = _ := hp.2.2.2.2.2.2.2.2.2.2.2.2.2.2.2.2.2.2.1
        have r19 : xv 19 = _ := hp.2.2.2.2.2.2.2.2.2.2.2.2.2.2.2.2.2.2.2.1
        clear hp
        simp only [putD, List.foldl_nil, List.foldl_cons, List.getD_cons_zero, List.getD_cons_succ, Act.put, List.length_cons, List.length_nil, List.range_succ, List.range_zero, List.nil_append, List.cons_append, List.setIfInBounds_toArray, List.set_cons_zero, List.set_cons_succ]
        have hEW : Ext w5 W := (Ext.drew w5).trans hE
        go_wp2_with fail
        go_roundw
        case rel =>
          refine ⟨k + 1, us ++ [t], by omega, by go_num, by rw [List.length_append, HUL.out]; rfl, hO'.ext hEW, fun u hu => ?_, ?_, hE5.trans hEW⟩
          · rcases List.mem_append.1 hu with hu | hu
            · exact ⟨(hAt5 u hu).1, (hAt5 u hu).2.ext hEW⟩
            · rw [List.mem_singleton.1 hu]; exact ⟨hOk, hAtt5.ext hEW⟩
          · refine (show xv 19 = .string ⟨(S ++ ser z0 m st xs' (cutL ts)).toArray⟩ from r19).trans ?_
            rw [List.map_append, List.flatten_append, HS.out]; simp [HSER.out]
        case measure => simp [intOf]; omega
    · obtain rfl : k = n8 := by omega
      subst hul
      obtain ⟨wo, rfl⟩ : ∃ wo, wo = wr := ⟨_, rfl⟩
      obtain ⟨Ao, co, rfl, hcells⟩ := hO.form
      have hser : ∀ u ∈ us, u.ser.length ≤ 3000 := fun u hu => (hus u hu).1.ser (by rw [(hus u hu).2.xs.1]; exact (hus u hu).1.k) (by rw [(hus u hu).2.ts.1]; exact (hus u hu).1.m)
      have hSl := recs_small us hser
      obtain ⟨S, hS⟩ : ∃ S, (us.map Rec.ser).flatten = S := ⟨_, rfl⟩
      rw [hS] at hSl
      rw [hS]
      have HS := Lib.hid hS
      have hwo := hTr.sz
      have hwow := hE.sz
      clear hS hO hA
      go_wp2_with fail
      refine (new_any ⟨S.toArray⟩ wo).mono ?_
      rintro e w2 ⟨rfl, hR2, hE2⟩
      have hR2 : Rd w2 wo.heap.size (some S) := hR2
      go_wp2_with fail
      refine (left_any wo.heap.size (some S) w2 hR2).mono ?_
      rintro e w3 ⟨rfl, rfl⟩
      have hlr : ((some S).getD []).length = S.length := rfl
      rw [hlr]
      have hsz := toArr_size S
      go_wp2_with fail
      clear hlr
      go_loopw [81] (fun i wr => ∃ j : Nat, j ≤ us.length ∧ i = .int .i64 j ∧ Rd wr wo.heap.size (some (((us.drop j).map Rec.ser).flatten)) ∧ Ext wo wr) (fun i _ => us.length - (intOf i).toNat)
      case atStart => exact ⟨0, Nat.zero_le _, rfl, by rw [List.drop_zero, HS.out]; exact hR2, hE2⟩
      case round =>
        obtain ⟨j, hj, rfl, hRj, hEj⟩ := hrel
        have hrne := hRj.lt
        have hTj := hTr.ext hEj
        by_cases hlt2 : j < us.length
        · obtain ⟨b, rfl, hbl, _, hcl⟩ := hcells (by omega)
          have hcl := hcl j hlt2
          have hdrop : us.drop j = us[j] :: us.drop (j + 1) := List.drop_eq_getElem_cons hlt2
          obtain ⟨hOk, hAtj⟩ := hus us[j] (List.getElem_mem hlt2)
          have hR2l := recs_small (us.drop (j + 1)) (fun u hu => hser u (List.mem_of_mem_drop hu))
          have hdl : (us.drop (j + 1)).length ≤ 8 := by simp; omega
          have hul3 := hser us[j] (List.getElem_mem hlt2)
          rw [hdrop, List.map_cons, List.flatten_cons] at hRj
          generalize us[j] = u at hcl hOk hAtj hRj hul3
          obtain ⟨R, hR⟩ : ∃ R, ((us.drop (j + 1)).map Rec.ser).flatten = R := ⟨_, rfl⟩
          rw [hR] at hRj hR2l
          have HR := Lib.hid hR
          clear hR hdrop
          obtain ⟨q, m, st, A3, k3, d3, xs', B2, m2, d2, ts'⟩ := u
          have x0 := (hEj.old (p := ⟨b, j * 5 + 0, none⟩) hbl).trans (hcl 0 _ rfl)
          have x1 := (hEj.old (p := ⟨b, j * 5 + 1, none⟩) hbl).trans (hcl 1 _ rfl)
          have x2 := (hEj.old (p := ⟨b, j * 5 + 2, none⟩) hbl).trans (hcl 2 _ rfl)
          have x3 := (hEj.old (p := ⟨b, j * 5 + 3, none⟩) hbl).trans (hcl 3 _ rfl)
          have x4 := (hEj.old (p := ⟨b, j * 5 + 4, none⟩) hbl).trans (hcl 4 _ rfl)
          simp only [Nat.add_zero] at x0
          have hAr := hAtj.ext hEj
          obtain ⟨z, hz⟩ : ∃ z, q % 4 = z := ⟨_, rfl⟩
          have e1 : (q : Int) % 4 = z := by rw [← hz]; rfl
          have e2 : (q : Int).tmod 4 = z := by rw [← hz]; rfl
          have hz4 : z < 4 := by omega
          have hRz : Rd wr wo.heap.size (some (ser z m st xs' ts' ++ R)) := by rw [← hz]; exact hRj
          have hlz : (ser z m st xs' ts').length ≤ 3000 := by rw [← hz]; exact hul3
          clear hz hRj hul3 hcl
          obtain ⟨w4, hw4⟩ : ∃ w4, wr.alloc (.cells #[.int .u8 q, .int .i64 m, .string ⟨st.toArray⟩, .slice A3 k3 d3, .slice B2 m2 d2] 45) = w4 := ⟨_, rfl⟩
          have hB4 : w4.heap[wr.heap.size]? = some (.cells #[.int .u8 q, .int .i64 m, .string ⟨st.toArray⟩, .slice A3 k3 d3, .slice B2 m2 d2] 45 (0, 0)) := by rw [← hw4]; exact heap_alloc_new _ _
          have hE4 : Ext wr w4 := by rw [← hw4]; exact Ext.alloc _ _
          have hz4' : wr.heap.size < w4.heap.size := (Array.getElem?_eq_some_iff.1 hB4).1
          have y0 : w4.cell? ⟨wr.heap.size, 0, none⟩ = some (.int .u8 q) := by simp [World.cell?, hB4]
          have y1 : w4.cell? ⟨wr.heap.size, 1, none⟩ = some (.int .i64 m) := by simp [World.cell?, hB4]
          have y2 : w4.cell? ⟨wr.heap.size, 2, none⟩ = some (.string ⟨st.toArray⟩) := by simp [World.cell?, hB4]
          have y3 : w4.cell? ⟨wr.heap.size, 3, none⟩ = some (.slice A3 k3 d3) := by simp [World.cell?, hB4]
          have y4 : w4.cell? ⟨wr.heap.size, 4, none⟩ = some (.slice B2 m2 d2) := by simp [World.cell?, hB4]
          have hR4 := hRz.ext hE4
          have hT4 := hTj.ext hE4
          have hA4 := hAr.ext hE4
          have hl4 : ((some (ser z m st xs' ts' ++ R)).getD []).length < 4294967281 := by simp only [Option.getD_some, List.length_append]; omega
          have hEo4 := hEj.trans hE4
          have hnb3 : 0 < k3 → ∀ a : Addr, A3 = some a → some wo.heap.size ≠ some a.block := fun h0 a e e' => by have := RowI.lt hAtj.xs h0 e; simp only [Option.some.injEq] at e'; omega
          have hnb4 : 0 < m2 → ∀ a : Addr, B2 = some a → some wo.heap.size ≠ some a.block := fun h0 a e e' => by have := RowT.lt hAtj.ts h0 e; simp only [Option.some.injEq] at e'; omega
          have hneb : some wr.heap.size ≠ some wo.heap.size := fun e => by simp only [Option.some.injEq] at e; omega
          have hk3l : k3 ≤ 20 := hOk.k
          have hm2l : m2 ≤ 20 := hOk.m
          have hxl3 : xs'.length ≤ 20 := by rw [hA4.xs.1]; exact hk3l
          have htl4 : ts'.length ≤ 20 := by rw [hA4.ts.1]; exact hm2l
          rcases (by omega : z = 0 ∨ z = 1 ∨ z = 2 ∨ z = 3) with rfl | rfl | rfl | rfl
          -- ARMS
          · -- 0
            have hcur : (some (ser 0 m st xs' ts' ++ R)).bind (rdInt) = some (m, R) := twinInt.back m R hOk.n
            have tq : (m == m) = true := beq_self_eq_true _
            have hc := int_any wo.heap.size _ w4.drew (hR4.ext (Ext.drew _)) hwo (hT4.ext (Ext.drew _)) hl4
            rw [hcur] at hc
            clear hcur
            have HC := Lib.hid hc
            clear hc
            have yd : w4.drew.cell? ⟨wr.heap.size, 1, none⟩ = some (.int .i64 m) := ((Ext.drew w4).old (p := ⟨wr.heap.size, 1, none⟩) hz4').trans y1
            go_wp2_with fail
            go_region_held3 (fun w' => w'.cell? ⟨wr.heap.size, 1, none⟩ = some (.int .i64 m)) (first | exact hk5 | go_keep) (first | (go_at_call 22; refine HC.out.mono ?_; rintro e w5 ⟨⟨rfl, hR5⟩, hg5⟩; have hk5 : w5.cell? ⟨wr.heap.size, 1, none⟩ = some (.int .i64 m) := (World.cell?_of_block (a := ⟨wr.heap.size, 1, none⟩) (hg5.block wr.heap.size hz4' hneb)).trans yd))
            have hR6 : Rd w5 wo.heap.size (some R) := hR5
            have hE7 : Ext wo w5 := ext_own (hEo4.trans (Ext.drew w4)) hg5 (Nat.le_refl _)
            go_wp2_with fail
            refine (bad_any wo.heap.size (some R) w5 hR6).mono ?_
            rintro e w8 ⟨rfl, rfl⟩
            go_wp2_with fail
            go_roundw
            case rel => exact ⟨j + 1, by omega, by go_num, by rw [HR.out]; exact hR6, hE7⟩
            case measure => simp [intOf]; omega
          · -- 1
            have hst : st.length ≤ 100 := hOk.s
            have hcur : (some (ser 1 m st xs' ts' ++ R)).bind (rdText) = some (st, R) := twinText.back st R ⟨by omega, by omega⟩
            obtain ⟨sv, hsv⟩ : ∃ sv : ByteArray, (⟨st.toArray⟩ : ByteArray) = sv := ⟨_, rfl⟩
            rw [hsv] at hw4 x2 y2
            have tq : (sv.toList == sv.toList) = true := beq_self_eq_true _
            have hc := text_any wo.heap.size _ w4.drew (hR4.ext (Ext.drew _)) hwo (hT4.ext (Ext.drew _)) hl4
            rw [hcur] at hc
            simp only [TextEnd, Option.map_some, Option.getD_some, hsv] at hc
            clear hsv
            clear hcur
            have HC := Lib.hid hc
            clear hc
            have yd : w4.drew.cell? ⟨wr.heap.size, 2, none⟩ = some (.string sv) := ((Ext.drew w4).old (p := ⟨wr.heap.size, 2, none⟩) hz4').trans y2
            go_wp2_with fail
            go_region_held3 (fun w' => w'.cell? ⟨wr.heap.size, 2, none⟩ = some (.string sv)) (first | exact hk5 | go_keep) (first | (go_at_call 24; refine HC.out.mono ?_; rintro e w5 ⟨⟨rfl, hR5⟩, hg5⟩; have hk5 : w5.cell? ⟨wr.heap.size, 2, none⟩ = some (.string sv) := (World.cell?_of_block (a := ⟨wr.heap.size, 2, none⟩) (hg5.block wr.heap.size hz4' hneb)).trans yd))
            have hR6 : Rd w5 wo.heap.size (some R) := hR5
            have hE7 : Ext wo w5 := ext_own (hEo4.trans (Ext.drew w4)) hg5 (Nat.le_refl _)
            go_wp2_with fail
            refine (bad_any wo.heap.size (some R) w5 hR6).mono ?_
            rintro e w8 ⟨rfl, rfl⟩
            go_wp2_with fail
            go_roundw
            case rel => exact ⟨j + 1, by omega, by go_num, by rw [HR.out]; exact hR6, hE7⟩
            case measure => simp [intOf]; omega
          · -- 2
            have hcur : (some (ser 2 m st xs' ts' ++ R)).bind (rdList rdInt) = some (xs', R) := (twinList twinInt).back xs' R hOk.xs
            have hc := list_I wo.heap.size _ w4.drew (hR4.ext (Ext.drew _)) hwo (hT4.ext (Ext.drew _)) hl4
            rw [hcur] at hc
            simp only [ListI, Option.map_some, Option.getD_some] at hc
            clear hcur
            have HC := Lib.hid hc
            clear hc
            have yd : w4.drew.cell? ⟨wr.heap.size, 3, none⟩ = some (.slice A3 k3 d3) := ((Ext.drew w4).old (p := ⟨wr.heap.size, 3, none⟩) hz4').trans y3
            go_wp2_with fail
            go_region_held3 (fun w' => w'.cell? ⟨wr.heap.size, 3, none⟩ = some (.slice A3 k3 d3)) (first | exact hk6 | exact hk5 | go_keep) (first | (go_at_call 27; refine HC.out.mono ?_; rintro e w5 ⟨⟨⟨v5, rfl, hO5⟩, hR5⟩, hg5⟩; obtain ⟨A5, c5, rfl, hrow5⟩ := hO5.form; have hk5 : w5.cell? ⟨wr.heap.size, 3, none⟩ = some (.slice A3 k3 d3) := (World.cell?_of_block (a := ⟨wr.heap.size, 3, none⟩) (hg5.block wr.heap.size hz4' hneb)).trans yd) | (go_at_call 26; refine (same_I A5 A3 _ k3 c5 d3 xs' xs' w5 hrow5 (hA4.xs.keep ((grown_ext (Ext.drew w4) _).trans hg5) hnb3) (by omega) (by omega)).mono ?_; rintro e w6 ⟨rfl, hE6⟩; have hk6 : w6.cell? ⟨wr.heap.size, 3, none⟩ = some (.slice A3 k3 d3) := (hE6.old (p := ⟨wr.heap.size, 3, none⟩) (Nat.lt_of_lt_of_le hz4' hg5.size)).trans hk5))
            have hR6 : Rd w6 wo.heap.size (some R) := Rd.ext (l := some R) hR5 hE6
            have hE7 : Ext wo w6 := (ext_own (hEo4.trans (Ext.drew w4)) hg5 (Nat.le_refl _)).trans hE6
            go_wp2_with fail
            refine (bad_any wo.heap.size (some R) w6 hR6).mono ?_
            rintro e w8 ⟨rfl, rfl⟩
            go_wp2_with fail
            go_roundw
            case rel => exact ⟨j + 1, by omega, by go_num, by rw [HR.out]; exact hR6, hE7⟩
            case measure => simp [intOf]; omega
          · -- 3
            have hcur : (some (ser 3 m st xs' ts' ++ R)).bind (rdList rdText) = some (ts', R) := (twinList twinText).back ts' R (fun t ht => by have := hOk.ts t ht; exact ⟨by omega, by omega⟩)
            have hc := list_T wo.heap.size _ w4.drew (hR4.ext (Ext.drew _)) hwo (hT4.ext (Ext.drew _)) hl4
            rw [hcur] at hc
            simp only [ListT, Option.map_some, Option.getD_some] at hc
            clear hcur
            have HC := Lib.hid hc
            clear hc
            have yd : w4.drew.cell? ⟨wr.heap.size, 4, none⟩ = some (.slice B2 m2 d2) := ((Ext.drew w4).old (p := ⟨wr.heap.size, 4, none⟩) hz4').trans y4
            go_wp2_with fail
            go_region_held3 (fun w' => w'.cell? ⟨wr.heap.size, 4, none⟩ = some (.slice B2 m2 d2)) (first | exact hk6 | exact hk5 | go_keep) (first | (go_at_call 30; refine HC.out.mono ?_; rintro e w5 ⟨⟨⟨v5, rfl, hO5⟩, hR5⟩, hg5⟩; obtain ⟨A5, c5, rfl, hrow5⟩ := hO5.form; have hk5 : w5.cell? ⟨wr.heap.size, 4, none⟩ = some (.slice B2 m2 d2) := (World.cell?_of_block (a := ⟨wr.heap.size, 4, none⟩) (hg5.block wr.heap.size hz4' hneb)).trans yd) | (go_at_call 29; refine (same_T A5 B2 _ m2 c5 d2 ts' ts' w5 hrow5 (hA4.ts.keep ((grown_ext (Ext.drew w4) _).trans hg5) hnb4) (by omega) (by omega)).mono ?_; rintro e w6 ⟨rfl, hE6⟩; have hk6 : w6.cell? ⟨wr.heap.size, 4, none⟩ = some (.slice B2 m2 d2) := (hE6.old (p := ⟨wr.heap.size, 4, none⟩) (Nat.lt_of_lt_of_le hz4' hg5.size)).trans hk5))
            have hR6 : Rd w6 wo.heap.size (some R) := Rd.ext (l := some R) hR5 hE6
            have hE7 : Ext wo w6 := (ext_own (hEo4.trans (Ext.drew w4)) hg5 (Nat.le_refl _)).trans hE6
            go_wp2_with fail
            refine (bad_any wo.heap.size (some R) w6 hR6).mono ?_
            rintro e w8 ⟨rfl, rfl⟩
            go_wp2_with fail
            go_roundw
            case rel => exact ⟨j + 1, by omega, by go_num, by rw [HR.out]; exact hR6, hE7⟩
            case measure => simp [intOf]; omega
          -- END
        · obtain rfl : j = us.length := by omega
          have hRe : Rd wr wo.heap.size (some []) := by have := hRj; simpa using this
          go_wp2_with fail
          refine (left_any wo.heap.size (some []) wr hRe).mono ?_
          rintro e w5 ⟨rfl, rfl⟩
          go_wp2_with fail
          go_ret
          exact ⟨rfl, hE.trans hEj⟩
end Go.Proofs.YthdbdpfgccipdaaDoor
