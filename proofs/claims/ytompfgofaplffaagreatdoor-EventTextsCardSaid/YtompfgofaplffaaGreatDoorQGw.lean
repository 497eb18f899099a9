/- The law's sanity: what its calls answer. -/
import Derived.Test.YtompfgofaplffaaGreatDoorQGs
import Derived.Test.YtompfgofaplffaaGreatDoorQGn
import Derived.ArgAppend
import Derived.Deep.Cut
set_option linter.unusedSimpArgs false
set_option linter.unusedVariables false
namespace Go.Proofs.YtompfgofaplffaaGreatDoor
open Go.RowKit Hach Num

def sP1 : List UInt8 := [103, 97, 116, 104, 101, 114, 32, 56, 32, 57, 32, 97, 116, 32, 52]
def sP2 : List UInt8 := [103, 97, 116, 104, 101, 114, 32, 56, 32, 97, 116, 32, 52]
def sP3 : List UInt8 := [116, 104, 105, 110, 32, 48, 55, 32, 97, 116, 32, 57]
theorem rdP1 {o : Option Ev} (h : Reads sP1 o) : o = some ⟨4, 4, 8, 9, 0⟩ := by
  have hc : Clean ⟨4, 4, 8, 9, 0⟩ := ⟨by decide, by unfold InEv InI; decide, by decide⟩
  have ht : textE ⟨4, 4, 8, 9, 0⟩ = sP1 := by decide +kernel
  rw [← ht] at h
  exact reads_back hc h
theorem rdP2 {o : Option Ev} (h : Reads sP2 o) : o = none := reads_one h (reads_bad (by unfold badR; right; right; right; decide +kernel))
theorem rdP3 {o : Option Ev} (h : Reads sP3 o) : o = none := by
  have hb : ¬ badR sP3 := by
    unfold badR
    rintro (h | h | h | h)
    · revert h; decide +kernel
    · revert h; decide +kernel
    · revert h; decide +kernel
    · revert h; decide +kernel
  have h1 := reads_r hb
  rw [if_neg (by decide +kernel)] at h1
  exact reads_one h h1
def exMV (a : Ma) : Value := .agg #[.slice a.ea exM.edges.length a.ec, .slice a.fa exM.faces.length a.fc, .slice a.wa exM.ways.length a.wc, .slice a.pa exM.places.length a.pc]
theorem ex_two (i j : Nat) (t q x y : Int) (hi : i < 3) (hj : j < 3) (hx : (fa exFs i).id = x) (hy : (fa exFs j).id = y) (hq : canE exEs x y t (fa exFs i).weight = q) (a : Ma) (b o : Nat) (w : World) (hm : MpAt w a exM) (hA : a.fa = some ⟨b, o, none⟩) :
    Calls Tryz.prog 16 #[exMV a, .agg #[.int .i64 2, .int .i64 t, .int .i64 x, .int .i64 y, .int .i64 0]] w fun r w' => r = .returned (.int .i64 q) ∧ Ext w w' := by
  have h := ecan_two exM a b o i j 2 t w hm hA exFuse hi hj
  rw [show (fa exM.faces i).id = x from hx, show (fa exM.faces j).id = y from hy, show canE exM.edges x y t (fa exM.faces i).weight = q from hq] at h
  exact h
theorem ex_c1 (a : Ma) (b o : Nat) (w : World) (hm : MpAt w a exM) (hA : a.fa = some ⟨b, o, none⟩) : Calls Tryz.prog 16 #[exMV a, .agg #[.int .i64 2, .int .i64 4, .int .i64 7, .int .i64 5, .int .i64 0]] w fun r w' => r = .returned (.int .i64 0) ∧ Ext w w' :=
  ex_two 2 0 4 0 7 5 (by decide) (by decide) rfl rfl (by decide +kernel) a b o w hm hA
theorem ex_c2 (a : Ma) (b o : Nat) (w : World) (hm : MpAt w a exM) (hA : a.fa = some ⟨b, o, none⟩) : Calls Tryz.prog 16 #[exMV a, .agg #[.int .i64 2, .int .i64 3, .int .i64 7, .int .i64 5, .int .i64 0]] w fun r w' => r = .returned (.int .i64 21) ∧ Ext w w' :=
  ex_two 2 0 3 21 7 5 (by decide) (by decide) rfl rfl (by decide +kernel) a b o w hm hA
theorem ex_c3 (a : Ma) (b o : Nat) (w : World) (hm : MpAt w a exM) (hA : a.fa = some ⟨b, o, none⟩) : Calls Tryz.prog 16 #[exMV a, .agg #[.int .i64 2, .int .i64 1025, .int .i64 7, .int .i64 5, .int .i64 0]] w fun r w' => r = .returned (.int .i64 3) ∧ Ext w w' :=
  ex_two 2 0 1025 3 7 5 (by decide) (by decide) rfl rfl (by decide +kernel) a b o w hm hA
theorem ex_c4 (a : Ma) (w : World) : Calls Tryz.prog 16 #[exMV a, .agg #[.int .i64 5, .int .i64 4, .int .i64 7, .int .i64 5, .int .i64 0]] w fun r w' => r = .returned (.int .i64 20) ∧ Ext w w' :=
  ecan_odd exM a ⟨5, 4, 7, 5, 0⟩ (by decide) w
theorem ex_c5 (a : Ma) (b o : Nat) (w : World) (hm : MpAt w a exM) (hA : a.fa = some ⟨b, o, none⟩) : Calls Tryz.prog 16 #[exMV a, .agg #[.int .i64 2, .int .i64 900, .int .i64 6, .int .i64 7, .int .i64 0]] w fun r w' => r = .returned (.int .i64 13) ∧ Ext w w' :=
  ex_two 1 2 900 13 6 7 (by decide) (by decide) rfl rfl (by decide +kernel) a b o w hm hA
theorem ex_t1 (w : World) (ht : Tabs w) : Calls Tryz.prog 7 #[.agg #[.int .i64 1, .int .i64 17, .int .i64 3, .int .i64 0, .int .i64 2]] w fun r w' => r = .returned (.string ⟨#[100, 114, 111, 112, 32, 51, 32, 50, 32, 97, 116, 32, 49, 55]⟩) ∧ Ext w w' := by
  have h := text_any ⟨1, 17, 3, 0, 2⟩ (by unfold InEv InI; decide) w ht
  rw [show textE ⟨1, 17, 3, 0, 2⟩ = [100, 114, 111, 112, 32, 51, 32, 50, 32, 97, 116, 32, 49, 55] by decide +kernel] at h
  exact h
theorem ex_t2 (w : World) (ht : Tabs w) : Calls Tryz.prog 7 #[.agg #[.int .i64 3, .int .i64 9, .int .i64 (-7), .int .i64 0, .int .i64 0]] w fun r w' => r = .returned (.string ⟨#[116, 104, 105, 110, 32, 45, 55, 32, 97, 116, 32, 57]⟩) ∧ Ext w w' := by
  have h := text_any ⟨3, 9, -7, 0, 0⟩ (by unfold InEv InI; decide) w ht
  rw [show textE ⟨3, 9, -7, 0, 0⟩ = [116, 104, 105, 110, 32, 45, 55, 32, 97, 116, 32, 57] by decide +kernel] at h
  exact h
theorem ex_p1 (w : World) (ht : Tabs w) : Calls Tryz.prog 10 #[.string ⟨#[103, 97, 116, 104, 101, 114, 32, 56, 32, 57, 32, 97, 116, 32, 52]⟩] w fun r w' => r = .returned (.tuple #[.agg #[.int .i64 4, .int .i64 4, .int .i64 8, .int .i64 9, .int .i64 0], .bool true]) ∧ Ext w w' := by
  refine (parse_any ⟨#[103, 97, 116, 104, 101, 114, 32, 56, 32, 57, 32, 97, 116, 32, 52]⟩ w (by decide) ht).mono ?_
  rintro r w' ⟨⟨o, ho, rfl⟩, hE⟩
  obtain rfl := rdP1 ho
  exact ⟨rfl, hE⟩
theorem ex_p2 (w : World) (ht : Tabs w) : Calls Tryz.prog 10 #[.string ⟨#[103, 97, 116, 104, 101, 114, 32, 56, 32, 97, 116, 32, 52]⟩] w fun r w' => r = .returned (.tuple #[.agg #[.int .i64 0, .int .i64 0, .int .i64 0, .int .i64 0, .int .i64 0], .bool false]) ∧ Ext w w' := by
  refine (parse_any ⟨#[103, 97, 116, 104, 101, 114, 32, 56, 32, 97, 116, 32, 52]⟩ w (by decide) ht).mono ?_
  rintro r w' ⟨⟨o, ho, rfl⟩, hE⟩
  obtain rfl := rdP2 ho
  exact ⟨rfl, hE⟩
theorem ex_p3 (w : World) (ht : Tabs w) : Calls Tryz.prog 10 #[.string ⟨#[116, 104, 105, 110, 32, 48, 55, 32, 97, 116, 32, 57]⟩] w fun r w' => r = .returned (.tuple #[.agg #[.int .i64 0, .int .i64 0, .int .i64 0, .int .i64 0, .int .i64 0], .bool false]) ∧ Ext w w' := by
  refine (parse_any ⟨#[116, 104, 105, 110, 32, 48, 55, 32, 97, 116, 32, 57]⟩ w (by decide) ht).mono ?_
  rintro r w' ⟨⟨o, ho, rfl⟩, hE⟩
  obtain rfl := rdP3 ho
  exact ⟨rfl, hE⟩
theorem ex_n1 (w : World) : Calls Tryz.prog 15 #[.int .i64 0, .int .i64 4] w fun e w' => e = .returned (.bool true) ∧ Ext w w' := next_any 0 4 w (by decide) (by decide) (.inr ⟨by decide, by decide⟩)
theorem ex_n2 (w : World) : Calls Tryz.prog 15 #[.int .i64 10, .int .i64 11] w fun e w' => e = .returned (.bool true) ∧ Ext w w' := next_any 10 11 w (by decide) (by decide) (.inr ⟨by decide, by decide⟩)
theorem ex_n3 (w : World) : Calls Tryz.prog 15 #[.int .i64 1024, .int .i64 0] w fun e w' => e = .returned (.bool true) ∧ Ext w w' := next_any 1024 0 w (by decide) (by decide) (.inl ⟨rfl, by decide⟩)
theorem ex_all (a : Ma) (b o : Nat) (w : World) (hm : MpAt w a exM) (hA : a.fa = some ⟨b, o, none⟩) : Calls Tryz.prog 14 #[exMV a, .int .i64 2] w fun e w' => (∃ g c, e = .returned (.slice (some ⟨g, 0, none⟩) 3 c) ∧ EvRow w' g exS) ∧ Ext w w' := by
  refine (eall_any exM a b o 2 exS w hm hA exOk).mono ?_
  rintro r w' ⟨⟨g, c, rfl, _, _, hR⟩, hE⟩
  exact ⟨⟨g, c, rfl, hR⟩, hE⟩
theorem ex_same (g g' c c' : Nat) (w : World) (h1 : EvRow w g exS) (h2 : EvRow w g' exS) : Calls Tryz.prog 13 #[.slice (some ⟨g, 0, none⟩) 3 c, .slice (some ⟨g', 0, none⟩) 3 c'] w fun e w' => e = .returned (.bool true) ∧ Ext w w' := same_any g g' c c' exS w h1 h2 (by decide)
end Go.Proofs.YtompfgofaplffaaGreatDoor

namespace Go.Proofs.YtompfgofaplffaaGreatDoor
open Go.RowKit Hach Num

def evZ : Array Value := #[.int .i64 0, .int .i64 0, .int .i64 0, .int .i64 0, .int .i64 0]
def evX : Array Value := #[.int .i64 2, .int .i64 4, .int .i64 7, .int .i64 5, .int .i64 0]
def oE (B : Nat) := OnceS B 23 evZ evX
theorem oE.refl (B : Nat) (W : World) : oE B W W := OnceS.refl _ _ _ _ _
theorem oE.trans (B : Nat) {U V W : World} (h : oE B U V) (k : oE B V W) : oE B U W := OnceS.trans _ _ _ _ h k
theorem evX_one : ∀ v ∈ evX.toList, v.oneCell' = true := by
  intro v hv
  simp [evX] at hv
  rcases hv with rfl | rfl | rfl | rfl | rfl <;> rfl
theorem infoEvS : (Tryz.prog.info? 23).map (·.size) = some 5 := by kernel_rfl
def exR : Array Value := #[.int .i64 2, .int .i64 4, .int .i64 7, .int .i64 5, .int .i64 0, .int .i64 2, .int .i64 36, .int .i64 5, .int .i64 6, .int .i64 0, .int .i64 2, .int .i64 1000, .int .i64 6, .int .i64 5, .int .i64 0]
theorem exR_row {W : World} {g : Nat} (h : W.heap[g]? = some (.cells exR 23 (0, 0))) : EvRow W g exS := fun j u hu => cells_of h j u (by
  have e : (exS.map Ev.cells).flatten = exR.toList := by simp [exS, Ev.cells, exR]
  rw [e] at hu
  simpa using hu)
theorem ev_keep {W W' : World} {b g : Nat} {e : Ev} (h : EvBlk W b e) (hg : W.grownBy W' (some g)) (hne : b ≠ g) : EvBlk W' b e := blk_over h hg hne
theorem ev_fro {W : World} {b : Nat} {e : Ev} (h : EvBlk W b e) (i : Nat) : W.frozen? ⟨b, i, none⟩ = false := by unfold EvBlk at h; simp [World.frozen?, h]
theorem ev_set0 {W : World} {b : Nat} {e : Ev} (h : EvBlk W b e) (v : Int) : EvBlk (W.setCell ⟨b, 0, none⟩ (.int .i64 v)) b { e with kind := v } := by
  unfold EvBlk at h ⊢
  simp only [World.setCell, Array.getElem?_modify, if_pos, h, Option.map_some]
  simp
theorem ev_set1 {W : World} {b : Nat} {e : Ev} (h : EvBlk W b e) (v : Int) : EvBlk (W.setCell ⟨b, 1, none⟩ (.int .i64 v)) b { e with at_ := v } := by
  unfold EvBlk at h ⊢
  simp only [World.setCell, Array.getElem?_modify, if_pos, h, Option.map_some]
  simp

set_option maxRecDepth 100000 in
set_option maxHeartbeats 8000000 in
theorem sanity_any (w : World) (ht : Tabs w) : Calls Tryz.prog 5 #[] w fun e w' => e = .returned (.bool true) ∧ Ext w w' := by
  have HE := Lib.hid (fun W => example_any W)
  have HTB := Lib.hid (fun W (h : Ext w W) => ht.ext h)
  clear ht
  go_enter Tryz.func5, Tryz.ntmps5
  go_wp2_with fail
  refine (HE.out _).mono ?_
  rintro r w1 ⟨⟨a, b, o, rfl, hm, hA⟩, hE1⟩
  have HA := Lib.hid hA
  have HM1 := Lib.hid hm
  clear hm hA
  unfold Ma.cells
  go_wp2_with fail
  have hV1 := Go.heap_alloc_new w1 (.cells #[.slice a.ea exM.edges.length a.ec, .slice a.fa exM.faces.length a.fc, .slice a.wa exM.ways.length a.wc, .slice a.pa exM.places.length a.pc] 41)
  have hV2 := Go.heap_alloc_new (w1.alloc (.cells #[.slice a.ea exM.edges.length a.ec, .slice a.fa exM.faces.length a.fc, .slice a.wa exM.ways.length a.wc, .slice a.pa exM.places.length a.pc] 41)) (.cells evX 23)
  have hV3 := Go.heap_alloc_new ((w1.alloc (.cells #[.slice a.ea exM.edges.length a.ec, .slice a.fa exM.faces.length a.fc, .slice a.wa exM.ways.length a.wc, .slice a.pa exM.places.length a.pc] 41)).alloc (.cells evX 23)) (.cells exR 23)
  simp only [World.size_alloc] at hV2 hV3
  have k1 := blk_ext (blk_ext hV1 (Ext.alloc _ (.cells evX 23))) (Ext.alloc _ (.cells exR 23))
  have k2 := blk_ext hV2 (Ext.alloc _ (.cells exR 23))
  have hXV : Ext w1 (((w1.alloc (.cells #[.slice a.ea exM.edges.length a.ec, .slice a.fa exM.faces.length a.fc, .slice a.wa exM.ways.length a.wc, .slice a.pa exM.places.length a.pc] 41)).alloc (.cells evX 23)).alloc (.cells exR 23)) := Ext.trans (Ext.alloc _ _) (Ext.trans (Ext.alloc _ _) (Ext.alloc _ _))
  have hsz : (((w1.alloc (.cells #[.slice a.ea exM.edges.length a.ec, .slice a.fa exM.faces.length a.fc, .slice a.wa exM.ways.length a.wc, .slice a.pa exM.places.length a.pc] 41)).alloc (.cells evX 23)).alloc (.cells exR 23)).heap.size = w1.heap.size + 3 := by simp only [World.size_alloc]
  obtain ⟨V, hV⟩ : ∃ V, ((w1.alloc (.cells #[.slice a.ea exM.edges.length a.ec, .slice a.fa exM.faces.length a.fc, .slice a.wa exM.ways.length a.wc, .slice a.pa exM.places.length a.pc] 41)).alloc (.cells evX 23)).alloc (.cells exR 23) = V := ⟨_, rfl⟩
  rw [hV] at k1 k2 hV3 hXV hsz
  have HK1 : Hid (V.heap[w1.heap.size]? = some (.cells (a.cells exM).toArray 41 (0, 0))) := Lib.hid k1
  have HK2 : Hid (EvBlk V (w1.heap.size + 1) ⟨2, 4, 7, 5, 0⟩) := Lib.hid k2
  have HK3 : Hid (V.heap[w1.heap.size + 1 + 1]? = some (.cells exR 23 (0, 0))) := Lib.hid hV3
  have HXV := Lib.hid hXV
  have HX1 := Lib.hid (Ext.trans hE1 hXV)
  have HM := Lib.hid (HM1.out.keep hXV)
  have HSZ := Lib.hid hsz
  clear k1 k2 hV1 hV2 hV3 hXV hsz hE1 HM1
  unfold evX exR at hV
  rw [hV]
  clear hV
  have HLo := Lib.hid (fun W (h : oE V.heap.size V.drew W) => (Nat.le_trans (Ext.drew V).sz h.1.size : V.heap.size ≤ W.heap.size))
  have HW := Lib.hid (fun W (h : oE V.heap.size V.drew W) => (Below.trans (Ext.drew V) h.1 : Ext V W))
  apply wp_region_new (E := oE V.heap.size) [3, 4, 5] (fun h => OnceS.sz h) (oE.refl V.heap.size) (@oE.trans V.heap.size) (l := [_, _, _, _, _, _, _, _, _]) (t := []) [some 21, some 22, some 23, some 4, some 5, some 6, none, none, none] [[], [], [], [], [], [], [0, 3], [1, 4], [2, 5]] [] [(eql (.agg evX)), (eql (.agg evX)), (eql (.agg evX)), (newL V.heap.size 23 evZ evX), (newL V.heap.size 23 evZ evX), (newL V.heap.size 23 evZ evX), (putL V.heap.size 23 evZ evX 3), (putL V.heap.size 23 evZ evX 4), (putL V.heap.size 23 evZ evX 5)] (by kernel_rfl) (by kernel_rfl) (by kernel_rfl) ⟨?o0, ?o1, ?o2, ?o3, ?o4, ?o5, ?o6, ?o7, ?o8, trivial⟩ ?last
  case o0 => -- Op.load 23 (Operand.tmp 2)
    intro xv W hE _
    obtain ⟨e0, e1, e2, e3, e4⟩ := (HK2.out.ext (HW.out W hE)).get
    simp only [putD, List.foldl_nil, List.getD_cons_zero]
    refine OpGoal.plain ?_
    go_wp2_with fail
    exact ⟨rfl, oE.refl _ _, rfl⟩
  case o1 => -- Op.load 23 (Operand.tmp 2)
    intro xv W hE _
    obtain ⟨e0, e1, e2, e3, e4⟩ := (HK2.out.ext (HW.out W hE)).get
    simp only [putD, List.foldl_nil, List.getD_cons_zero, List.getD_cons_succ]
    refine OpGoal.plain ?_
    go_wp2_with fail
    exact ⟨rfl, oE.refl _ _, rfl⟩
  case o2 => -- Op.load 23 (Operand.tmp 2)
    intro xv W hE _
    obtain ⟨e0, e1, e2, e3, e4⟩ := (HK2.out.ext (HW.out W hE)).get
    simp only [putD, List.foldl_nil, List.getD_cons_zero, List.getD_cons_succ]
    refine OpGoal.plain ?_
    go_wp2_with fail
    exact ⟨rfl, oE.refl _ _, rfl⟩
  case o3 => -- Op.alloc 23
    intro xv W hE _
    simp only [putD, List.foldl_nil, List.getD_cons_zero, List.getD_cons_succ]
    refine OpGoal.plain ?_
    go_wp2_with fail
    exact ⟨rfl, ⟨OnceS.ext (Ext.alloc _ _) (HLo.out W hE), W.heap.size, rfl, HLo.out W hE, .inl (Go.heap_alloc_new _ _)⟩, ⟨W.heap.size, rfl, Nat.le_refl _, by simp⟩⟩
  case o4 => -- Op.alloc 23
    intro xv W hE _
    simp only [putD, List.foldl_nil, List.getD_cons_zero, List.getD_cons_succ]
    refine OpGoal.plain ?_
    go_wp2_with fail
    exact ⟨rfl, ⟨OnceS.ext (Ext.alloc _ _) (HLo.out W hE), W.heap.size, rfl, HLo.out W hE, .inl (Go.heap_alloc_new _ _)⟩, ⟨W.heap.size, rfl, Nat.le_refl _, by simp⟩⟩
  case o5 => -- Op.alloc 23
    intro xv W hE _
    simp only [putD, List.foldl_nil, List.getD_cons_zero, List.getD_cons_succ]
    refine OpGoal.plain ?_
    go_wp2_with fail
    exact ⟨rfl, ⟨OnceS.ext (Ext.alloc _ _) (HLo.out W hE), W.heap.size, rfl, HLo.out W hE, .inl (Go.heap_alloc_new _ _)⟩, ⟨W.heap.size, rfl, Nat.le_refl _, by simp⟩⟩
  case o6 => -- Op.store 23 (Operand.tmp 4) (Operand.tmp 21)
    intro xv W hE hp
    have r0 : xv 0 = _ := hp.1
    obtain ⟨g3, r3, lo3, hz3⟩ := hp.2.1
    clear hp
    simp only [putD, List.foldl_nil, List.foldl_cons, List.getD_cons_zero, List.getD_cons_succ, Act.put, List.setIfInBounds_toArray, List.set_cons_zero, List.set_cons_succ]
    refine OpGoal.plain ?_
    have hz' := hz3
    rcases hz3 with hz | hz
    · refine store_TE 23 23 g3 evZ.toList evX.toList hz rfl infoEvS evX_one rfl (.tmp 4) (.tmp 21) rfl r3 r0 ?_
      intro w9 h9 hg9
      exact ⟨rfl, fun _ => ⟨⟨OnceS.put (HLo.out W hE) lo3 hz' h9 hg9, g3, r3, lo3, h9⟩, fun h => by simp at h⟩⟩
    · refine store_TE 23 23 g3 evX.toList evX.toList hz rfl infoEvS evX_one rfl (.tmp 4) (.tmp 21) rfl r3 r0 ?_
      intro w9 h9 hg9
      exact ⟨rfl, fun _ => ⟨⟨OnceS.put (HLo.out W hE) lo3 hz' h9 hg9, g3, r3, lo3, h9⟩, fun h => by simp at h⟩⟩
  case o7 => -- Op.store 23 (Operand.tmp 5) (Operand.tmp 22)
    intro xv W hE hp
    have r1 : xv 1 = _ := hp.1
    obtain ⟨g4, r4, lo4, hz4⟩ := hp.2.1
    clear hp
    simp only [putD, List.foldl_nil, List.foldl_cons, List.getD_cons_zero, List.getD_cons_succ, Act.put, List.setIfInBounds_toArray, List.set_cons_zero, List.set_cons_succ]
    refine OpGoal.plain ?_
    have hz' := hz4
    rcases hz4 with hz | hz
    · refine store_TE 23 23 g4 evZ.toList evX.toList hz rfl infoEvS evX_one rfl (.tmp 5) (.tmp 22) rfl r4 r1 ?_
      intro w9 h9 hg9
      exact ⟨rfl, fun _ => ⟨⟨OnceS.put (HLo.out W hE) lo4 hz' h9 hg9, g4, r4, lo4, h9⟩, fun h => by simp at h⟩⟩
    · refine store_TE 23 23 g4 evX.toList evX.toList hz rfl infoEvS evX_one rfl (.tmp 5) (.tmp 22) rfl r4 r1 ?_
      intro w9 h9 hg9
      exact ⟨rfl, fun _ => ⟨⟨OnceS.put (HLo.out W hE) lo4 hz' h9 hg9, g4, r4, lo4, h9⟩, fun h => by simp at h⟩⟩
  case o8 => -- Op.store 23 (Operand.tmp 6) (Operand.tmp 23)
    intro xv W hE hp
    have r2 : xv 2 = _ := hp.1
    obtain ⟨g5, r5, lo5, hz5⟩ := hp.2.1
    clear hp
    simp only [putD, List.foldl_nil, List.foldl_cons, List.getD_cons_zero, List.getD_cons_succ, Act.put, List.setIfInBounds_toArray, List.set_cons_zero, List.set_cons_succ]
    refine OpGoal.plain ?_
    have hz' := hz5
    rcases hz5 with hz | hz
    · refine store_TE 23 23 g5 evZ.toList evX.toList hz rfl infoEvS evX_one rfl (.tmp 6) (.tmp 23) rfl r5 r2 ?_
      intro w9 h9 hg9
      exact ⟨rfl, fun _ => ⟨⟨OnceS.put (HLo.out W hE) lo5 hz' h9 hg9, g5, r5, lo5, h9⟩, fun h => by simp at h⟩⟩
    · refine store_TE 23 23 g5 evX.toList evX.toList hz rfl infoEvS evX_one rfl (.tmp 6) (.tmp 23) rfl r5 r2 ?_
      intro w9 h9 hg9
      exact ⟨rfl, fun _ => ⟨⟨OnceS.put (HLo.out W hE) lo5 hz' h9 hg9, g5, r5, lo5, h9⟩, fun h => by simp at h⟩⟩
  case last =>
    intro xv W hE hp hpr
    have r0 : xv 0 = _ := hp.1
    have r1 : xv 1 = _ := hp.2.1
    have r2 : xv 2 = _ := hp.2.2.1
    obtain ⟨g3, r3, lo3, hz3⟩ := hp.2.2.2.1
    obtain ⟨g4, r4, lo4, hz4⟩ := hp.2.2.2.2.1
    obtain ⟨g5, r5, lo5, hz5⟩ := hp.2.2.2.2.2.1
    obtain ⟨g6, r6, lo6, hx6⟩ := hp.2.2.2.2.2.2.1
    obtain ⟨g7, r7, lo7, hx7⟩ := hp.2.2.2.2.2.2.2.1
    obtain ⟨g8, r8, lo8, hx8⟩ := hp.2.2.2.2.2.2.2.2.1
    clear hp
    simp only [putD, List.foldl_nil, List.foldl_cons, List.getD_cons_zero, List.getD_cons_succ, Act.put, List.length_cons, List.length_nil, List.range_succ, List.range_zero, List.nil_append, List.cons_append, List.setIfInBounds_toArray, List.set_cons_zero, List.set_cons_succ]
    have n34 : g6 ≠ g7 := fun e => hpr 3 (by simp) 4 (by simp) (by simp) (by simp) (by decide) (by rw [r6, r7, e])
    have n35 : g6 ≠ g8 := fun e => hpr 3 (by simp) 5 (by simp) (by simp) (by simp) (by decide) (by rw [r6, r8, e])
    have n45 : g7 ≠ g8 := fun e => hpr 4 (by simp) 5 (by simp) (by simp) (by simp) (by decide) (by rw [r7, r8, e])
    have b6 : EvBlk W g6 ⟨2, 4, 7, 5, 0⟩ := hx6
    have b7 : EvBlk W g7 ⟨2, 4, 7, 5, 0⟩ := hx7
    have b8 : EvBlk W g8 ⟨2, 4, 7, 5, 0⟩ := hx8
    have hVW : Ext V W := HW.out W hE
    have HC := Lib.hid (fun U (h : Ext W U) => Ext.trans hVW h)
    simp only [r6, r7, r8, r0, r1, r2]
    clear hpr r0 r1 r2 r3 r4 r5 r6 r7 r8 hz3 hz4 hz5 lo3 lo4 lo5 hx6 hx7 hx8 hE HW HLo g3 g4 g5
    have s1 := grownE_set W g6 1 (.int .i64 3)
    have s2 := grownE_set (W.setCell ⟨g6, 1, none⟩ (.int .i64 3)) g7 1 (.int .i64 1025)
    have s3 := grownE_set ((W.setCell ⟨g6, 1, none⟩ (.int .i64 3)).setCell ⟨g7, 1, none⟩ (.int .i64 1025)) g8 0 (.int .i64 5)
    have X1 := Ext.grow_ge hVW s1 (fun b e => by simp only [Option.some.injEq] at e; omega)
    have X2 := Ext.grow_ge X1 s2 (fun b e => by simp only [Option.some.injEq] at e; omega)
    have HX3 := Lib.hid (Ext.grow_ge X2 s3 (fun b e => by simp only [Option.some.injEq] at e; omega))
    have b71 := ev_keep b7 s1 n34.symm
    have b82 := ev_keep (ev_keep b8 s1 n35.symm) s2 n45.symm
    have HB6 := Lib.hid (ev_keep (ev_keep (ev_set1 b6 3) s2 n34) s3 n35)
    have HB7 := Lib.hid (ev_keep (ev_set1 b71 1025) s3 n45)
    have HB8 := Lib.hid (ev_set0 b82 5)
    have f6 := ev_fro b6 1
    have f7 := ev_fro b71 1
    have f8 := ev_fro b82 0
    have c6 : W.cell? ⟨g6, 1, none⟩ = some (.int .i64 4) := b6.get.2.1
    have c7 : (W.setCell ⟨g6, 1, none⟩ (.int .i64 3)).cell? ⟨g7, 1, none⟩ = some (.int .i64 4) := b71.get.2.1
    have c8 : ((W.setCell ⟨g6, 1, none⟩ (.int .i64 3)).setCell ⟨g7, 1, none⟩ (.int .i64 1025)).cell? ⟨g8, 0, none⟩ = some (.int .i64 2) := b82.get.1
    clear s1 s2 s3 X1 X2 b6 b7 b8 b71 b82 n34 n35 n45 hVW HC
    go_upto_region 6 with fail
    clear f6 f7 f8 c6 c7 c8
    obtain ⟨U, hU⟩ : ∃ U, ((W.setCell ⟨g6, 1, none⟩ (.int .i64 3)).setCell ⟨g7, 1, none⟩ (.int .i64 1025)).setCell ⟨g8, 0, none⟩ (.int .i64 5) = U := ⟨_, rfl⟩
    rw [hU] at HX3 HB6 HB7 HB8
    rw [hU]
    clear hU
    have HBX := Lib.hid (fun W' (h : Ext U W') => Ma.box (blk_ext HK1.out (Ext.trans HX3.out h)))
    have HE0 : Hid (∀ W', Ext U W' → W'.cell? ⟨w1.heap.size + 1, 0, none⟩ = some (.int .i64 2) ∧ W'.cell? ⟨w1.heap.size + 1, 1, none⟩ = some (.int .i64 4) ∧ W'.cell? ⟨w1.heap.size + 1, 2, none⟩ = some (.int .i64 7) ∧ W'.cell? ⟨w1.heap.size + 1, 3, none⟩ = some (.int .i64 5) ∧ W'.cell? ⟨w1.heap.size + 1, 4, none⟩ = some (.int .i64 0)) := Lib.hid (fun W' h => (HK2.out.ext (Ext.trans HX3.out h)).get)
    have HE6 : Hid (∀ W', Ext U W' → W'.cell? ⟨g6, 0, none⟩ = some (.int .i64 2) ∧ W'.cell? ⟨g6, 1, none⟩ = some (.int .i64 3) ∧ W'.cell? ⟨g6, 2, none⟩ = some (.int .i64 7) ∧ W'.cell? ⟨g6, 3, none⟩ = some (.int .i64 5) ∧ W'.cell? ⟨g6, 4, none⟩ = some (.int .i64 0)) := Lib.hid (fun W' h => (HB6.out.ext h).get)
    have HE7 : Hid (∀ W', Ext U W' → W'.cell? ⟨g7, 0, none⟩ = some (.int .i64 2) ∧ W'.cell? ⟨g7, 1, none⟩ = some (.int .i64 1025) ∧ W'.cell? ⟨g7, 2, none⟩ = some (.int .i64 7) ∧ W'.cell? ⟨g7, 3, none⟩ = some (.int .i64 5) ∧ W'.cell? ⟨g7, 4, none⟩ = some (.int .i64 0)) := Lib.hid (fun W' h => (HB7.out.ext h).get)
    have HE8 : Hid (∀ W', Ext U W' → W'.cell? ⟨g8, 0, none⟩ = some (.int .i64 5) ∧ W'.cell? ⟨g8, 1, none⟩ = some (.int .i64 4) ∧ W'.cell? ⟨g8, 2, none⟩ = some (.int .i64 7) ∧ W'.cell? ⟨g8, 3, none⟩ = some (.int .i64 5) ∧ W'.cell? ⟨g8, 4, none⟩ = some (.int .i64 0)) := Lib.hid (fun W' h => (HB8.out.ext h).get)
    have HMM := Lib.hid (fun W' (h : Ext U W') => HM.out.keep (Ext.trans HX3.out h))
    have HTT := Lib.hid (fun W' (h : Ext U W') => HTB.out W' (Ext.trans (Ext.trans HX1.out HX3.out) h))
    have HRR := Lib.hid (fun W' (h : Ext U W') => exR_row (blk_ext HK3.out (Ext.trans HX3.out h)))
    have HWU := Lib.hid (fun W' (h : Ext U W') => Ext.trans (Ext.trans HX1.out HX3.out) h)
    clear HK1 HK2 HK3 HXV HX1 HM HSZ HX3 HB6 HB7 HB8 lo6 lo7 lo8 HTB HE
    have HU0 := Lib.hid (Ext.refl U)
    obtain ⟨m0, m1, m2, m3⟩ := HBX.out U HU0.out
    go_wp2_with fail
    refine (ex_all a b o _ (HMM.out _ HU0.out) HA.out).mono ?_
    rintro r u1 ⟨⟨gl, cl, rfl, hR⟩, hx⟩
    have HU1 := Lib.hid (Ext.trans HU0.out hx)
    clear hx m0 m1 m2 m3
    go_wp2_with fail
    refine (ex_same _ _ _ _ _ hR (HRR.out _ HU1.out)).mono ?_
    rintro r u2 ⟨rfl, hx⟩
    have HU2 := Lib.hid (Ext.trans HU1.out hx)
    clear hx
    clear hR
    --MARK2
    go_wp2_with fail
    refine (ex_n1 _).mono ?_
    rintro r u3 ⟨rfl, hx⟩
    have HU3 := Lib.hid (Ext.trans HU2.out hx)
    clear hx
    go_wp2_with fail
    refine (ex_n2 _).mono ?_
    rintro r u4 ⟨rfl, hx⟩
    have HU4 := Lib.hid (Ext.trans HU3.out hx)
    clear hx
    go_wp2_with fail
    refine (ex_n3 _).mono ?_
    rintro r u5 ⟨rfl, hx⟩
    have HU5 := Lib.hid (Ext.trans HU4.out hx)
    clear hx
    obtain ⟨m0, m1, m2, m3⟩ := HBX.out u5 HU5.out
    obtain ⟨e0, e1, e2, e3, e4⟩ := HE0.out u5 HU5.out
    go_wp2_with fail
    refine (ex_c1 a b o _ (HMM.out _ HU5.out) HA.out).mono ?_
    rintro r u6 ⟨rfl, hx⟩
    have HU6 := Lib.hid (Ext.trans HU5.out hx)
    clear hx m0 m1 m2 m3 e0 e1 e2 e3 e4
    obtain ⟨m0, m1, m2, m3⟩ := HBX.out u6 HU6.out
    obtain ⟨e0, e1, e2, e3, e4⟩ := HE6.out u6 HU6.out
    go_wp2_with fail
    refine (ex_c2 a b o _ (HMM.out _ HU6.out) HA.out).mono ?_
    rintro r u7 ⟨rfl, hx⟩
    have HU7 := Lib.hid (Ext.trans HU6.out hx)
    clear hx m0 m1 m2 m3 e0 e1 e2 e3 e4
    obtain ⟨m0, m1, m2, m3⟩ := HBX.out u7 HU7.out
    obtain ⟨e0, e1, e2, e3, e4⟩ := HE7.out u7 HU7.out
    go_wp2_with fail
    refine (ex_c3 a b o _ (HMM.out _ HU7.out) HA.out).mono ?_
    rintro r u8 ⟨rfl, hx⟩
    have HU8 := Lib.hid (Ext.trans HU7.out hx)
    clear hx m0 m1 m2 m3 e0 e1 e2 e3 e4
    obtain ⟨m0, m1, m2, m3⟩ := HBX.out u8 HU8.out
    obtain ⟨e0, e1, e2, e3, e4⟩ := HE8.out u8 HU8.out
    go_wp2_with fail
    refine (ex_c4 a _).mono ?_
    rintro r u9 ⟨rfl, hx⟩
    have HU9 := Lib.hid (Ext.trans HU8.out hx)
    clear hx m0 m1 m2 m3 e0 e1 e2 e3 e4
    --MARK9
    obtain ⟨m0, m1, m2, m3⟩ := HBX.out u9 HU9.out
    go_wp2_with fail
    refine (ex_c5 a b o _ (HMM.out _ HU9.out) HA.out).mono ?_
    rintro r u10 ⟨rfl, hx⟩
    have HU10 := Lib.hid (Ext.trans HU9.out hx)
    clear hx m0 m1 m2 m3
    go_wp2_with fail
    refine (ex_t1 _ (HTT.out _ HU10.out)).mono ?_
    rintro r u11 ⟨rfl, hx⟩
    have HU11 := Lib.hid (Ext.trans HU10.out hx)
    clear hx
    go_wp2_with fail
    refine (ex_t2 _ (HTT.out _ HU11.out)).mono ?_
    rintro r u12 ⟨rfl, hx⟩
    have HU12 := Lib.hid (Ext.trans HU11.out hx)
    clear hx
    --MARK12
    go_wp2_with fail
    refine (ex_p1 _ (HTT.out _ HU12.out)).mono ?_
    rintro r u13 ⟨rfl, hx⟩
    have HU13 := Lib.hid (Ext.trans HU12.out hx)
    clear hx
    have HQ9 := Lib.hid (fun W' (h : Ext (u13.alloc (.cells #[.int .i64 4, .int .i64 4, .int .i64 8, .int .i64 9, .int .i64 0] 23)) W') => And.intro (cells_of (blk_ext (Go.heap_alloc_new u13 (.cells #[.int .i64 4, .int .i64 4, .int .i64 8, .int .i64 9, .int .i64 0] 23)) h) 0 _ rfl) (And.intro (cells_of (blk_ext (Go.heap_alloc_new u13 (.cells #[.int .i64 4, .int .i64 4, .int .i64 8, .int .i64 9, .int .i64 0] 23)) h) 1 _ rfl) (And.intro (cells_of (blk_ext (Go.heap_alloc_new u13 (.cells #[.int .i64 4, .int .i64 4, .int .i64 8, .int .i64 9, .int .i64 0] 23)) h) 2 _ rfl) (And.intro (cells_of (blk_ext (Go.heap_alloc_new u13 (.cells #[.int .i64 4, .int .i64 4, .int .i64 8, .int .i64 9, .int .i64 0] 23)) h) 3 _ rfl) (And.intro (cells_of (blk_ext (Go.heap_alloc_new u13 (.cells #[.int .i64 4, .int .i64 4, .int .i64 8, .int .i64 9, .int .i64 0] 23)) h) 4 _ rfl) (Array.getElem?_eq_some_iff.1 (blk_ext (Go.heap_alloc_new u13 (.cells #[.int .i64 4, .int .i64 4, .int .i64 8, .int .i64 9, .int .i64 0] 23)) h)).1)))))
    --MARK13
    go_wp2_with fail
    refine (ex_p2 _ (HTT.out _ (Ext.trans HU13.out (Ext.alloc _ _)))).mono ?_
    rintro r u14 ⟨rfl, hx⟩
    have HX14 := Lib.hid hx
    have HU14 := Lib.hid (Ext.trans HU13.out (Ext.trans (Ext.alloc _ _) hx))
    clear hx
    go_wp2_with fail
    refine (ex_p3 _ (HTT.out _ (Ext.trans HU14.out (Ext.alloc _ _)))).mono ?_
    rintro r u15 ⟨rfl, hx⟩
    obtain ⟨q0, q1, q2, q3, q4, l13⟩ := HQ9.out u15 (Ext.trans HX14.out (Ext.trans (Ext.alloc _ _) hx))
    have HU15 := Lib.hid (Ext.trans HU14.out (Ext.trans (Ext.alloc _ _) hx))
    clear hx
    go_wp2_with fail
    go_ret
    exact ⟨rfl, HWU.out _ (Ext.trans HU15.out (Ext.alloc _ _))⟩
end Go.Proofs.YtompfgofaplffaaGreatDoor

namespace Go.Proofs.YtompfgofaplffaaGreatDoor
open Go.RowKit Hach Num

theorem gl_len : ∀ l : List (List UInt8), (∀ a ∈ l, a.length ≤ 21) → (glue l).length ≤ 22 * l.length
  | [], _ => Nat.zero_le _
  | [a], h => by have := h a (by simp); simp [glue]; omega
  | a :: b :: l, h => by
    have h1 := h a (by simp)
    have h2 := gl_len (b :: l) (fun x hx => h x (List.mem_cons_of_mem _ hx))
    simp only [glue, List.length_append, List.length_cons] at h2 ⊢
    omega
theorem wordK_len (k : Int) : (wordK k).length ≤ 21 := by
  unfold wordK
  split
  · decide
  · split
    · decide
    · split <;> decide
theorem textE_len {e : Ev} (h : InEv e) : (textE e).length ≤ 110 := by
  unfold textE
  split
  · have h1 := (itoa_size h.2.1).1
    have h2 := (itoa_size h.2.2.1).1
    have h3 := (itoa_size (secE_in h)).1
    have h4 := wordK_len e.kind
    unfold wordsE
    split
    · refine Nat.le_trans (gl_len _ ?_) (by simp)
      intro a ha
      simp only [List.mem_cons, List.not_mem_nil, or_false] at ha
      rcases ha with rfl | rfl | rfl | rfl
      · exact h4
      · exact h2
      · decide
      · exact h1
    · refine Nat.le_trans (gl_len _ ?_) (by simp)
      intro a ha
      simp only [List.mem_cons, List.not_mem_nil, or_false] at ha
      rcases ha with rfl | rfl | rfl | rfl | rfl
      · exact h4
      · exact h2
      · exact h3
      · decide
      · exact h1
  · simp
theorem inI_small {v : Int} (h0 : -1000 ≤ v) (h1 : v ≤ 1000) : InI v := by unfold InI; omega
def modR (n : Int) : Int := (n.tmod 4 + 4) % 4
theorem modR_or (n : Int) : modR n = 0 ∨ modR n = 1 ∨ modR n = 2 ∨ modR n = 3 := by unfold modR; omega
theorem mod4_any (n : Int) (w : World) : Calls Tryz.prog 6 #[.int .i64 n, .int .i64 4] w fun e w' => e = .returned (.int .i64 (modR n)) ∧ w' = w := by
  have HR := Lib.hid (show modR n = (n.tmod 4 + 4) % 4 from rfl)
  obtain ⟨q, hq⟩ : ∃ q, n.tmod 4 = q := ⟨_, rfl⟩
  rw [hq] at HR
  have b1 : -4 < q := by have := Int.lt_tmod_of_pos n (b := 4) (by decide); omega
  have b2 : q < 4 := by have := Int.tmod_lt_of_pos n (b := 4) (by decide); omega
  have k3 : (q + 4).tmod 4 = (q + 4) % 4 := Int.tmod_eq_emod_of_nonneg (by omega)
  go_enter Tryz.func6, Tryz.ntmps6
  go_wp2_with fail
  go_ret
  exact ⟨by rw [HR.out]; first | rfl | simp [k3], rfl⟩
theorem ev_set3 {W : World} {b : Nat} {e : Ev} (h : EvBlk W b e) (v : Int) : EvBlk (W.setCell ⟨b, 3, none⟩ (.int .i64 v)) b { e with other := v } := by
  unfold EvBlk at h ⊢
  simp only [World.setCell, Array.getElem?_modify, if_pos, h, Option.map_some]
  simp
theorem ev_set4 {W : World} {b : Nat} {e : Ev} (h : EvBlk W b e) (v : Int) : EvBlk (W.setCell ⟨b, 4, none⟩ (.int .i64 v)) b { e with n := v } := by
  unfold EvBlk at h ⊢
  simp only [World.setCell, Array.getElem?_modify, if_pos, h, Option.map_some]
  simp
def cut60 (s : ByteArray) : ByteArray := s.extract 0 (min s.size 60)
theorem cut60_size (s : ByteArray) : (cut60 s).size ≤ 60 := by unfold cut60; rw [ByteArray.size_extract]; omega
theorem ba_back {d : ByteArray} {l : List UInt8} (h : l = d.data.toList) : (⟨l.toArray⟩ : ByteArray) = d := by subst h; rfl

set_option maxRecDepth 100000 in
set_option maxHeartbeats 8000000 in
theorem EventBack_any (x0 x1 x2 x3 x4 : Int) (s : ByteArray) (h1 : InI x1) (h2 : InI x2) (h3 : InI x3) (h4 : InI x4) (hs : s.size < 9223372036854775808) (w : World) (ht : Tabs w) :
    Calls Tryz.prog 4 #[.agg #[.int .i64 x0, .int .i64 x1, .int .i64 x2, .int .i64 x3, .int .i64 x4], .string s] w fun e w' => e = .returned (.bool true) ∧ Ext w w' := by
  have HS := Lib.hid (fun W (h : Ext w W) => sanity_any W (ht.ext h))
  have HMD := Lib.hid (fun W => mod4_any x0 W)
  have HTX := Lib.hid (fun e he W (h : Ext w W) => text_any e he W (ht.ext h))
  have HPA := Lib.hid (fun (d : ByteArray) (hd : d.size < 4294967281) W (h : Ext w W) => parse_any d W hd (ht.ext h))
  have HI := Lib.hid (And.intro h1 (And.intro h2 (And.intro h3 h4)))
  have hcut : s.extract 0 (min (s.size : Int) 60).toNat = cut60 s := by
    unfold cut60
    rw [show (min (s.size : Int) 60).toNat = min s.size 60 by omega]
  have HCS : Hid ((cut60 s).size < 4294967281) := Lib.hid (by have := cut60_size s; omega)
  generalize cut60 s = sc at hcut HCS
  have hq := modR_or x0
  generalize modR x0 = q at *
  clear ht h1 h2 h3 h4
  go_enter Tryz.func4, Tryz.ntmps4
  go_wp2_with fail
  refine (HS.out _ (Ext.alloc _ _)).mono ?_
  rintro r w1 ⟨rfl, hE1⟩
  have hB1 : EvBlk w1 w.heap.size ⟨x0, x1, x2, x3, x4⟩ := blk_ext (Go.heap_alloc_new w _) hE1
  have hX1 := Ext.trans (Ext.alloc _ _) hE1
  have HB1 := Lib.hid hB1
  have HX1 := Lib.hid hX1
  obtain ⟨c0, c1, c2, c3, c4⟩ := hB1.get
  have f0 := ev_fro hB1 0
  have f3 := ev_fro hB1 3
  have f4 := ev_fro hB1 4
  clear hE1 hX1 hB1 HS
  go_wp2_with fail
  refine (HMD.out _).mono ?_
  rintro r w2 ⟨rfl, rfl⟩
  clear HMD
  rcases hq with rfl | rfl | rfl | rfl
  · have HU : Hid (EvBlk ((w2.setCell ⟨w.heap.size, 0, none⟩ (.int .i64 1)).setCell ⟨w.heap.size, 3, none⟩ (.int .i64 0)) w.heap.size ⟨1, x1, x2, 0, x4⟩) := Lib.hid (ev_set3 (ev_set0 (HB1.out) 1) 0)
    have HXU : Hid (Ext w ((w2.setCell ⟨w.heap.size, 0, none⟩ (.int .i64 1)).setCell ⟨w.heap.size, 3, none⟩ (.int .i64 0))) := Lib.hid (Ext.grow_ge HX1.out (grownE_trans (grownE_set (w2) w.heap.size 0 (.int .i64 1)) (grownE_set ((w2.setCell ⟨w.heap.size, 0, none⟩ (.int .i64 1))) w.heap.size 3 (.int .i64 0))) (fun b e => by simp only [Option.some.injEq] at e; omega))
    have HIN : Hid (InEv ⟨1, x1, x2, 0, x4⟩) := Lib.hid ⟨inI_small (v := 1) (by decide) (by decide), HI.out.1, HI.out.2.1, (inI_small (v := 0) (by decide) (by decide)), HI.out.2.2.2⟩
    have HCL : Hid (Clean ⟨1, x1, x2, 0, x4⟩) := Lib.hid ⟨(show (1 : Int) ≤ 1 ∧ (1 : Int) ≤ 4 by decide), HIN.out, rfl⟩
    have HLN : Hid ((⟨(textE ⟨1, x1, x2, 0, x4⟩).toArray⟩ : ByteArray).size < 4294967281) := Lib.hid (by have := textE_len HIN.out; show (textE ⟨1, x1, x2, 0, x4⟩).toArray.size < _; simp; omega)
    have HT1 := Lib.hid (HTX.out ⟨1, x1, x2, 0, x4⟩ HIN.out _ HXU.out)
    go_wp2_with fail
    refine HT1.out.mono ?_
    rintro r w3 ⟨rfl, hE3⟩
    have HB3 := Lib.hid (HU.out.ext hE3)
    have HX3 := Lib.hid (Ext.trans HXU.out hE3)
    clear hE3 c0 c1 c2 c3 c4 f0 f3 f4 HU HXU HT1
    have HRB := Lib.hid (fun o (h : Reads (⟨(textE ⟨1, x1, x2, 0, x4⟩).toArray⟩ : ByteArray).data.toList o) => reads_back (e := ⟨1, x1, x2, 0, x4⟩) HCL.out h)
    generalize (⟨(textE ⟨1, x1, x2, 0, x4⟩).toArray⟩ : ByteArray) = tx at *
    go_wp2_with fail
    refine (HPA.out tx HLN.out _ HX3.out).mono ?_
    rintro r w4 ⟨⟨o, ho, rfl⟩, hE4⟩
    obtain rfl := HRB.out _ ho
    have HB4 := Lib.hid (HB3.out.ext hE4)
    have HX4 := Lib.hid (Ext.trans HX3.out hE4)
    clear hE4 HB3 HX3 ho
    unfold resV Ev.cells
    simp only [Option.getD_some, Option.isSome_some]
    go_wp2_with fail
    have hK5 := Go.heap_alloc_new w4 (.cells #[.int .i64 1, .int .i64 x1, .int .i64 x2, .int .i64 0, .int .i64 x4] 23)
    have HK5 : Hid (EvBlk (w4.alloc (.cells #[.int .i64 1, .int .i64 x1, .int .i64 x2, .int .i64 0, .int .i64 x4] 23)) w4.heap.size ⟨1, x1, x2, 0, x4⟩) := Lib.hid hK5
    clear hK5
    refine (HPA.out sc HCS.out _ (Ext.trans HX4.out (Ext.alloc _ _))).mono ?_
    rintro r w5 ⟨⟨o, ho, rfl⟩, hE5⟩
    have hX5 := Ext.trans HX4.out (Ext.trans (Ext.alloc _ _) hE5)
    obtain ⟨p0, p1, p2, p3, p4⟩ := (HB4.out.ext (Ext.trans (Ext.alloc _ _) hE5)).get
    obtain ⟨q0, q1, q2, q3, q4⟩ := (HK5.out.ext hE5).get
    have l0 : w.heap.size < w5.heap.size := (Array.getElem?_eq_some_iff.1 (HB4.out.ext (Ext.trans (Ext.alloc _ _) hE5))).1
    have l1 : w4.heap.size < w5.heap.size := (Array.getElem?_eq_some_iff.1 (HK5.out.ext hE5)).1
    have HX5 := Lib.hid hX5
    clear hX5 hE5 HK5 HB4 HX4
    cases o with
    | none =>
      unfold resV Ev.cells zeroEv
      simp only [Option.getD_none, Option.isSome_none]
      clear ho
      go_wp2_with fail
      go_ret
      exact ⟨by first | rfl | simp, Ext.trans HX5.out (Ext.alloc _ _)⟩
    | some x =>
      have HTS := Lib.hid (show (⟨(textE x).toArray⟩ : ByteArray) = sc from ba_back (ho.1 x rfl).2)
      have HIX : Hid (InEv x) := Lib.hid (ho.1 x rfl).1.2.1
      have HT6 := Lib.hid (HTX.out x HIX.out)
      rw [HTS.out] at HT6
      clear ho
      unfold resV Ev.cells
      simp only [Option.getD_some, Option.isSome_some]
      go_wp2_with fail
      refine (HT6.out _ (Ext.trans HX5.out (Ext.alloc _ _))).mono ?_
      rintro r w6 ⟨rfl, hE6⟩
      go_wp2_with fail
      go_ret
      exact ⟨by first | rfl | simp, Ext.trans HX5.out (Ext.trans (Ext.alloc _ _) hE6)⟩
  · have HU : Hid (EvBlk ((w2.setCell ⟨w.heap.size, 0, none⟩ (.int .i64 2)).setCell ⟨w.heap.size, 4, none⟩ (.int .i64 0)) w.heap.size ⟨2, x1, x2, x3, 0⟩) := Lib.hid (ev_set4 (ev_set0 (HB1.out) 2) 0)
    have HXU : Hid (Ext w ((w2.setCell ⟨w.heap.size, 0, none⟩ (.int .i64 2)).setCell ⟨w.heap.size, 4, none⟩ (.int .i64 0))) := Lib.hid (Ext.grow_ge HX1.out (grownE_trans (grownE_set (w2) w.heap.size 0 (.int .i64 2)) (grownE_set ((w2.setCell ⟨w.heap.size, 0, none⟩ (.int .i64 2))) w.heap.size 4 (.int .i64 0))) (fun b e => by simp only [Option.some.injEq] at e; omega))
    have HIN : Hid (InEv ⟨2, x1, x2, x3, 0⟩) := Lib.hid ⟨inI_small (v := 2) (by decide) (by decide), HI.out.1, HI.out.2.1, HI.out.2.2.1, (inI_small (v := 0) (by decide) (by decide))⟩
    have HCL : Hid (Clean ⟨2, x1, x2, x3, 0⟩) := Lib.hid ⟨(show (1 : Int) ≤ 2 ∧ (2 : Int) ≤ 4 by decide), HIN.out, rfl⟩
    have HLN : Hid ((⟨(textE ⟨2, x1, x2, x3, 0⟩).toArray⟩ : ByteArray).size < 4294967281) := Lib.hid (by have := textE_len HIN.out; show (textE ⟨2, x1, x2, x3, 0⟩).toArray.size < _; simp; omega)
    have HT1 := Lib.hid (HTX.out ⟨2, x1, x2, x3, 0⟩ HIN.out _ HXU.out)
    go_wp2_with fail
    refine HT1.out.mono ?_
    rintro r w3 ⟨rfl, hE3⟩
    have HB3 := Lib.hid (HU.out.ext hE3)
    have HX3 := Lib.hid (Ext.trans HXU.out hE3)
    clear hE3 c0 c1 c2 c3 c4 f0 f3 f4 HU HXU HT1
    have HRB := Lib.hid (fun o (h : Reads (⟨(textE ⟨2, x1, x2, x3, 0⟩).toArray⟩ : ByteArray).data.toList o) => reads_back (e := ⟨2, x1, x2, x3, 0⟩) HCL.out h)
    generalize (⟨(textE ⟨2, x1, x2, x3, 0⟩).toArray⟩ : ByteArray) = tx at *
    go_wp2_with fail
    refine (HPA.out tx HLN.out _ HX3.out).mono ?_
    rintro r w4 ⟨⟨o, ho, rfl⟩, hE4⟩
    obtain rfl := HRB.out _ ho
    have HB4 := Lib.hid (HB3.out.ext hE4)
    have HX4 := Lib.hid (Ext.trans HX3.out hE4)
    clear hE4 HB3 HX3 ho
    unfold resV Ev.cells
    simp only [Option.getD_some, Option.isSome_some]
    go_wp2_with fail
    have hK5 := Go.heap_alloc_new w4 (.cells #[.int .i64 2, .int .i64 x1, .int .i64 x2, .int .i64 x3, .int .i64 0] 23)
    have HK5 : Hid (EvBlk (w4.alloc (.cells #[.int .i64 2, .int .i64 x1, .int .i64 x2, .int .i64 x3, .int .i64 0] 23)) w4.heap.size ⟨2, x1, x2, x3, 0⟩) := Lib.hid hK5
    clear hK5
    refine (HPA.out sc HCS.out _ (Ext.trans HX4.out (Ext.alloc _ _))).mono ?_
    rintro r w5 ⟨⟨o, ho, rfl⟩, hE5⟩
    have hX5 := Ext.trans HX4.out (Ext.trans (Ext.alloc _ _) hE5)
    obtain ⟨p0, p1, p2, p3, p4⟩ := (HB4.out.ext (Ext.trans (Ext.alloc _ _) hE5)).get
    obtain ⟨q0, q1, q2, q3, q4⟩ := (HK5.out.ext hE5).get
    have l0 : w.heap.size < w5.heap.size := (Array.getElem?_eq_some_iff.1 (HB4.out.ext (Ext.trans (Ext.alloc _ _) hE5))).1
    have l1 : w4.heap.size < w5.heap.size := (Array.getElem?_eq_some_iff.1 (HK5.out.ext hE5)).1
    have HX5 := Lib.hid hX5
    clear hX5 hE5 HK5 HB4 HX4
    cases o with
    | none =>
      unfold resV Ev.cells zeroEv
      simp only [Option.getD_none, Option.isSome_none]
      clear ho
      go_wp2_with fail
      go_ret
      exact ⟨by first | rfl | simp, Ext.trans HX5.out (Ext.alloc _ _)⟩
    | some x =>
      have HTS := Lib.hid (show (⟨(textE x).toArray⟩ : ByteArray) = sc from ba_back (ho.1 x rfl).2)
      have HIX : Hid (InEv x) := Lib.hid (ho.1 x rfl).1.2.1
      have HT6 := Lib.hid (HTX.out x HIX.out)
      rw [HTS.out] at HT6
      clear ho
      unfold resV Ev.cells
      simp only [Option.getD_some, Option.isSome_some]
      go_wp2_with fail
      refine (HT6.out _ (Ext.trans HX5.out (Ext.alloc _ _))).mono ?_
      rintro r w6 ⟨rfl, hE6⟩
      go_wp2_with fail
      go_ret
      exact ⟨by first | rfl | simp, Ext.trans HX5.out (Ext.trans (Ext.alloc _ _) hE6)⟩
  · have HU : Hid (EvBlk (((w2.setCell ⟨w.heap.size, 0, none⟩ (.int .i64 3)).setCell ⟨w.heap.size, 4, none⟩ (.int .i64 0)).setCell ⟨w.heap.size, 3, none⟩ (.int .i64 0)) w.heap.size ⟨3, x1, x2, 0, 0⟩) := Lib.hid (ev_set3 (ev_set4 (ev_set0 (HB1.out) 3) 0) 0)
    have HXU : Hid (Ext w (((w2.setCell ⟨w.heap.size, 0, none⟩ (.int .i64 3)).setCell ⟨w.heap.size, 4, none⟩ (.int .i64 0)).setCell ⟨w.heap.size, 3, none⟩ (.int .i64 0))) := Lib.hid (Ext.grow_ge HX1.out (grownE_trans (grownE_trans (grownE_set (w2) w.heap.size 0 (.int .i64 3)) (grownE_set ((w2.setCell ⟨w.heap.size, 0, none⟩ (.int .i64 3))) w.heap.size 4 (.int .i64 0))) (grownE_set (((w2.setCell ⟨w.heap.size, 0, none⟩ (.int .i64 3)).setCell ⟨w.heap.size, 4, none⟩ (.int .i64 0))) w.heap.size 3 (.int .i64 0))) (fun b e => by simp only [Option.some.injEq] at e; omega))
    have HIN : Hid (InEv ⟨3, x1, x2, 0, 0⟩) := Lib.hid ⟨inI_small (v := 3) (by decide) (by decide), HI.out.1, HI.out.2.1, (inI_small (v := 0) (by decide) (by decide)), (inI_small (v := 0) (by decide) (by decide))⟩
    have HCL : Hid (Clean ⟨3, x1, x2, 0, 0⟩) := Lib.hid ⟨(show (1 : Int) ≤ 3 ∧ (3 : Int) ≤ 4 by decide), HIN.out, rfl⟩
    have HLN : Hid ((⟨(textE ⟨3, x1, x2, 0, 0⟩).toArray⟩ : ByteArray).size < 4294967281) := Lib.hid (by have := textE_len HIN.out; show (textE ⟨3, x1, x2, 0, 0⟩).toArray.size < _; simp; omega)
    have HT1 := Lib.hid (HTX.out ⟨3, x1, x2, 0, 0⟩ HIN.out _ HXU.out)
    go_wp2_with fail
    refine HT1.out.mono ?_
    rintro r w3 ⟨rfl, hE3⟩
    have HB3 := Lib.hid (HU.out.ext hE3)
    have HX3 := Lib.hid (Ext.trans HXU.out hE3)
    clear hE3 c0 c1 c2 c3 c4 f0 f3 f4 HU HXU HT1
    have HRB := Lib.hid (fun o (h : Reads (⟨(textE ⟨3, x1, x2, 0, 0⟩).toArray⟩ : ByteArray).data.toList o) => reads_back (e := ⟨3, x1, x2, 0, 0⟩) HCL.out h)
    generalize (⟨(textE ⟨3, x1, x2, 0, 0⟩).toArray⟩ : ByteArray) = tx at *
    go_wp2_with fail
    refine (HPA.out tx HLN.out _ HX3.out).mono ?_
    rintro r w4 ⟨⟨o, ho, rfl⟩, hE4⟩
    obtain rfl := HRB.out _ ho
    have HB4 := Lib.hid (HB3.out.ext hE4)
    have HX4 := Lib.hid (Ext.trans HX3.out hE4)
    clear hE4 HB3 HX3 ho
    unfold resV Ev.cells
    simp only [Option.getD_some, Option.isSome_some]
    go_wp2_with fail
    have hK5 := Go.heap_alloc_new w4 (.cells #[.int .i64 3, .int .i64 x1, .int .i64 x2, .int .i64 0, .int .i64 0] 23)
    have HK5 : Hid (EvBlk (w4.alloc (.cells #[.int .i64 3, .int .i64 x1, .int .i64 x2, .int .i64 0, .int .i64 0] 23)) w4.heap.size ⟨3, x1, x2, 0, 0⟩) := Lib.hid hK5
    clear hK5
    refine (HPA.out sc HCS.out _ (Ext.trans HX4.out (Ext.alloc _ _))).mono ?_
    rintro r w5 ⟨⟨o, ho, rfl⟩, hE5⟩
    have hX5 := Ext.trans HX4.out (Ext.trans (Ext.alloc _ _) hE5)
    obtain ⟨p0, p1, p2, p3, p4⟩ := (HB4.out.ext (Ext.trans (Ext.alloc _ _) hE5)).get
    obtain ⟨q0, q1, q2, q3, q4⟩ := (HK5.out.ext hE5).get
    have l0 : w.heap.size < w5.heap.size := (Array.getElem?_eq_some_iff.1 (HB4.out.ext (Ext.trans (Ext.alloc _ _) hE5))).1
    have l1 : w4.heap.size < w5.heap.size := (Array.getElem?_eq_some_iff.1 (HK5.out.ext hE5)).1
    have HX5 := Lib.hid hX5
    clear hX5 hE5 HK5 HB4 HX4
    cases o with
    | none =>
      unfold resV Ev.cells zeroEv
      simp only [Option.getD_none, Option.isSome_none]
      clear ho
      go_wp2_with fail
      go_ret
      exact ⟨by first | rfl | simp, Ext.trans HX5.out (Ext.alloc _ _)⟩
    | some x =>
      have HTS := Lib.hid (show (⟨(textE x).toArray⟩ : ByteArray) = sc from ba_back (ho.1 x rfl).2)
      have HIX : Hid (InEv x) := Lib.hid (ho.1 x rfl).1.2.1
      have HT6 := Lib.hid (HTX.out x HIX.out)
      rw [HTS.out] at HT6
      clear ho
      unfold resV Ev.cells
      simp only [Option.getD_some, Option.isSome_some]
      go_wp2_with fail
      refine (HT6.out _ (Ext.trans HX5.out (Ext.alloc _ _))).mono ?_
      rintro r w6 ⟨rfl, hE6⟩
      go_wp2_with fail
      go_ret
      exact ⟨by first | rfl | simp, Ext.trans HX5.out (Ext.trans (Ext.alloc _ _) hE6)⟩
  · have HU : Hid (EvBlk ((w2.setCell ⟨w.heap.size, 0, none⟩ (.int .i64 4)).setCell ⟨w.heap.size, 4, none⟩ (.int .i64 0)) w.heap.size ⟨4, x1, x2, x3, 0⟩) := Lib.hid (ev_set4 (ev_set0 (HB1.out) 4) 0)
    have HXU : Hid (Ext w ((w2.setCell ⟨w.heap.size, 0, none⟩ (.int .i64 4)).setCell ⟨w.heap.size, 4, none⟩ (.int .i64 0))) := Lib.hid (Ext.grow_ge HX1.out (grownE_trans (grownE_set (w2) w.heap.size 0 (.int .i64 4)) (grownE_set ((w2.setCell ⟨w.heap.size, 0, none⟩ (.int .i64 4))) w.heap.size 4 (.int .i64 0))) (fun b e => by simp only [Option.some.injEq] at e; omega))
    have HIN : Hid (InEv ⟨4, x1, x2, x3, 0⟩) := Lib.hid ⟨inI_small (v := 4) (by decide) (by decide), HI.out.1, HI.out.2.1, HI.out.2.2.1, (inI_small (v := 0) (by decide) (by decide))⟩
    have HCL : Hid (Clean ⟨4, x1, x2, x3, 0⟩) := Lib.hid ⟨(show (1 : Int) ≤ 4 ∧ (4 : Int) ≤ 4 by decide), HIN.out, rfl⟩
    have HLN : Hid ((⟨(textE ⟨4, x1, x2, x3, 0⟩).toArray⟩ : ByteArray).size < 4294967281) := Lib.hid (by have := textE_len HIN.out; show (textE ⟨4, x1, x2, x3, 0⟩).toArray.size < _; simp; omega)
    have HT1 := Lib.hid (HTX.out ⟨4, x1, x2, x3, 0⟩ HIN.out _ HXU.out)
    go_wp2_with fail
    refine HT1.out.mono ?_
    rintro r w3 ⟨rfl, hE3⟩
    have HB3 := Lib.hid (HU.out.ext hE3)
    have HX3 := Lib.hid (Ext.trans HXU.out hE3)
    clear hE3 c0 c1 c2 c3 c4 f0 f3 f4 HU HXU HT1
    have HRB := Lib.hid (fun o (h : Reads (⟨(textE ⟨4, x1, x2, x3, 0⟩).toArray⟩ : ByteArray).data.toList o) => reads_back (e := ⟨4, x1, x2, x3, 0⟩) HCL.out h)
    generalize (⟨(textE ⟨4, x1, x2, x3, 0⟩).toArray⟩ : ByteArray) = tx at *
    go_wp2_with fail
    refine (HPA.out tx HLN.out _ HX3.out).mono ?_
    rintro r w4 ⟨⟨o, ho, rfl⟩, hE4⟩
    obtain rfl := HRB.out _ ho
    have HB4 := Lib.hid (HB3.out.ext hE4)
    have HX4 := Lib.hid (Ext.trans HX3.out hE4)
    clear hE4 HB3 HX3 ho
    unfold resV Ev.cells
    simp only [Option.getD_some, Option.isSome_some]
    go_wp2_with fail
    have hK5 := Go.heap_alloc_new w4 (.cells #[.int .i64 4, .int .i64 x1, .int .i64 x2, .int .i64 x3, .int .i64 0] 23)
    have HK5 : Hid (EvBlk (w4.alloc (.cells #[.int .i64 4, .int .i64 x1, .int .i64 x2, .int .i64 x3, .int .i64 0] 23)) w4.heap.size ⟨4, x1, x2, x3, 0⟩) := Lib.hid hK5
    clear hK5
    refine (HPA.out sc HCS.out _ (Ext.trans HX4.out (Ext.alloc _ _))).mono ?_
    rintro r w5 ⟨⟨o, ho, rfl⟩, hE5⟩
    have hX5 := Ext.trans HX4.out (Ext.trans (Ext.alloc _ _) hE5)
    obtain ⟨p0, p1, p2, p3, p4⟩ := (HB4.out.ext (Ext.trans (Ext.alloc _ _) hE5)).get
    obtain ⟨q0, q1, q2, q3, q4⟩ := (HK5.out.ext hE5).get
    have l0 : w.heap.size < w5.heap.size := (Array.getElem?_eq_some_iff.1 (HB4.out.ext (Ext.trans (Ext.alloc _ _) hE5))).1
    have l1 : w4.heap.size < w5.heap.size := (Array.getElem?_eq_some_iff.1 (HK5.out.ext hE5)).1
    have HX5 := Lib.hid hX5
    clear hX5 hE5 HK5 HB4 HX4
    cases o with
    | none =>
      unfold resV Ev.cells zeroEv
      simp only [Option.getD_none, Option.isSome_none]
      clear ho
      go_wp2_with fail
      go_ret
      exact ⟨by first | rfl | simp, Ext.trans HX5.out (Ext.alloc _ _)⟩
    | some x =>
      have HTS := Lib.hid (show (⟨(textE x).toArray⟩ : ByteArray) = sc from ba_back (ho.1 x rfl).2)
      have HIX : Hid (InEv x) := Lib.hid (ho.1 x rfl).1.2.1
      have HT6 := Lib.hid (HTX.out x HIX.out)
      rw [HTS.out] at HT6
      clear ho
      unfold resV Ev.cells
      simp only [Option.getD_some, Option.isSome_some]
      go_wp2_with fail
      refine (HT6.out _ (Ext.trans HX5.out (Ext.alloc _ _))).mono ?_
      rintro r w6 ⟨rfl, hE6⟩
      go_wp2_with fail
      go_ret
      exact ⟨by first | rfl | simp, Ext.trans HX5.out (Ext.trans (Ext.alloc _ _) hE6)⟩
end Go.Proofs.YtompfgofaplffaaGreatDoor

namespace Go.Proofs.YtompfgofaplffaaGreatDoor
open Go.RowKit Hach Num

def slv (s : ByteArray) (a b : Nat) : ByteArray := s.extract a b
set_option maxRecDepth 100000 in
set_option maxHeartbeats 8000000 in
theorem apply_any (u v : Nat) (i s : ByteArray) (hu : u < 256) (hv : v < 256) (hi : i.size < 9223372036854775808) (hs : s.size < 4294967000) (w : World) :
    Calls Tryz.prog 9 #[.agg #[.int .u8 (u : Nat), .int .u8 (v : Nat), .string i], .string s] w fun e w' => (∃ d : ByteArray, e = .returned (.string d) ∧ d.size ≤ s.size + 40) ∧ Ext w w' := by
  obtain ⟨n, hn⟩ : ∃ n, u % (s.size + 1) = n := ⟨_, rfl⟩
  have en : (u : Int) % ((s.size : Int) + 1) = (n : Int) := by rw [← hn]; simp
  have ln : n ≤ s.size := by have := Nat.mod_lt u (show 0 < s.size + 1 by omega); omega
  have ev : (v : Int) % 4 = ((v % 4 : Nat) : Int) := by simp
  have lv : v % 4 < 4 := Nat.mod_lt _ (by decide)
  generalize v % 4 = r at *
  have HB := Lib.hid (Go.heap_alloc_new w (.cells #[.int .u8 (u : Nat), .int .u8 (v : Nat), .string i] 25))
  have e1 : min (i.size : Int) 20 = ((min i.size 20 : Nat) : Int) := by omega
  have e2 : min (s.size : Int) ((n : Int) + (r : Int)) = ((min s.size (n + r) : Nat) : Int) := by omega
  have l1 : min i.size 20 ≤ i.size := by omega
  have l2 : min s.size (n + r) ≤ s.size := by omega
  have HZ1 := Lib.hid (show min i.size 20 ≤ 20 by omega)
  generalize min i.size 20 = c1 at *
  generalize min s.size (n + r) = c2 at *
  go_enter Tryz.func9, Tryz.ntmps9
  go_wp2_with fail
  rw [en]
  apply wp_region_seq (l := [_, _, _, _, _, _, _, _, _, _, _, _, _, _, _, _, _, _, _, _, _, _, _, _]) (t := []) [some 13, some 14, some 15, some 16, some 17, some 18, some 19, some 20, some 21, some 22, some 23, some 24, some 25, some 26, some 27, some 28, some 29, some 30, some 31, some 32, some 33, some 34, some 35, some 4] [[], [], [0, 1], [], [3], [], [5], [6], [7], [4, 8], [2, 9], [], [], [12], [], [], [15], [16], [17], [14, 18], [13, 19], [11, 20], [10, 21], [22]] [] [eqv _, eqv _, eqv _, eqv _, eqv _, eqv _, eqv _, eqv _, eqv _, eqv _, eqv _, eqv _, eqv _, eqv _, eqv _, eqv _, eqv _, eqv _, eqv _, eqv _, eqv _, eqv _, eqv _, eqv _] (by kernel_rfl) (by kernel_rfl) ⟨?o0, ?o1, ?o2, ?o3, ?o4, ?o5, ?o6, ?o7, ?o8, ?o9, ?o10, ?o11, ?o12, ?o13, ?o14, ?o15, ?o16, ?o17, ?o18, ?o19, ?o20, ?o21, ?o22, ?o23, trivial⟩ ?last
  case o0 => -- Op.move (Operand.tmp 1)
    intro xv W hE _
    simp only [putD, List.foldl_nil, List.getD_cons_zero]
    refine OpGoal.plain ?_
    go_wp2_with fail
    exact ⟨rfl, Ext.refl _, rfl⟩
  case o1 => -- Op.move (Operand.tmp 5)
    intro xv W hE _
    simp only [putD, List.foldl_nil, List.getD_cons_zero, List.getD_cons_succ]
    refine OpGoal.plain ?_
    go_wp2_with fail
    exact ⟨rfl, Ext.refl _, rfl⟩
  case o2 => -- Op.slice 9 (Operand.tmp 13) none (some (Operand.tmp 14)) none
    intro xv W hE hp
    have r0 : xv 0 = _ := hp.1
    have r1 : xv 1 = _ := hp.2.1
    clear hp
    simp only [putD, List.foldl_nil, List.foldl_cons, List.getD_cons_zero, List.getD_cons_succ, Act.put, List.setIfInBounds_toArray, List.set_cons_zero, List.set_cons_succ]
    refine OpGoal.plain ?_
    go_wp2_with fail
    exact ⟨rfl, Ext.refl _, rfl⟩
  case o3 => -- Op.fieldAddr 25 (Operand.tmp 2) 2
    intro xv W hE _
    simp only [putD, List.foldl_nil, List.getD_cons_zero, List.getD_cons_succ]
    refine OpGoal.plain ?_
    go_wp2_with fail
    exact ⟨rfl, Ext.refl _, rfl⟩
  case o4 => -- Op.load 9 (Operand.tmp 16)
    intro xv W hE hp
    have r3 : xv 3 = _ := hp.1
    clear hp
    have c0 := cells_of (blk_ext HB.out (Ext.trans (Ext.drew _) hE)) 1 _ rfl
    have c2' := cells_of (blk_ext HB.out (Ext.trans (Ext.drew _) hE)) 2 _ rfl
    simp only [putD, List.foldl_nil, List.foldl_cons, List.getD_cons_zero, List.getD_cons_succ, Act.put, List.setIfInBounds_toArray, List.set_cons_zero, List.set_cons_succ]
    refine OpGoal.plain ?_
    go_wp2_with fail
    exact ⟨rfl, Ext.refl _, rfl⟩
  case o5 => -- Op.fieldAddr 25 (Operand.tmp 2) 2
    intro xv W hE _
    simp only [putD, List.foldl_nil, List.getD_cons_zero, List.getD_cons_succ]
    refine OpGoal.plain ?_
    go_wp2_with fail
    exact ⟨rfl, Ext.refl _, rfl⟩
  case o6 => -- Op.load 9 (Operand.tmp 18)
    intro xv W hE hp
    have r5 : xv 5 = _ := hp.1
    clear hp
    have c0 := cells_of (blk_ext HB.out (Ext.trans (Ext.drew _) hE)) 1 _ rfl
    have c2' := cells_of (blk_ext HB.out (Ext.trans (Ext.drew _) hE)) 2 _ rfl
    simp only [putD, List.foldl_nil, List.foldl_cons, List.getD_cons_zero, List.getD_cons_succ, Act.put, List.setIfInBounds_toArray, List.set_cons_zero, List.set_cons_succ]
    refine OpGoal.plain ?_
    go_wp2_with fail
    exact ⟨rfl, Ext.refl _, rfl⟩
  case o7 => -- Op.call { callee := Callee.builtin Builtin.len, args := #[Operand.tmp 19], argTy
    intro xv W hE hp
    have r6 : xv 6 = _ := hp.1
    clear hp
    simp only [putD, List.foldl_nil, List.foldl_cons, List.getD_cons_zero, List.getD_cons_succ, Act.put, List.setIfInBounds_toArray, List.set_cons_zero, List.set_cons_succ]
    refine OpGoal.plain ?_
    go_wp2_with fail
    exact ⟨rfl, Ext.refl _, rfl⟩
  case o8 => -- Op.call { callee := Callee.builtin Builtin.min, args := #[Operand.tmp 20, Operan
    intro xv W hE hp
    have r7 : xv 7 = _ := hp.1
    clear hp
    simp only [putD, List.foldl_nil, List.foldl_cons, List.getD_cons_zero, List.getD_cons_succ, Act.put, List.setIfInBounds_toArray, List.set_cons_zero, List.set_cons_succ]
    refine OpGoal.plain ?_
    go_wp2_with fail
    exact ⟨rfl, Ext.refl _, rfl⟩
  case o9 => -- Op.slice 9 (Operand.tmp 17) none (some (Operand.tmp 21)) none
    intro xv W hE hp
    have r4 : xv 4 = _ := hp.1
    have r8 : xv 8 = _ := hp.2.1
    clear hp
    simp only [putD, List.foldl_nil, List.foldl_cons, List.getD_cons_zero, List.getD_cons_succ, Act.put, List.setIfInBounds_toArray, List.set_cons_zero, List.set_cons_succ]
    refine OpGoal.plain ?_
    go_wp2_with fail
    exact ⟨rfl, Ext.refl _, rfl⟩
  case o10 => -- Op.binOp BinOp.add 9 (Operand.tmp 15) (Operand.tmp 22) 9
    intro xv W hE hp
    have r2 : xv 2 = _ := hp.1
    have r9 : xv 9 = _ := hp.2.1
    clear hp
    simp only [putD, List.foldl_nil, List.foldl_cons, List.getD_cons_zero, List.getD_cons_succ, Act.put, List.setIfInBounds_toArray, List.set_cons_zero, List.set_cons_succ]
    refine OpGoal.plain ?_
    go_wp2_with fail
    exact ⟨rfl, Ext.refl _, rfl⟩
  case o11 => -- Op.move (Operand.tmp 1)
    intro xv W hE _
    simp only [putD, List.foldl_nil, List.getD_cons_zero, List.getD_cons_succ]
    refine OpGoal.plain ?_
    go_wp2_with fail
    exact ⟨rfl, Ext.refl _, rfl⟩
  case o12 => -- Op.move (Operand.tmp 1)
    intro xv W hE _
    simp only [putD, List.foldl_nil, List.getD_cons_zero, List.getD_cons_succ]
    refine OpGoal.plain ?_
    go_wp2_with fail
    exact ⟨rfl, Ext.refl _, rfl⟩
  case o13 => -- Op.call { callee := Callee.builtin Builtin.len, args := #[Operand.tmp 25], argTy
    intro xv W hE hp
    have r12 : xv 12 = _ := hp.1
    clear hp
    simp only [putD, List.foldl_nil, List.foldl_cons, List.getD_cons_zero, List.getD_cons_succ, Act.put, List.setIfInBounds_toArray, List.set_cons_zero, List.set_cons_succ]
    refine OpGoal.plain ?_
    go_wp2_with fail
    exact ⟨rfl, Ext.refl _, rfl⟩
  case o14 => -- Op.move (Operand.tmp 5)
    intro xv W hE _
    simp only [putD, List.foldl_nil, List.getD_cons_zero, List.getD_cons_succ]
    refine OpGoal.plain ?_
    go_wp2_with fail
    exact ⟨rfl, Ext.refl _, rfl⟩
  case o15 => -- Op.fieldAddr 25 (Operand.tmp 2) 1
    intro xv W hE _
    simp only [putD, List.foldl_nil, List.getD_cons_zero, List.getD_cons_succ]
    refine OpGoal.plain ?_
    go_wp2_with fail
    exact ⟨rfl, Ext.refl _, rfl⟩
  case o16 => -- Op.load 5 (Operand.tmp 28)
    intro xv W hE hp
    have r15 : xv 15 = _ := hp.1
    clear hp
    have c0 := cells_of (blk_ext HB.out (Ext.trans (Ext.drew _) hE)) 1 _ rfl
    have c2' := cells_of (blk_ext HB.out (Ext.trans (Ext.drew _) hE)) 2 _ rfl
    simp only [putD, List.foldl_nil, List.foldl_cons, List.getD_cons_zero, List.getD_cons_succ, Act.put, List.setIfInBounds_toArray, List.set_cons_zero, List.set_cons_succ]
    refine OpGoal.plain ?_
    go_wp2_with fail
    exact ⟨rfl, Ext.refl _, rfl⟩
  case o17 => -- Op.convert 5 3 (Operand.tmp 29)
    intro xv W hE hp
    have r16 : xv 16 = _ := hp.1
    clear hp
    simp only [putD, List.foldl_nil, List.foldl_cons, List.getD_cons_zero, List.getD_cons_succ, Act.put, List.setIfInBounds_toArray, List.set_cons_zero, List.set_cons_succ]
    refine OpGoal.plain ?_
    go_wp2_with fail
    exact ⟨rfl, Ext.refl _, rfl⟩
  case o18 => -- Op.binOp BinOp.rem 3 (Operand.tmp 30) (Operand.const (Value.int IntKind.i64 4)) 
    intro xv W hE hp
    have r17 : xv 17 = _ := hp.1
    clear hp
    simp only [putD, List.foldl_nil, List.foldl_cons, List.getD_cons_zero, List.getD_cons_succ, Act.put, List.setIfInBounds_toArray, List.set_cons_zero, List.set_cons_succ]
    refine OpGoal.plain ?_
    go_wp2_with fail
    exact ⟨rfl, Ext.refl _, rfl⟩
  case o19 => -- Op.binOp BinOp.add 3 (Operand.tmp 27) (Operand.tmp 31) 3
    intro xv W hE hp
    have r14 : xv 14 = _ := hp.1
    have r18 : xv 18 = _ := hp.2.1
    clear hp
    simp only [putD, List.foldl_nil, List.foldl_cons, List.getD_cons_zero, List.getD_cons_succ, Act.put, List.setIfInBounds_toArray, List.set_cons_zero, List.set_cons_succ]
    refine OpGoal.plain ?_
    go_wp2_with fail
    exact ⟨rfl, Ext.refl _, rfl⟩
  case o20 => -- Op.call { callee := Callee.builtin Builtin.min, args := #[Operand.tmp 26, Operan
    intro xv W hE hp
    have r13 : xv 13 = _ := hp.1
    have r19 : xv 19 = _ := hp.2.1
    clear hp
    simp only [putD, List.foldl_nil, List.foldl_cons, List.getD_cons_zero, List.getD_cons_succ, Act.put, List.setIfInBounds_toArray, List.set_cons_zero, List.set_cons_succ]
    refine OpGoal.plain ?_
    go_wp2_with fail
    exact ⟨rfl, Ext.refl _, rfl⟩
  case o21 => -- Op.slice 9 (Operand.tmp 24) (some (Operand.tmp 33)) none none
    intro xv W hE hp
    have r11 : xv 11 = _ := hp.1
    have r20 : xv 20 = _ := hp.2.1
    clear hp
    simp only [putD, List.foldl_nil, List.foldl_cons, List.getD_cons_zero, List.getD_cons_succ, Act.put, List.setIfInBounds_toArray, List.set_cons_zero, List.set_cons_succ]
    refine OpGoal.plain ?_
    go_wp2_with fail
    exact ⟨rfl, Ext.refl _, rfl⟩
  case o22 => -- Op.binOp BinOp.add 9 (Operand.tmp 23) (Operand.tmp 34) 9
    intro xv W hE hp
    have r10 : xv 10 = _ := hp.1
    have r21 : xv 21 = _ := hp.2.1
    clear hp
    simp only [putD, List.foldl_nil, List.foldl_cons, List.getD_cons_zero, List.getD_cons_succ, Act.put, List.setIfInBounds_toArray, List.set_cons_zero, List.set_cons_succ]
    refine OpGoal.plain ?_
    go_wp2_with fail
    exact ⟨rfl, Ext.refl _, rfl⟩
  case o23 => -- Op.assign (Operand.tmp 35)
    intro xv W hE hp
    have r22 : xv 22 = _ := hp.1
    clear hp
    simp only [putD, List.foldl_nil, List.foldl_cons, List.getD_cons_zero, List.getD_cons_succ, Act.put, List.setIfInBounds_toArray, List.set_cons_zero, List.set_cons_succ]
    refine OpGoal.plain ?_
    go_wp2_with fail
    exact ⟨rfl, Ext.refl _, rfl⟩
  case last =>
    intro xv W hE hp
    have r0 : xv 0 = _ := hp.1
    have r1 : xv 1 = _ := hp.2.1
    have r2 : xv 2 = _ := hp.2.2.1
    have r3 : xv 3 = _ := hp.2.2.2.1
    have r4 : xv 4 = _ := hp.2.2.2.2.1
    have r5 : xv 5 = _ := hp.2.2.2.2.2.1
    have r6 : xv 6 = _ := hp.2.2.2.2.2.2.1
    have r7 : xv 7 = _ := hp.2.2.2.2.2.2.2.1
    have r8 : xv 8 = _ := hp.2.2.2.2.2.2.2.2.1
    have r9 : xv 9 = _ := hp.2.2.2.2.2.2.2.2.2.1
    have r10 : xv 10 = _ := hp.2.2.2.2.2.2.2.2.2.2.1
    have r11 : xv 11 = _ := hp.2.2.2.2.2.2.2.2.2.2.2.1
    have r12 : xv 12 = _ := hp.2.2.2.2.2.2.2.2.2.2.2.2.1
    have r13 : xv 13 = _ := hp.2.2.2.2.2.2.2.2.2.2.2.2.2.1
    have r14 : xv 14 = _ := hp.2.2.2.2.2.2.2.2.2.2.2.2.2.2.1
    have r15 : xv 15 = _ := hp.2.2.2.2.2.2.2.2.2.2.2.2.2.2.2.1
    have r16 : xv 16 = _ := hp.2.2.2.2.2.2.2.2.2.2.2.2.2.2.2.2.1
    have r17 : xv 17 = _ := hp.2.2.2.2.2.2.2.2.2.2.2.2.2.2.2.2.2.1
    have r18 : xv 18 = _ := hp.2.2.2.2.2.2.2.2.2.2.2.2.2.2.2.2.2.2.1
    have r19 : xv 19 = _ := hp.2.2.2.2.2.2.2.2.2.2.2.2.2.2.2.2.2.2.2.1
    have r20 : xv 20 = _ := hp.2.2.2.2.2.2.2.2.2.2.2.2.2.2.2.2.2.2.2.2.1
    have r21 : xv 21 = _ := hp.2.2.2.2.2.2.2.2.2.2.2.2.2.2.2.2.2.2.2.2.2.1
    have r22 : xv 22 = _ := hp.2.2.2.2.2.2.2.2.2.2.2.2.2.2.2.2.2.2.2.2.2.2.1
    have r23 : xv 23 = _ := hp.2.2.2.2.2.2.2.2.2.2.2.2.2.2.2.2.2.2.2.2.2.2.2.1
    clear hp
    simp only [putD, List.foldl_nil, List.foldl_cons, List.getD_cons_zero, List.getD_cons_succ, Act.put, List.length_cons, List.length_nil, List.range_succ, List.range_zero, List.nil_append, List.cons_append, List.setIfInBounds_toArray, List.set_cons_zero, List.set_cons_succ]
    go_wp2_with fail
    go_ret
    exact ⟨⟨_, rfl, by have := HZ1.out; simp only [ByteArray.size_append, ByteArray.size_extract]; omega⟩, Ext.trans (Ext.alloc _ _) (Ext.trans (Ext.drew _) hE)⟩
end Go.Proofs.YtompfgofaplffaaGreatDoor
