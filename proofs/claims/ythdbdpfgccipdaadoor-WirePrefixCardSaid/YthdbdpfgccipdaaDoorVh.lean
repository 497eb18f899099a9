/- The law's examples: sanity returns true. -/
import Derived.Test.YthdbdpfgccipdaaDoorVg
namespace Go.Proofs.YthdbdpfgccipdaaDoor
open Go.RowKit Hach Num

theorem w0 : wrInt 0 = [48, 59] := by simp [wrInt, Lib.itoa, Lib.decDigits]
theorem wm1 : wrInt (-1) = [45, 49, 59] := by simp [wrInt, Lib.itoa, Lib.decDigits]
theorem w250 : wrInt 250 = [50, 53, 48, 59] := by simp [wrInt, Lib.itoa, Lib.decDigits]
theorem wab : wrText [97, 98] = [50, 58, 97, 98] := by simp [wrText, Lib.itoa, Lib.decDigits]
theorem we : wrText [] = [48, 58] := by simp [wrText, Lib.itoa, Lib.decDigits]
theorem wl12 : wrList wrInt [1, -2] = [91, 49, 59, 45, 50, 59, 93] := by simp [wrList, wrInt, Lib.itoa, Lib.decDigits]
theorem wl0 : wrList wrInt [] = [91, 93] := rfl
theorem wlt : wrList wrText [[], [97]] = [91, 48, 58, 49, 58, 97, 93] := by simp [wrList, wrText, Lib.itoa, Lib.decDigits]
theorem rd12 : rdList rdInt [91, 49, 59, 45, 50, 59, 93, 51, 59] = some ([1, -2], [51, 59]) := by
  have := (twinList twinInt).back [1, -2] [51, 59] (by intro v hv; simp at hv; rcases hv with rfl | rfl <;> exact ⟨by decide, by decide⟩)
  rw [wl12] at this
  exact this
theorem rd3 : rdInt [51, 59] = some (3, []) := by
  have := twinInt.back 3 [] ⟨by decide, by decide⟩
  rw [show wrInt 3 = [51, 59] from by simp [wrInt, Lib.itoa, Lib.decDigits]] at this
  exact this
theorem rdz : rdInt [] = none := rfl
/- strings that are malformed whatever is decoded -/
theorem fails_all {s : List UInt8} (h1 : rdInt s = none) (h2 : rdText s = none) (h3 : s.head? ≠ some 91) (k : Int) : fails k (some s) := by
  have h4 : ∀ {α : Type} (f : List UInt8 → Option (α × List UInt8)), rdList f s = none := fun f => by
    match s, h3 with
    | [], _ => rfl
    | c :: r, h3 => simp only [rdList]; rw [if_neg (by simpa using h3)]
  unfold fails
  split
  · exact h1
  · split
    · exact h2
    · split
      · exact h4 _
      · exact h4 _
theorem num_none {d : List UInt8} {v : Int} (h : Lib.atoiAll d = .ok v) (hv : Lib.itoa v ≠ d) : num d = none := by
  unfold num; rw [h]; simp [hv]
theorem f01 : ∀ k, fails k (some [48, 49, 59]) := fails_all (by
  show (num [48, 49]).map _ = none
  rw [num_none (v := 1) rfl (by simp [Lib.itoa, Lib.decDigits])]; rfl) rfl (by decide)
theorem fp1 : ∀ k, fails k (some [43, 49, 59]) := fails_all (by
  show (num [43, 49]).map _ = none
  rw [num_none (v := 1) rfl (by simp [Lib.itoa, Lib.decDigits])]; rfl) rfl (by decide)
theorem fm0 : ∀ k, fails k (some [45, 48, 59]) := fails_all (by
  show (num [45, 48]).map _ = none
  rw [num_none (v := 0) rfl (by simp [Lib.itoa, Lib.decDigits])]; rfl) rfl (by decide)
theorem f1 : ∀ k, fails k (some [49]) := fails_all rfl rfl (by decide)
theorem f3ab : ∀ k, fails k (some [51, 58, 97, 98]) := fails_all rfl (by
  unfold rdText
  rw [show rdNum 58 [51, 58, 97, 98] = some (3, [97, 98]) from by
    show (num [51]).map _ = _
    rw [show num [51] = some 3 from by unfold num; rw [show Lib.atoiAll [51] = .ok 3 from rfl]; simp [Lib.itoa, Lib.decDigits]]; rfl]
  rfl) (by decide)

theorem row_new_I (w : World) (xs : List Int) (T : TypeId) : RowI (w.alloc (.cells (xs.map itv).toArray T)) (w.alloc (.cells (xs.map itv).toArray T)).heap.size (some ⟨w.heap.size, 0, none⟩) xs.length xs := by
  refine ⟨rfl, fun _ => ⟨w.heap.size, 0, rfl, by simp, fun j hj => ?_⟩⟩
  rw [World.cell?_alloc_new]
  simp [List.getD, List.getElem?_eq_getElem hj]
theorem row_new_T (w : World) (xs : List (List UInt8)) (T : TypeId) : RowT (w.alloc (.cells (xs.map txv).toArray T)) (w.alloc (.cells (xs.map txv).toArray T)).heap.size (some ⟨w.heap.size, 0, none⟩) xs.length xs := by
  refine ⟨rfl, fun _ => ⟨w.heap.size, 0, rfl, by simp, fun j hj => ?_⟩⟩
  rw [World.cell?_alloc_new]
  simp [List.getD, List.getElem?_eq_getElem hj]
theorem row_nil_I (w : World) (A : Option Addr) : RowI w w.heap.size A 0 [] := ⟨rfl, fun h => absurd h (by omega)⟩
theorem row_nil_T (w : World) (A : Option Addr) : RowT w w.heap.size A 0 [] := ⟨rfl, fun h => absurd h (by omega)⟩
theorem OwnI.row {w : World} {base : Nat} {A : Option Addr} {n c : Nat} {xs : List Int} (h : OwnI w base (.slice A n c) xs) : RowI w w.heap.size A n xs := by
  obtain ⟨A', c', e, hr⟩ := h.form
  simp only [Value.slice.injEq] at e
  obtain ⟨rfl, rfl, rfl⟩ := e
  exact hr
theorem OwnT.row {w : World} {base : Nat} {A : Option Addr} {n c : Nat} {xs : List (List UInt8)} (h : OwnT w base (.slice A n c) xs) : RowT w w.heap.size A n xs := by
  obtain ⟨A', c', e, hr⟩ := h.form
  simp only [Value.slice.injEq] at e
  obtain ⟨rfl, rfl, rfl⟩ := e
  exact hr

set_option maxHeartbeats 1000000 in
theorem sanity_any (w : World) (hT : Tabs w) :
    Calls Tryd.prog 10 #[] w fun e w' => e = .returned (.bool true) ∧ Ext w w' := by
  have eqb : ∀ x : ByteArray, (x.toList != x.toList) = false := fun x => by simp
  go_enter Tryd.func10, Tryd.ntmps10
  go_wp2_with fail
  refine (wInt_any 0 ⟨by decide, by decide⟩ w hT).mono ?_
  rintro e w1 ⟨rfl, hE1⟩
  rw [w0]
  have hT1 := hT.ext hE1
  go_wp2_with fail
  refine (wInt_any (-1) ⟨by decide, by decide⟩ w1 hT1).mono ?_
  rintro e w2 ⟨rfl, hS2⟩
  rw [wm1]
  have hE2 := hE1.trans hS2
  have hT2 := hT.ext hE2
  go_wp2_with fail
  refine (wInt_any 250 ⟨by decide, by decide⟩ w2 hT2).mono ?_
  rintro e w3 ⟨rfl, hS3⟩
  rw [w250]
  have hE3 := hE2.trans hS3
  have hT3 := hT.ext hE3
  go_wp2_with fail
  refine (wText_any [97, 98] (by decide) w3 hT3).mono ?_
  rintro e w4 ⟨rfl, hS4⟩
  rw [wab]
  have hE4 := hE3.trans hS4
  have hT4 := hT.ext hE4
  go_wp2_with fail
  refine (wText_any [] (by decide) w4 hT4).mono ?_
  rintro e w5 ⟨rfl, hS5⟩
  rw [we]
  have hE5 := hE4.trans hS5
  have hT5 := hT.ext hE5
  go_wp2_with fail
  have r5 : RowI (w5.alloc (.cells #[.int .i64 1, .int .i64 (-2)] 3)) (w5.alloc (.cells #[.int .i64 1, .int .i64 (-2)] 3)).heap.size (some ⟨w5.heap.size, 0, none⟩) 2 [1, -2] := row_new_I w5 [1, -2] _
  refine (wlist_I _ 2 2 [1, -2] _ r5 (by decide) (by intro v hv; simp at hv; rcases hv with rfl | rfl <;> exact ⟨by decide, by decide⟩) (by rw [show (List.map wrInt [1, -2]).flatten = [49, 59, 45, 50, 59] from by simp [wrInt, Lib.itoa, Lib.decDigits]]; decide) (hT5.ext (Ext.alloc _ _))).mono ?_
  rintro e w6 ⟨rfl, hS6⟩
  rw [wl12]
  have hE6 := (hE5.trans (Ext.alloc _ _)).trans hS6
  have hT6 := hT.ext hE6
  go_wp2_with fail
  refine (wlist_I none 0 0 [] w6 (row_nil_I _ _) (by decide) (by simp) (by decide) hT6).mono ?_
  rintro e w7 ⟨rfl, hS7⟩
  rw [wl0]
  have hE7 := hE6.trans hS7
  have hT7 := hT.ext hE7
  go_wp2_with fail
  have r7 : RowT (w7.alloc (.cells #[.string ⟨#[]⟩, .string ⟨#[97]⟩] 9)) (w7.alloc (.cells #[.string ⟨#[]⟩, .string ⟨#[97]⟩] 9)).heap.size (some ⟨w7.heap.size, 0, none⟩) 2 [[], [97]] := row_new_T w7 [[], [97]] _
  refine (wlist_T _ 2 2 [[], [97]] _ r7 (by decide) (by intro v hv; simp at hv; rcases hv with rfl | rfl <;> (unfold ShortT; decide)) (by rw [show (List.map wrText [[], [97]]).flatten = [48, 58, 49, 58, 97] from by simp [wrText, Lib.itoa, Lib.decDigits]]; decide) (hT7.ext (Ext.alloc _ _))).mono ?_
  rintro e w8 ⟨rfl, hS8⟩
  rw [wlt]
  have hE8 := (hE7.trans (Ext.alloc _ _)).trans hS8
  have hT8 := hT.ext hE8
  go_wp2_with fail
  have hz8 : w.heap.size ≤ w8.heap.size := hE8.sz
  have hb4 : 4 ≤ w8.heap.size := hT8.sz
  refine (new_any ⟨[91, 49, 59, 45, 50, 59, 93, 51, 59].toArray⟩ w8).mono ?_
  rintro e w9 ⟨rfl, hR9, hS9⟩
  have hR9 : Rd w9 w8.heap.size (some [91, 49, 59, 45, 50, 59, 93, 51, 59]) := hR9
  have hE9 := hE8.trans hS9
  have hb9 := hR9.lt
  generalize w8.heap.size = b at hR9 hz8 hb4 hb9
  go_wp2_with fail
  have hc := list_I b _ w9 hR9 hb4 (hT.ext hE9) (by decide)
  rw [show (some [91, 49, 59, 45, 50, 59, 93, 51, 59]).bind (rdList rdInt) = some ([1, -2], [51, 59]) from rd12] at hc
  refine hc.mono ?_
  rintro e w10 ⟨⟨⟨v, rfl, hO10⟩, hR10⟩, hg10⟩
  clear hc
  have hR10 : Rd w10 b (some [51, 59]) := hR10
  have hO10 : OwnI w10 w9.heap.size v [1, -2] := hO10
  obtain ⟨A, c, rfl, _⟩ := hO10.form
  have hE10 := ext_own hE9 hg10 hz8
  go_wp2_with fail
  refine (left_any b _ w10 hR10).mono ?_
  rintro e w11 ⟨rfl, rfl⟩
  go_wp2_with fail
  have hc := int_any b _ w11 hR10 hb4 (hT.ext hE10) (by decide)
  rw [show (some [51, 59]).bind rdInt = some (3, []) from rd3] at hc
  refine hc.mono ?_
  rintro e w12 ⟨⟨rfl, hR12⟩, hg12⟩
  clear hc
  have hR12 : Rd w12 b (some []) := hR12
  have hO12 := hO10.other hg12 hb9
  have hE12 := ext_own hE10 hg12 hz8
  go_wp2_with fail
  have rA := hO12.row
  have rB : RowI (w12.alloc (.cells #[.int .i64 1, .int .i64 (-2)] 3)) (w12.alloc (.cells #[.int .i64 1, .int .i64 (-2)] 3)).heap.size (some ⟨w12.heap.size, 0, none⟩) 2 [1, -2] := row_new_I w12 [1, -2] _
  refine (same_I A _ 2 2 c 2 [1, -2] [1, -2] _ (rA.ext (Ext.alloc _ _)) rB (by decide) (by decide)).mono ?_
  rintro e w13 ⟨rfl, hS13⟩
  rw [show decide (([1, -2] : List Int) = [1, -2]) = true from rfl]
  have hX13 := (Ext.alloc w12 (.cells #[.int .i64 1, .int .i64 (-2)] 3)).trans hS13
  have hR13 := hR12.ext hX13
  have hE13 := hE12.trans hX13
  go_wp2_with fail
  refine (left_any b _ w13 hR13).mono ?_
  rintro e w14 ⟨rfl, rfl⟩
  go_wp2_with fail
  refine (bad_any b _ w14 hR13).mono ?_
  rintro e w15 ⟨rfl, rfl⟩
  go_wp2_with fail
  have hc := int_any b _ w15 hR13 hb4 (hT.ext hE13) (by decide)
  rw [show (some ([] : List UInt8)).bind rdInt = none from rfl] at hc
  refine hc.mono ?_
  rintro e w16 ⟨⟨rfl, hR16⟩, hg16⟩
  clear hc
  have hR16 : Rd w16 b none := hR16
  have hE16 := ext_own hE13 hg16 hz8
  go_wp2_with fail
  refine (bad_any b _ w16 hR16).mono ?_
  rintro e w17 ⟨rfl, rfl⟩
  go_wp2_with fail
  refine (malformed_any [48, 49, 59] (by decide) f01 w17 (hT.ext hE16)).mono ?_
  rintro e w20 ⟨rfl, hS20⟩
  have hE20 := hE16.trans hS20
  go_wp2_with fail
  refine (malformed_any [43, 49, 59] (by decide) fp1 w20 (hT.ext hE20)).mono ?_
  rintro e w21 ⟨rfl, hS21⟩
  have hE21 := hE20.trans hS21
  go_wp2_with fail
  refine (malformed_any [45, 48, 59] (by decide) fm0 w21 (hT.ext hE21)).mono ?_
  rintro e w22 ⟨rfl, hS22⟩
  have hE22 := hE21.trans hS22
  go_wp2_with fail
  refine (malformed_any [49] (by decide) f1 w22 (hT.ext hE22)).mono ?_
  rintro e w23 ⟨rfl, hS23⟩
  have hE23 := hE22.trans hS23
  go_wp2_with fail
  refine (malformed_any [51, 58, 97, 98] (by decide) f3ab w23 (hT.ext hE23)).mono ?_
  rintro e w24 ⟨rfl, hS24⟩
  have hE24 := hE23.trans hS24
  go_wp2_with fail
  go_ret
  exact ⟨rfl, hE24⟩
end Go.Proofs.YthdbdpfgccipdaaDoor
