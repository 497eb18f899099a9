/- Comparisons that numbers make: the contract of compared (printed by gen_ub.py). -/
import Derived.Test.YtmiencglfhpmeaaGreatDoorMQUa
set_option linter.unusedSimpArgs false
set_option linter.unusedVariables false
namespace Go.Proofs.YtmiencglfhpmeaaGreatDoor
open Go.RowKit Hach
theorem size_0' (o v t n : Int) (b : Bool) (s : List UInt8) : (Ex.mk o v t n b s []).size = 1 := by rw [Ex.size]; simp [Ex.sizes]
theorem num_size (n : Int) : (numE n).size = 1 := size_0' _ _ _ _ _ _
theorem var_size (n : Int) : (varE n).size = 1 := size_0' _ _ _ _ _ _
theorem word_size (s : List UInt8) : (wordE s).size = 1 := size_0' _ _ _ _ _ _
set_option maxRecDepth 100000 in
set_option maxHeartbeats 16000000 in
theorem compared_any (b : Nat) (w : World) (hD : DrA w b) : Calls Tryz.prog 74 #[dp b] w (MadeR 2 3 b w) := by
 have hbl := hD.lt
 have hz0 := Z7.new w
 obtain ⟨w0, hw0⟩ : ∃ w0, w.alloc (.cells zero7 47) = w0 := ⟨_, rfl⟩
 have hE0 : Ext w w0 := by rw [← hw0]; exact Ext.alloc _ _
 have hs0 : w0.heap.size = w.heap.size + 1 := by rw [← hw0]; simp
 rw [hw0] at hz0
 have hD0 := hD.ext hE0
 have HW := Lib.hid hw0
 have hs0' : w.heap.size + 1 ≤ w0.heap.size := by omega
 have hG0 : w.grownBy w0 (some b) := grown_of hE0 _
 have DN := Lib.hid (fun (m : Int) (W : World) (h : DrA W b) (h1 : 0 < m) (h2 : m < 4294967296) => draw_any m b W h h1 h2)
 have NU := Lib.hid (fun (n : Int) (W : World) => number_any' n W)
 have VA := Lib.hid (fun (n : Int) (W : World) => var_any' n W)
 have WO := Lib.hid (fun (s : List UInt8) (W : World) => word_any' s W)
 unfold New0 at NU VA WO
 unfold zero7 at HW
 unfold dp at *
 clear hw0 hs0 hD
 go_enter Tryz.func74, Tryz.ntmps74
 go_upto_region 1 with fail
 rw [HW.out]
 go_wp2_with fail
 refine (DN.out 9 _ hD0 (by decide) (by decide)).mono ?_
 rintro e w1 ⟨k1, p1, q1, rfl, hD1, hg1⟩
 have hG1 := grown_trans hG0 hg1
 have hz1 := hz0.own hg1 (by simp; omega)
 have hw1 : w0.heap.size ≤ w1.heap.size := hg1.size
 rcases (by omega : k1 = 0 ∨ k1 = 1 ∨ k1 = 2 ∨ k1 = 3 ∨ k1 = 4 ∨ k1 = 5 ∨ k1 = 6 ∨ k1 = 7 ∨ k1 = 8) with rfl | rfl | rfl | rfl | rfl | rfl | rfl | rfl | rfl
 ·go_wp2_with fail
  refine (VA.out 1 _).mono ?_
  rintro e w2 ⟨rfl, hE2⟩
  have hD2 := hD1.ext hE2
  have hz2 := hz1.ext hE2
  have hG2 := grown_trans hG1 (grown_of hE2 _)
  have hw2 : w1.heap.size ≤ w2.heap.size := hE2.sz
  unfold Ex.cells
  go_wp2_with fail
  refine (DN.out 3 _ hD2 (by decide) (by decide)).mono ?_
  rintro e w3 ⟨k3, p3, q3, rfl, hD3, hg3⟩
  have hG3 := grown_trans hG2 hg3
  have hz3 := hz2.own hg3 (by simp; omega)
  have hw3 : w2.heap.size ≤ w3.heap.size := hg3.size
  go_wp2_with fail
  refine (NU.out (1 + k3) _).mono ?_
  rintro e w4 ⟨rfl, hE4⟩
  have hD4 := hD3.ext hE4
  have hz4 := hz3.ext hE4
  have hG4 := grown_trans hG3 (grown_of hE4 _)
  have hw4 : w3.heap.size ≤ w4.heap.size := hE4.sz
  unfold Ex.cells
  have hEf : Ext w4 (w4.alloc (.cells #[.int .i64 ((varE 1)).op, .int .i64 ((varE 1)).var, .int .i64 ((varE 1)).ty, .int .i64 ((varE 1)).n, .bool ((varE 1)).b, .string ⟨((varE 1)).s.toArray⟩, .slice none ((varE 1)).l.length 0, .int .i64 ((numE (1 + k3))).op, .int .i64 ((numE (1 + k3))).var, .int .i64 ((numE (1 + k3))).ty, .int .i64 ((numE (1 + k3))).n, .bool ((numE (1 + k3))).b, .string ⟨((numE (1 + k3))).s.toArray⟩, .slice none ((numE (1 + k3))).l.length 0] 47)) := Ext.alloc _ _
  have hzf := hz4.ext hEf
  obtain ⟨u0, u1, u2, u3, u4, u5, u6⟩ := hzf.cells
  obtain ⟨f0, f1, f2, f3, f4, f5, f6⟩ := hzf.free
  go_wp2_with fail
  refine made_fin (N := 3) rfl (6) [⟨(varE 1), none, 0⟩, ⟨(numE (1 + k3)), none, 0⟩] 0 (Rt.eq 1 _ _ (var_rt (v := 1) (t := 1) (by decide) (by decide)) (num_rt (by omega))) (by show (Ex.mk _ 0 0 0 false [] [(varE 1), (numE (1 + k3))]).size ≤ 3; rw [size_2']; simp only [num_size, var_size, word_size]; omega) hzf hbl (hD4.ext hEf) (grown_trans hG4 (grown_of hEf _)) ?_ w4.heap.size ⟨by omega, by simp⟩ ?_ 2 rfl rfl
  ·intro u hu
   simp only [List.mem_cons, List.not_mem_nil, or_false] at hu
   rcases hu with rfl | rfl <;> exact ExL.nil _ _ _ _
  ·intro i v hi
   rw [World.cell?_alloc_new]
   simpa [Nd.cells, Ex.cells] using hi
 ·go_wp2_with fail
  refine (VA.out 2 _).mono ?_
  rintro e w2 ⟨rfl, hE2⟩
  have hD2 := hD1.ext hE2
  have hz2 := hz1.ext hE2
  have hG2 := grown_trans hG1 (grown_of hE2 _)
  have hw2 : w1.heap.size ≤ w2.heap.size := hE2.sz
  unfold Ex.cells
  have hEr : Ext w2 (w2.alloc (.cells #[.string ⟨#[112, 97, 114, 107]⟩, .string ⟨#[112, 97, 116, 104]⟩, .string ⟨#[116, 114, 101, 101]⟩] 9)) := Ext.alloc _ _
  go_wp2_with fail
  refine (DN.out 3 _ (hD2.ext hEr) (by decide) (by decide)).mono ?_
  rintro e w3 ⟨k3, p3, q3, rfl, hD3, hg3⟩
  obtain ⟨k3, rfl⟩ := Int.eq_ofNat_of_zero_le p3
  have hG3 := grown_trans (grown_trans hG2 (grown_of hEr _)) hg3
  have hz3 := (hz2.ext hEr).own hg3 (by simp; omega)
  have hw3 : w2.heap.size ≤ w3.heap.size := Nat.le_trans hEr.sz hg3.size
  have hbr : b < w2.heap.size := by omega
  have hv : ∃ s : List UInt8, w3.cell? ⟨w2.heap.size, k3, none⟩ = some (.string ⟨s.toArray⟩) ∧ vlRight ⟨3, 0, false, s⟩ = true := by
   have key : ∀ v, (#[.string ⟨#[112, 97, 114, 107]⟩, .string ⟨#[112, 97, 116, 104]⟩, .string ⟨#[116, 114, 101, 101]⟩] : Array Value)[k3]? = some v → w3.cell? ⟨w2.heap.size, k3, none⟩ = some v := fun v hv => by
    rw [grown_cell hg3 (by simp) (by simp; omega), World.cell?_alloc_new]; exact hv
   rcases (by omega : k3 = 0 ∨ k3 = 1 ∨ k3 = 2) with rfl | rfl | rfl <;> exact ⟨_, key _ rfl, by decide⟩
  obtain ⟨s, hv, hr⟩ := hv
  have HR := Lib.hid hr
  clear hr
  go_wp2_with fail
  refine (WO.out s _).mono ?_
  rintro e w4 ⟨rfl, hE4⟩
  have hD4 := hD3.ext hE4
  have hz4 := hz3.ext hE4
  have hG4 := grown_trans hG3 (grown_of hE4 _)
  have hw4 : w3.heap.size ≤ w4.heap.size := hE4.sz
  unfold Ex.cells
  have hEf : Ext w4 (w4.alloc (.cells #[.int .i64 ((varE 2)).op, .int .i64 ((varE 2)).var, .int .i64 ((varE 2)).ty, .int .i64 ((varE 2)).n, .bool ((varE 2)).b, .string ⟨((varE 2)).s.toArray⟩, .slice none ((varE 2)).l.length 0, .int .i64 ((wordE s)).op, .int .i64 ((wordE s)).var, .int .i64 ((wordE s)).ty, .int .i64 ((wordE s)).n, .bool ((wordE s)).b, .string ⟨((wordE s)).s.toArray⟩, .slice none ((wordE s)).l.length 0] 47)) := Ext.alloc _ _
  have hzf := hz4.ext hEf
  obtain ⟨u0, u1, u2, u3, u4, u5, u6⟩ := hzf.cells
  obtain ⟨f0, f1, f2, f3, f4, f5, f6⟩ := hzf.free
  go_wp2_with fail
  refine made_fin (N := 3) rfl (6) [⟨(varE 2), none, 0⟩, ⟨(wordE s), none, 0⟩] 0 (Rt.eq 3 _ _ (var_rt (v := 2) (t := 3) (by decide) (by decide)) (Rt.con ⟨3, 0, false, s⟩ HR.out)) (by show (Ex.mk _ 0 0 0 false [] [(varE 2), (wordE s)]).size ≤ 3; rw [size_2']; simp only [num_size, var_size, word_size]; omega) hzf hbl (hD4.ext hEf) (grown_trans hG4 (grown_of hEf _)) ?_ w4.heap.size ⟨by omega, by simp⟩ ?_ 2 rfl rfl
  ·intro u hu
   simp only [List.mem_cons, List.not_mem_nil, or_false] at hu
   rcases hu with rfl | rfl <;> exact ExL.nil _ _ _ _
  ·intro i v hi
   rw [World.cell?_alloc_new]
   simpa [Nd.cells, Ex.cells] using hi
 ·go_wp2_with fail
  refine (VA.out 4 _).mono ?_
  rintro e w2 ⟨rfl, hE2⟩
  have hD2 := hD1.ext hE2
  have hz2 := hz1.ext hE2
  have hG2 := grown_trans hG1 (grown_of hE2 _)
  have hw2 : w1.heap.size ≤ w2.heap.size := hE2.sz
  unfold Ex.cells
  go_wp2_with fail
  refine (DN.out 20 _ hD2 (by decide) (by decide)).mono ?_
  rintro e w3 ⟨k3, p3, q3, rfl, hD3, hg3⟩
  have hG3 := grown_trans hG2 hg3
  have hz3 := hz2.own hg3 (by simp; omega)
  have hw3 : w2.heap.size ≤ w3.heap.size := hg3.size
  go_wp2_with fail
  refine (NU.out k3 _).mono ?_
  rintro e w4 ⟨rfl, hE4⟩
  have hD4 := hD3.ext hE4
  have hz4 := hz3.ext hE4
  have hG4 := grown_trans hG3 (grown_of hE4 _)
  have hw4 : w3.heap.size ≤ w4.heap.size := hE4.sz
  unfold Ex.cells
  have hEf : Ext w4 (w4.alloc (.cells #[.int .i64 ((varE 4)).op, .int .i64 ((varE 4)).var, .int .i64 ((varE 4)).ty, .int .i64 ((varE 4)).n, .bool ((varE 4)).b, .string ⟨((varE 4)).s.toArray⟩, .slice none ((varE 4)).l.length 0, .int .i64 ((numE k3)).op, .int .i64 ((numE k3)).var, .int .i64 ((numE k3)).ty, .int .i64 ((numE k3)).n, .bool ((numE k3)).b, .string ⟨((numE k3)).s.toArray⟩, .slice none ((numE k3)).l.length 0] 47)) := Ext.alloc _ _
  have hzf := hz4.ext hEf
  obtain ⟨u0, u1, u2, u3, u4, u5, u6⟩ := hzf.cells
  obtain ⟨f0, f1, f2, f3, f4, f5, f6⟩ := hzf.free
  go_wp2_with fail
  refine made_fin (N := 3) rfl (7) [⟨(varE 4), none, 0⟩, ⟨(numE k3), none, 0⟩] 0 (Rt.less _ _ (var_rt (v := 4) (t := 1) (by decide) (by decide)) (num_rt (by omega))) (by show (Ex.mk _ 0 0 0 false [] [(varE 4), (numE k3)]).size ≤ 3; rw [size_2']; simp only [num_size, var_size, word_size]; omega) hzf hbl (hD4.ext hEf) (grown_trans hG4 (grown_of hEf _)) ?_ w4.heap.size ⟨by omega, by simp⟩ ?_ 2 rfl rfl
  ·intro u hu
   simp only [List.mem_cons, List.not_mem_nil, or_false] at hu
   rcases hu with rfl | rfl <;> exact ExL.nil _ _ _ _
  ·intro i v hi
   rw [World.cell?_alloc_new]
   simpa [Nd.cells, Ex.cells] using hi
 ·have hEr : Ext w1 (w1.alloc (.cells #[.int .i64 2, .int .i64 5, .int .i64 20, .int .i64 100] 3)) := Ext.alloc _ _
  go_wp2_with fail
  refine (DN.out 4 _ (hD1.ext hEr) (by decide) (by decide)).mono ?_
  rintro e w2 ⟨k2, p2, q2, rfl, hD2, hg2⟩
  obtain ⟨k2, rfl⟩ := Int.eq_ofNat_of_zero_le p2
  have hG2 := grown_trans (grown_trans hG1 (grown_of hEr _)) hg2
  have hz2 := (hz1.ext hEr).own hg2 (by simp; omega)
  have hw2 : w1.heap.size ≤ w2.heap.size := Nat.le_trans hEr.sz hg2.size
  have hbr : b < w1.heap.size := by omega
  have hv : ∃ n : Int, w2.cell? ⟨w1.heap.size, k2, none⟩ = some (.int .i64 n) ∧ (-1073741824 ≤ n ∧ n ≤ 1073741824) := by
   have key : ∀ v, (#[.int .i64 2, .int .i64 5, .int .i64 20, .int .i64 100] : Array Value)[k2]? = some v → w2.cell? ⟨w1.heap.size, k2, none⟩ = some v := fun v hv => by
    rw [grown_cell hg2 (by simp) (by simp; omega), World.cell?_alloc_new]; exact hv
   rcases (by omega : k2 = 0 ∨ k2 = 1 ∨ k2 = 2 ∨ k2 = 3) with rfl | rfl | rfl | rfl <;> exact ⟨_, key _ rfl, by decide⟩
  obtain ⟨n, hv, hn⟩ := hv
  go_wp2_with fail
  refine (NU.out n _).mono ?_
  rintro e w3 ⟨rfl, hE3⟩
  have hD3 := hD2.ext hE3
  have hz3 := hz2.ext hE3
  have hG3 := grown_trans hG2 (grown_of hE3 _)
  have hw3 : w2.heap.size ≤ w3.heap.size := hE3.sz
  unfold Ex.cells
  go_wp2_with fail
  refine (VA.out 7 _).mono ?_
  rintro e w4 ⟨rfl, hE4⟩
  have hD4 := hD3.ext hE4
  have hz4 := hz3.ext hE4
  have hG4 := grown_trans hG3 (grown_of hE4 _)
  have hw4 : w3.heap.size ≤ w4.heap.size := hE4.sz
  unfold Ex.cells
  have hEf : Ext w4 (w4.alloc (.cells #[.int .i64 ((numE n)).op, .int .i64 ((numE n)).var, .int .i64 ((numE n)).ty, .int .i64 ((numE n)).n, .bool ((numE n)).b, .string ⟨((numE n)).s.toArray⟩, .slice none ((numE n)).l.length 0, .int .i64 ((varE 7)).op, .int .i64 ((varE 7)).var, .int .i64 ((varE 7)).ty, .int .i64 ((varE 7)).n, .bool ((varE 7)).b, .string ⟨((varE 7)).s.toArray⟩, .slice none ((varE 7)).l.length 0] 47)) := Ext.alloc _ _
  have hzf := hz4.ext hEf
  obtain ⟨u0, u1, u2, u3, u4, u5, u6⟩ := hzf.cells
  obtain ⟨f0, f1, f2, f3, f4, f5, f6⟩ := hzf.free
  go_wp2_with fail
  refine made_fin (N := 3) rfl (7) [⟨(numE n), none, 0⟩, ⟨(varE 7), none, 0⟩] 0 (Rt.less _ _ (num_rt hn) (var_rt (v := 7) (t := 1) (by decide) (by decide))) (by show (Ex.mk _ 0 0 0 false [] [(numE n), (varE 7)]).size ≤ 3; rw [size_2']; simp only [num_size, var_size, word_size]; omega) hzf hbl (hD4.ext hEf) (grown_trans hG4 (grown_of hEf _)) ?_ w4.heap.size ⟨by omega, by simp⟩ ?_ 2 rfl rfl
  ·intro u hu
   simp only [List.mem_cons, List.not_mem_nil, or_false] at hu
   rcases hu with rfl | rfl <;> exact ExL.nil _ _ _ _
  ·intro i v hi
   rw [World.cell?_alloc_new]
   simpa [Nd.cells, Ex.cells] using hi
 ·go_wp2_with fail
  refine (VA.out 5 _).mono ?_
  rintro e w2 ⟨rfl, hE2⟩
  have hD2 := hD1.ext hE2
  have hz2 := hz1.ext hE2
  have hG2 := grown_trans hG1 (grown_of hE2 _)
  have hw2 : w1.heap.size ≤ w2.heap.size := hE2.sz
  unfold Ex.cells
  go_wp2_with fail
  refine (DN.out 3 _ hD2 (by decide) (by decide)).mono ?_
  rintro e w3 ⟨k3, p3, q3, rfl, hD3, hg3⟩
  have hG3 := grown_trans hG2 hg3
  have hz3 := hz2.own hg3 (by simp; omega)
  have hw3 : w2.heap.size ≤ w3.heap.size := hg3.size
  go_wp2_with fail
  refine (NU.out (k3 - 1) _).mono ?_
  rintro e w4 ⟨rfl, hE4⟩
  have hD4 := hD3.ext hE4
  have hz4 := hz3.ext hE4
  have hG4 := grown_trans hG3 (grown_of hE4 _)
  have hw4 : w3.heap.size ≤ w4.heap.size := hE4.sz
  unfold Ex.cells
  have hEf : Ext w4 (w4.alloc (.cells #[.int .i64 ((varE 5)).op, .int .i64 ((varE 5)).var, .int .i64 ((varE 5)).ty, .int .i64 ((varE 5)).n, .bool ((varE 5)).b, .string ⟨((varE 5)).s.toArray⟩, .slice none ((varE 5)).l.length 0, .int .i64 ((numE (k3 - 1))).op, .int .i64 ((numE (k3 - 1))).var, .int .i64 ((numE (k3 - 1))).ty, .int .i64 ((numE (k3 - 1))).n, .bool ((numE (k3 - 1))).b, .string ⟨((numE (k3 - 1))).s.toArray⟩, .slice none ((numE (k3 - 1))).l.length 0] 47)) := Ext.alloc _ _
  have hzf := hz4.ext hEf
  obtain ⟨u0, u1, u2, u3, u4, u5, u6⟩ := hzf.cells
  obtain ⟨f0, f1, f2, f3, f4, f5, f6⟩ := hzf.free
  go_wp2_with fail
  refine made_fin (N := 3) rfl (6) [⟨(varE 5), none, 0⟩, ⟨(numE (k3 - 1)), none, 0⟩] 0 (Rt.eq 1 _ _ (var_rt (v := 5) (t := 1) (by decide) (by decide)) (num_rt (by omega))) (by show (Ex.mk _ 0 0 0 false [] [(varE 5), (numE (k3 - 1))]).size ≤ 3; rw [size_2']; simp only [num_size, var_size, word_size]; omega) hzf hbl (hD4.ext hEf) (grown_trans hG4 (grown_of hEf _)) ?_ w4.heap.size ⟨by omega, by simp⟩ ?_ 2 rfl rfl
  ·intro u hu
   simp only [List.mem_cons, List.not_mem_nil, or_false] at hu
   rcases hu with rfl | rfl <;> exact ExL.nil _ _ _ _
  ·intro i v hi
   rw [World.cell?_alloc_new]
   simpa [Nd.cells, Ex.cells] using hi
 ·go_wp2_with fail
  refine (VA.out 6 _).mono ?_
  rintro e w2 ⟨rfl, hE2⟩
  have hD2 := hD1.ext hE2
  have hz2 := hz1.ext hE2
  have hG2 := grown_trans hG1 (grown_of hE2 _)
  have hw2 : w1.heap.size ≤ w2.heap.size := hE2.sz
  unfold Ex.cells
  obtain ⟨u0, u1, u2, u3, u4, u5, u6⟩ := hz2.cells
  obtain ⟨f0, f1, f2, f3, f4, f5, f6⟩ := hz2.free
  go_wp2_with fail
  exact made_leaf_fin rfl (varE 6) (var_rt (v := 6) (t := 2) (by decide) (by decide)) rfl hz2 hbl hD2 hG2 (by decide) rfl
 ·go_wp2_with fail
  refine (VA.out 8 _).mono ?_
  rintro e w2 ⟨rfl, hE2⟩
  have hD2 := hD1.ext hE2
  have hz2 := hz1.ext hE2
  have hG2 := grown_trans hG1 (grown_of hE2 _)
  have hw2 : w1.heap.size ≤ w2.heap.size := hE2.sz
  unfold Ex.cells
  go_wp2_with fail
  refine (DN.out 24 _ hD2 (by decide) (by decide)).mono ?_
  rintro e w3 ⟨k3, p3, q3, rfl, hD3, hg3⟩
  have hG3 := grown_trans hG2 hg3
  have hz3 := hz2.own hg3 (by simp; omega)
  have hw3 : w2.heap.size ≤ w3.heap.size := hg3.size
  go_wp2_with fail
  refine (NU.out k3 _).mono ?_
  rintro e w4 ⟨rfl, hE4⟩
  have hD4 := hD3.ext hE4
  have hz4 := hz3.ext hE4
  have hG4 := grown_trans hG3 (grown_of hE4 _)
  have hw4 : w3.heap.size ≤ w4.heap.size := hE4.sz
  unfold Ex.cells
  have hEf : Ext w4 (w4.alloc (.cells #[.int .i64 ((varE 8)).op, .int .i64 ((varE 8)).var, .int .i64 ((varE 8)).ty, .int .i64 ((varE 8)).n, .bool ((varE 8)).b, .string ⟨((varE 8)).s.toArray⟩, .slice none ((varE 8)).l.length 0, .int .i64 ((numE k3)).op, .int .i64 ((numE k3)).var, .int .i64 ((numE k3)).ty, .int .i64 ((numE k3)).n, .bool ((numE k3)).b, .string ⟨((numE k3)).s.toArray⟩, .slice none ((numE k3)).l.length 0] 47)) := Ext.alloc _ _
  have hzf := hz4.ext hEf
  obtain ⟨u0, u1, u2, u3, u4, u5, u6⟩ := hzf.cells
  obtain ⟨f0, f1, f2, f3, f4, f5, f6⟩ := hzf.free
  go_wp2_with fail
  refine made_fin (N := 3) rfl (7) [⟨(varE 8), none, 0⟩, ⟨(numE k3), none, 0⟩] 0 (Rt.less _ _ (var_rt (v := 8) (t := 1) (by decide) (by decide)) (num_rt (by omega))) (by show (Ex.mk _ 0 0 0 false [] [(varE 8), (numE k3)]).size ≤ 3; rw [size_2']; simp only [num_size, var_size, word_size]; omega) hzf hbl (hD4.ext hEf) (grown_trans hG4 (grown_of hEf _)) ?_ w4.heap.size ⟨by omega, by simp⟩ ?_ 2 rfl rfl
  ·intro u hu
   simp only [List.mem_cons, List.not_mem_nil, or_false] at hu
   rcases hu with rfl | rfl <;> exact ExL.nil _ _ _ _
  ·intro i v hi
   rw [World.cell?_alloc_new]
   simpa [Nd.cells, Ex.cells] using hi
 ·go_wp2_with fail
  refine (VA.out 9 _).mono ?_
  rintro e w2 ⟨rfl, hE2⟩
  have hD2 := hD1.ext hE2
  have hz2 := hz1.ext hE2
  have hG2 := grown_trans hG1 (grown_of hE2 _)
  have hw2 : w1.heap.size ≤ w2.heap.size := hE2.sz
  unfold Ex.cells
  go_wp2_with fail
  refine (DN.out 3 _ hD2 (by decide) (by decide)).mono ?_
  rintro e w3 ⟨k3, p3, q3, rfl, hD3, hg3⟩
  have hG3 := grown_trans hG2 hg3
  have hz3 := hz2.own hg3 (by simp; omega)
  have hw3 : w2.heap.size ≤ w3.heap.size := hg3.size
  go_wp2_with fail
  refine (NU.out (1 + k3) _).mono ?_
  rintro e w4 ⟨rfl, hE4⟩
  have hD4 := hD3.ext hE4
  have hz4 := hz3.ext hE4
  have hG4 := grown_trans hG3 (grown_of hE4 _)
  have hw4 : w3.heap.size ≤ w4.heap.size := hE4.sz
  unfold Ex.cells
  have hEf : Ext w4 (w4.alloc (.cells #[.int .i64 ((varE 9)).op, .int .i64 ((varE 9)).var, .int .i64 ((varE 9)).ty, .int .i64 ((varE 9)).n, .bool ((varE 9)).b, .string ⟨((varE 9)).s.toArray⟩, .slice none ((varE 9)).l.length 0, .int .i64 ((numE (1 + k3))).op, .int .i64 ((numE (1 + k3))).var, .int .i64 ((numE (1 + k3))).ty, .int .i64 ((numE (1 + k3))).n, .bool ((numE (1 + k3))).b, .string ⟨((numE (1 + k3))).s.toArray⟩, .slice none ((numE (1 + k3))).l.length 0] 47)) := Ext.alloc _ _
  have hzf := hz4.ext hEf
  obtain ⟨u0, u1, u2, u3, u4, u5, u6⟩ := hzf.cells
  obtain ⟨f0, f1, f2, f3, f4, f5, f6⟩ := hzf.free
  go_wp2_with fail
  refine made_fin (N := 3) rfl (6) [⟨(varE 9), none, 0⟩, ⟨(numE (1 + k3)), none, 0⟩] 0 (Rt.eq 1 _ _ (var_rt (v := 9) (t := 1) (by decide) (by decide)) (num_rt (by omega))) (by show (Ex.mk _ 0 0 0 false [] [(varE 9), (numE (1 + k3))]).size ≤ 3; rw [size_2']; simp only [num_size, var_size, word_size]; omega) hzf hbl (hD4.ext hEf) (grown_trans hG4 (grown_of hEf _)) ?_ w4.heap.size ⟨by omega, by simp⟩ ?_ 2 rfl rfl
  ·intro u hu
   simp only [List.mem_cons, List.not_mem_nil, or_false] at hu
   rcases hu with rfl | rfl <;> exact ExL.nil _ _ _ _
  ·intro i v hi
   rw [World.cell?_alloc_new]
   simpa [Nd.cells, Ex.cells] using hi
 ·obtain ⟨u0, u1, u2, u3, u4, u5, u6⟩ := hz1.cells
  obtain ⟨f0, f1, f2, f3, f4, f5, f6⟩ := hz1.free
  go_wp2_with fail
  exact made_leaf_fin rfl yesE yes_rt rfl hz1 hbl hD1 hG1 (by decide) rfl
end Go.Proofs.YtmiencglfhpmeaaGreatDoor
