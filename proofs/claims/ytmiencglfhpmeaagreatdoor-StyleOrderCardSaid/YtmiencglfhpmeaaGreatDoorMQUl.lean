/- The law StyleOrder: its walk (printed by gen_ul.py). -/
import Derived.Test.YtmiencglfhpmeaaGreatDoorMQUk
import Derived.Test.YtmiencglfhpmeaaGreatDoorMQUe
import Derived.Test.YtmiencglfhpmeaaGreatDoorMQUf
namespace Go.Proofs.YtmiencglfhpmeaaGreatDoor
open List (foldl_nil foldl_cons getD_cons_zero getD_cons_succ setIfInBounds_toArray set_cons_zero set_cons_succ)
open Go.RowKit Hach
def emptyP (B : Nat) : SP := ⟨fun v W => ∃ g, v = .slice (some ⟨g, 0, none⟩) 0 0 ∧ B ≤ g ∧ OwnR W B (.slice (some ⟨g, 0, none⟩) 0 0) [], fun h hE => by
 obtain ⟨g, e, h1, h2⟩ := h
 exact ⟨g, e, h1, h2.ext hE⟩⟩
def dropP (g n m : Nat) : SP := ⟨fun v _ => ∃ (A : Addr) (c : Nat), v = .slice (some A) m c ∧ (0 < m → A = ⟨g, n * 30, none⟩), fun h _ => h⟩
def ownP (B : Nat) (us : List Rn) : SP := ⟨fun v W => OwnR W B v us, fun h hE => h.ext hE⟩
set_option maxRecDepth 100000 in
set_option maxHeartbeats 8000000 in
theorem StyleOrder_any (A0 A1 : Option Addr) (n0 c0 n1 c1 a2 : Nat) (w : World) (hT : Wr.Tabs w) (hL0 : LI w A0 n0) (hL1 : LI w A1 n1) (ha : a2 < 256) :
  Calls Tryz.prog 6 #[.slice A0 n0 c0, .slice A1 n1 c1, .int .u8 (a2 : Nat)] w fun e w' => e = .returned (.bool true) ∧ Ext w w' := by
 have HT := Lib.hid hT
 have HL0 := Lib.hid hL0
 have HL1 := Lib.hid hL1
 clear hT hL0 hL1
 go_enter Tryz.func6, Tryz.ntmps6
 go_wp2_with fail
 refine (sanity_any w HT.out).mono ?_
 rintro e w1 ⟨rfl, hE1⟩
 have HE1 := Lib.hid hE1
 clear hE1
 go_wp2_with fail
 refine (rMade_any A0 n0 c0 w1 (HL0.out.ext HE1.out)).mono ?_
 rintro e w2 ⟨la, us, g, c, d, hM, rfl, hB, hE2⟩
 have HM := Lib.hid hM
 have HB := Lib.hid hB
 have HE2 := Lib.hid (HE1.out.trans hE2)
 clear hM hB hE2
 go_wp2_with fail
 refine (rEnv_any A1 n1 c1 w2 (HL1.out.ext HE2.out)).mono ?_
 rintro e w3 ⟨x, rfl, hE3⟩
 unfold En.v
 go_upto_region 4 with fail
 show Code.wp _ _ _ _ (w3.alloc (.cells (Ev_row x) 28))
 obtain ⟨w4, hw4⟩ : ∃ q, w3.alloc (.cells (Ev_row x) 28) = q := ⟨_, rfl⟩
 obtain ⟨bx, hbx⟩ : ∃ q, w3.heap.size = q := ⟨_, rfl⟩
 have hV := EvB.new w3 x
 have hE4 := Ext.alloc w3 (.cells (Ev_row x) 28)
 rw [hw4] at hV hE4 ⊢
 rw [hbx] at hV ⊢
 have HV := Lib.hid hV
 have HB4 := Lib.hid (HB.out.ext (hE3.trans hE4))
 have HE4 := Lib.hid (HE2.out.trans (hE3.trans hE4))
 clear hw4 hbx hV hE4 hE3 HB
 have hll : la.length ≤ 4 ∧ 0 < la.length := ⟨HM.out.le, HM.out.pos⟩
 have hus : us.length = la.length := HB4.out.len
 have hcap := HB4.out.cap
 obtain ⟨N, hN⟩ : ∃ q, la.length = q := ⟨_, rfl⟩
 rw [hN] at hll hus hcap ⊢
 have HN := Lib.hid hN
 have HUS := Lib.hid hus
 clear hN hus
 have hdz : 0 < N + 1 := by omega
 obtain ⟨n, hn⟩ : ∃ n, a2 % (N + 1) = n := ⟨_, rfl⟩
 have hnN : n ≤ N := by have := Nat.mod_lt a2 hdz; omega
 go_upto_region 5 with fail
 have em : (a2 : Int) % ((N : Int) + 1) = (n : Int) := by rw [← hn]; simp
 simp only [em]
 have HM4 := Lib.hid (fun (V : World) (h : Ext w4 V) => (HB4.out.ext h))
 clear em hn hdz ha
 apply wp_region_seq (l := [_, _, _, _, _, _, _, _]) (t := [_, _]) [some 34, some 35, some 36, some 37, some 38, some 39, some 40, some 41, some 42, some 11] [[], [], [], [1, 2], [0, 3], [], [], [5, 6], [4, 7], [8]] [4, 3, 3, 4, 8, 7, 7, 8] [(emptyP w4.heap.size), eqv _, eqv _, (dropP g n (N - n)), (ownP w4.heap.size (us.drop n)), eqv _, eqv _, eqv _] (by kernel_rfl) (by kernel_rfl) ⟨?o0, ?o1, ?o2, ?o3, ?o4, ?o5, ?o6, ?o7, trivial⟩ ?last
 case o0 =>
  intro xv W hE _
  simp only [putD, List.foldl_nil, List.getD_cons_zero]
  refine OpGoal.plain ?_
  go_wp2_with fail
  exact ⟨rfl, Ext.alloc _ _, W.heap.size, rfl, ((Ext.drew w4).trans hE).sz, own_empty _ ((Ext.drew w4).trans hE).sz⟩
 case o1 =>
  intro xv W hE _
  simp only [putD, List.foldl_nil, List.getD_cons_zero, List.getD_cons_succ]
  refine OpGoal.plain ?_
  go_wp2_with fail
  exact ⟨rfl, Ext.refl _, rfl⟩
 case o2 =>
  intro xv W hE _
  simp only [putD, List.foldl_nil, List.getD_cons_zero, List.getD_cons_succ]
  refine OpGoal.plain ?_
  go_wp2_with fail
  exact ⟨rfl, Ext.refl _, rfl⟩
 case o3 =>
  intro xv W hE hp
  have r1 : xv 1 = _ := hp.1
  have r2 : xv 2 = _ := hp.2.1
  clear hp
  simp only [putD, foldl_nil, foldl_cons, getD_cons_zero, getD_cons_succ, Act.put, setIfInBounds_toArray, set_cons_zero, set_cons_succ]
  refine OpGoal.plain ?_
  by_cases hlt : n < N
  ·have hcn : (c == n) = false := by rw [beq_eq_false_iff_ne]; omega
   have hcn2 : ¬ c = n := by omega
   go_wp2_with fail
   exact ⟨rfl, Ext.refl _, _, _, rfl, fun _ => rfl⟩
  ·by_cases hc : c = n
   ·have hcn : (c == n) = true := by simpa using hc
    go_wp2_with fail
    exact ⟨rfl, Ext.refl _, _, _, rfl, fun h => by omega⟩
   ·have hcn : (c == n) = false := by rw [beq_eq_false_iff_ne]; omega
    go_wp2_with fail
    exact ⟨rfl, Ext.refl _, _, _, rfl, fun h => by omega⟩
 case o4 =>
  intro xv W hE hp
  obtain ⟨g0, r0, lo0, ho0⟩ := hp.1
  obtain ⟨A3, c3, r3, hA3⟩ := hp.2.1
  clear hp
  simp only [putD, foldl_nil, foldl_cons, getD_cons_zero, getD_cons_succ, Act.put, setIfInBounds_toArray, set_cons_zero, set_cons_succ]
  refine OpGoal.plain ?_
  have hat := (HM4.out W ((Ext.drew w4).trans hE)).at_
  have hlen : (us.drop n).length = N - n := by rw [List.length_drop, HUS.out]
  by_cases hlt : n < N
  ·obtain rfl := hA3 (by omega)
   at_builtin
   refine app_G rfl 34 37 rfl g0 0 0 [] r0 (fun j t h => by simp at h) g (n * 30) c3 (us.drop n) (by rw [hlen]; exact r3) (drop_at hat n) (by rw [hlen]; simp; omega) (by rw [hlen]; simp; omega) ?_
   intro v' w' ho hE9
   go_wp2_with fail
   exact ⟨rfl, hE9, (ho.low ((Ext.drew w4).trans hE).sz : OwnR w' w4.heap.size v' (us.drop n))⟩
  ·have hd : us.drop n = [] := List.drop_eq_nil_of_le (by rw [HUS.out]; omega)
   have hz : N - n = 0 := by omega
   rw [hz] at r3
   at_builtin
   refine app_0 rfl 34 37 rfl g0 0 0 0 (Nat.le_refl _) r0 A3 c3 r3 ?_
   go_wp2_with fail
   exact ⟨rfl, Ext.refl _, (by first | exact ho0 | (rw [hd]; exact ho0))⟩
 case o5 =>
  intro xv W hE _
  simp only [putD, List.foldl_nil, List.getD_cons_zero, List.getD_cons_succ]
  refine OpGoal.plain ?_
  go_wp2_with fail
  exact ⟨rfl, Ext.refl _, rfl⟩
 case o6 =>
  intro xv W hE _
  simp only [putD, List.foldl_nil, List.getD_cons_zero, List.getD_cons_succ]
  refine OpGoal.plain ?_
  go_wp2_with fail
  exact ⟨rfl, Ext.refl _, rfl⟩
 case o7 =>
  intro xv W hE hp
  have r5 : xv 5 = _ := hp.1
  have r6 : xv 6 = _ := hp.2.1
  clear hp
  simp only [putD, foldl_nil, foldl_cons, getD_cons_zero, getD_cons_succ, Act.put, setIfInBounds_toArray, set_cons_zero, set_cons_succ]
  refine OpGoal.plain ?_
  go_wp2_with fail
  exact ⟨rfl, Ext.refl _, rfl⟩
 case last =>
  intro xv W hE hp
  obtain ⟨g0, r0, lo0, ho0⟩ := hp.1
  have r1 : xv 1 = _ := hp.2.1
  have r2 : xv 2 = _ := hp.2.2.1
  obtain ⟨A3, c3, r3, hA3⟩ := hp.2.2.2.1
  obtain h4 := hp.2.2.2.2.1
  have r5 : xv 5 = _ := hp.2.2.2.2.2.1
  have r6 : xv 6 = _ := hp.2.2.2.2.2.2.1
  have r7 : xv 7 = _ := hp.2.2.2.2.2.2.2.1
  clear hp
  simp only [putD, List.foldl_nil, List.foldl_cons, List.getD_cons_zero, List.getD_cons_succ, Act.put, List.length_cons, List.length_nil, List.range_succ, List.range_zero, List.nil_append, List.cons_append, List.setIfInBounds_toArray, List.set_cons_zero, List.set_cons_succ]
  have hEW := (Ext.drew w4).trans hE
  obtain ⟨v4, hv4⟩ : ∃ q, xv 4 = q := ⟨_, rfl⟩
  rw [hv4] at h4 ⊢
  have H4 := Lib.hid h4
  have HTK := Lib.hid (take_at (HM4.out W hEW).at_ n)
  have hl1 : (us.drop n).length + (us.take n).length < 4294967296 := by rw [List.length_drop, List.length_take, HUS.out]; omega
  have hlt : (us.take n).length = n := by rw [List.length_take, HUS.out]; omega
  have HLT := Lib.hid hlt
  have HE5 := Lib.hid hEW
  have hb5 : w4.heap.size ≤ W.heap.size := hEW.sz
  clear h4 hA3 hE hEW hv4 hlt ho0
  go_upto_region 6 with (at_builtin; refine app_R rfl 38 41 rfl w4.heap.size v4 (us.drop n) rfl H4.out g 0 c (us.take n) (by rw [HLT.out]; exact r7) HTK.out hl1 hb5 ?_; intro vt w6 ho6 hg6 hn6)
  have hE46 : Ext w4 w6 := Below.trans HE5.out (below_row' hg6 hb5 (fun g e => (H4.out.lt g e).1))
  have HE46 := Lib.hid hE46
  have HKB := Lib.hid (fun (V : World) (h : Ext w4 V) => kids_below HB4.out.kidsB h h.sz)
  have HRT := Lib.hid (fun (V : World) (h : Ext w6 V) => (RowB.own ho6 (fun y hy => HKB.out w6 hE46 y ((List.mem_append.1 hy).elim List.mem_of_mem_drop List.mem_of_mem_take)) (l := la.drop n ++ la.take n) (by rw [List.map_append, List.map_drop, List.map_take, HB4.out.m])).ext h)
  have HRA := Lib.hid (fun (V : World) (h : Ext w4 V) => (HM4.out V h).row)
  have hNN : (N : Int) ≤ 4 := by omega
  clear ho6 hg6 hn6 hE46 H4 HTK hl1 hb5
  go_wp2_with fail
  go_loopw [12, 13] (fun bv iv wr => ∃ (k : Nat) (vs : List Rn) (i : Int), k ≤ N ∧ i = (k : Int) - 1 ∧ iv = .int .i64 i ∧ Hid (OwnR wr w6.heap.size bv vs) ∧ Hid (vs = (us.drop k).reverse) ∧ Hid (Ext w6 wr)) (fun _ iv _ => (intOf iv + 1).toNat)
  case atStart => exact ⟨N, [], (N : Int) - 1, Nat.le_refl _, rfl, rfl, Lib.hid (OwnR.nil _ _), Lib.hid (by rw [List.drop_eq_nil_of_le (by rw [HUS.out]; exact Nat.le_refl _)]; rfl), Lib.hid (Ext.refl _)⟩
  case round =>
   obtain ⟨k, vs, i, hk, hi, rfl, HO, HVS, HBL⟩ := hrel
   obtain ⟨wo, hwo⟩ : ∃ q, q = wr := ⟨_, rfl⟩
   subst hwo
   obtain ⟨Ab, cb, e, _⟩ := HO.out.form
   subst e
   cases k with
   | succ j =>
    obtain rfl : i = (j : Int) := by omega
    have t1 : decide (0 ≤ (j : Int)) = true := by simp
    have hj : j < us.length := by rw [HUS.out]; omega
    have hjN : j < N := by omega
    obtain ⟨u, hu⟩ : ∃ q, us[j]? = some q := ⟨_, List.getElem?_eq_getElem hj⟩
    have hrr := (HM4.out wo (HE46.out.trans HBL.out)).at_ j u hu
    have HU := Lib.hid hu
    have hrx := hrr
    unfold Rn.cells at hrx
    have HOWN : Hid (OwnR (wo.alloc (.cells u.cells.toArray 49)) w6.heap.size (.slice Ab vs.length cb) vs) := Lib.hid (HO.out.ext (Ext.alloc _ _))
    have HCG : Hid (∀ (q : Nat) (t : Rn), [u][q]? = some t → (wo.alloc (.cells u.cells.toArray 49)).rangeAt wo.heap.size (0 + q * 30) t.cells) := Lib.hid (fun q t ht => by
     match q, ht with
     | 0, ht => simp only [List.getElem?_cons_zero, Option.some.injEq] at ht; subst ht; exact range_new wo u.cells _
     | q + 1, ht => simp at ht)
    have hvl : vs.length ≤ N := by rw [HVS.out, List.length_reverse, List.length_drop, HUS.out]; omega
    have hu2 : vs.length + [u].length < 4294967296 := by simp; omega
    have hb2 : w6.heap.size ≤ (wo.alloc (.cells u.cells.toArray 49)).heap.size := Nat.le_trans HBL.out.sz (by simp)
    clear hu hrr hi hk hvl hj
    go_wp2_with (first | (refine load_R rfl _ rfl g (j * 30) _ hrx rfl rfl ?_) | (at_builtin; refine app_R rfl 50 55 rfl w6.heap.size (.slice Ab vs.length cb) vs rfl HOWN.out wo.heap.size 0 1 [u] rfl HCG.out hu2 hb2 ?_; intro v' wz ho hgz hnz))
    have HNX : Hid (OwnR wz w6.heap.size v' (vs ++ [u])) := Lib.hid ho
    have HNV : Hid (vs ++ [u] = (us.drop j).reverse) := Lib.hid (by obtain ⟨h1, h2⟩ := List.getElem?_eq_some_iff.1 HU.out; rw [HVS.out, List.drop_eq_getElem_cons h1, h2]; simp)
    have HNE : Hid (Ext w6 wz) := Lib.hid (Below.trans HBL.out (Below.trans (below_row' (grown_of (Ext.alloc wo (.cells u.cells.toArray 49)) none) HBL.out.sz (fun g e => by cases e)) (below_row' hgz (Nat.le_trans HBL.out.sz (by simp)) (fun g e => (HO.out.lt g e).1))))
    clear ho hgz hnz hrx HOWN HCG hu2 hb2
    go_roundw
    case rel => exact ⟨j, vs ++ [u], (j : Int) - 1, by omega, rfl, rfl, HNX, HNV, HNE⟩
    case measure => simp [intOf]
   | zero =>
    obtain rfl : i = -1 := by omega
    have hp1 : la.Perm (la.drop n ++ la.take n) := by
     have := List.perm_append_comm (l₁ := la.take n) (l₂ := la.drop n)
     rwa [List.take_append_drop] at this
    have hp2 : la.Perm la.reverse := (List.reverse_perm la).symm
    have HRB := Lib.hid (fun (V : World) (h : Ext wo V) => (RowB.own HO.out (fun y hy => HKB.out wo (HE46.out.trans HBL.out) y (by rw [HVS.out, List.drop_zero, List.mem_reverse] at hy; exact hy)) (l := la.reverse) (by rw [HVS.out, List.drop_zero, List.map_reverse, HB4.out.m])).ext h)
    obtain ⟨ra, rb, rc, rn, s, t, u, e1, e2, e3, hor⟩ := look_three x hp1 hp2 HM.out.chk
    have hla : la.length < 4294967296 := by rw [HN.out]; omega
    have LKA := Lib.hid (fun (V : World) (h : Ext w4 V) => (HRA.out V h).look x hla (fun r hr => (HM.out.ok r hr).1))
    have LKT := Lib.hid (fun (V : World) (h : Ext w6 V) => (HRT.out V h).look x (by rw [← hp1.length_eq]; exact hla) (fun r hr => (HM.out.ok r (hp1.mem_iff.2 hr)).1))
    have LKB := Lib.hid (fun (V : World) (h : Ext wo V) => (HRB.out V h).look x (by rw [← hp2.length_eq]; exact hla) (fun r hr => (HM.out.ok r (hp2.mem_iff.2 hr)).1))
    unfold LookR Lk_row at LKA LKT LKB
    rw [e1, HN.out] at LKA
    rw [e2] at LKT
    rw [e3] at LKB
    unfold En.v at LKA LKT LKB
    have HX0 := Lib.hid (HE46.out.trans HBL.out)
    have HY0 := Lib.hid HBL.out
    have HZ0 := Lib.hid (Ext.refl wo)
    have HOR := Lib.hid hor
    clear hp1 hp2 e1 e2 e3 hla hi hk hor HRB HVS HRA HRT HKB
    obtain ⟨p0, p1, p2, p3, p4, p5, p6, p7, p8⟩ := (HV.out.ext HX0.out).cells
    go_wp2_with fail
    refine (LKA.out _ HX0.out).mono ?_
    rintro e wa1 ⟨rfl, hEa1⟩
    clear p0 p1 p2 p3 p4 p5 p6 p7 p8
    go_upto_region 12 with fail
    show Code.wp _ _ _ _ (wa1.alloc (.cells (Lk_row (ra, rb, rc)) 39))
    obtain ⟨wb1, hwb1⟩ : ∃ q, wa1.alloc (.cells (Lk_row (ra, rb, rc)) 39) = q := ⟨_, rfl⟩
    obtain ⟨bl1, hbl1⟩ : ∃ q, wa1.heap.size = q := ⟨_, rfl⟩
    have hLb1 := LkB.new wa1 (ra, rb, rc)
    have hEb1 := hEa1.trans (Ext.alloc wa1 (.cells (Lk_row (ra, rb, rc)) 39))
    rw [hwb1] at hLb1 hEb1 ⊢
    rw [hbl1] at hLb1 ⊢
    have HX1 := Lib.hid (HX0.out.trans hEb1)
    have HY1 := Lib.hid (HY0.out.trans hEb1)
    have HZ1 := Lib.hid (HZ0.out.trans hEb1)
    have HLb1 := Lib.hid hLb1
    clear hwb1 hbl1 hLb1 hEb1 hEa1
    obtain ⟨p0, p1, p2, p3, p4, p5, p6, p7, p8⟩ := (HV.out.ext HX1.out).cells
    go_wp2_with fail
    refine (LKT.out _ HY1.out).mono ?_
    rintro e wa2 ⟨rfl, hEa2⟩
    clear p0 p1 p2 p3 p4 p5 p6 p7 p8
    go_upto_region 13 with fail
    show Code.wp _ _ _ _ (wa2.alloc (.cells (Lk_row (ra, rb, rc)) 39))
    obtain ⟨wb2, hwb2⟩ : ∃ q, wa2.alloc (.cells (Lk_row (ra, rb, rc)) 39) = q := ⟨_, rfl⟩
    obtain ⟨bl2, hbl2⟩ : ∃ q, wa2.heap.size = q := ⟨_, rfl⟩
    have hLb2 := LkB.new wa2 (ra, rb, rc)
    have hEb2 := hEa2.trans (Ext.alloc wa2 (.cells (Lk_row (ra, rb, rc)) 39))
    rw [hwb2] at hLb2 hEb2 ⊢
    rw [hbl2] at hLb2 ⊢
    have HX2 := Lib.hid (HX1.out.trans hEb2)
    have HY2 := Lib.hid (HY1.out.trans hEb2)
    have HZ2 := Lib.hid (HZ1.out.trans hEb2)
    have HLb2 := Lib.hid hLb2
    replace HLb1 := Lib.hid (HLb1.out.ext hEb2)
    clear hwb2 hbl2 hLb2 hEb2 hEa2
    obtain ⟨p0, p1, p2, p3, p4, p5, p6, p7, p8⟩ := (HV.out.ext HX2.out).cells
    go_wp2_with fail
    refine (LKB.out _ HZ2.out).mono ?_
    rintro e wa3 ⟨rfl, hEa3⟩
    clear p0 p1 p2 p3 p4 p5 p6 p7 p8
    go_upto_region 14 with fail
    show Code.wp _ _ _ _ (wa3.alloc (.cells (Lk_row (ra, rb, rc)) 39))
    obtain ⟨wb3, hwb3⟩ : ∃ q, wa3.alloc (.cells (Lk_row (ra, rb, rc)) 39) = q := ⟨_, rfl⟩
    obtain ⟨bl3, hbl3⟩ : ∃ q, wa3.heap.size = q := ⟨_, rfl⟩
    have hLb3 := LkB.new wa3 (ra, rb, rc)
    have hEb3 := hEa3.trans (Ext.alloc wa3 (.cells (Lk_row (ra, rb, rc)) 39))
    rw [hwb3] at hLb3 hEb3 ⊢
    rw [hbl3] at hLb3 ⊢
    have HX3 := Lib.hid (HX2.out.trans hEb3)
    have HY3 := Lib.hid (HY2.out.trans hEb3)
    have HZ3 := Lib.hid (HZ2.out.trans hEb3)
    have HLb3 := Lib.hid hLb3
    replace HLb1 := Lib.hid (HLb1.out.ext hEb3)
    replace HLb2 := Lib.hid (HLb2.out.ext hEb3)
    clear hwb3 hbl3 hLb3 hEb3 hEa3
    obtain ⟨x0, x1, x2⟩ := HLb1.out.cells
    obtain ⟨y0, y1, y2⟩ := HLb2.out.cells
    obtain ⟨z0, z1, z2⟩ := HLb3.out.cells
    have HEF := Lib.hid (HE4.out.trans HX3.out)
    rcases HOR.out with rfl | ⟨hn31, rfl, rfl⟩
    ·clear HOR
     go_wp2_with fail
     go_ret
     exact ⟨rfl, HEF.out⟩
    ·have t31 : (rn == 31) = false := by rw [beq_eq_false_iff_ne]; exact hn31
     clear hn31 HOR
     go_wp2_with fail
     go_ret
     exact ⟨rfl, HEF.out⟩
end Go.Proofs.YtmiencglfhpmeaaGreatDoor
