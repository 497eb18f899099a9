/- The law StyleLower: its walk (printed by gen_un.py). -/
import Derived.Test.YtmiencglfhpmeaaGreatDoorMQUt
import Derived.Test.YtmiencglfhpmeaaGreatDoorMQUf
namespace Go.Proofs.YtmiencglfhpmeaaGreatDoor
open List (foldl_nil foldl_cons getD_cons_zero getD_cons_succ setIfInBounds_toArray set_cons_zero set_cons_succ)
open Go.RowKit Hach
set_option maxRecDepth 100000 in
set_option maxHeartbeats 8000000 in
theorem StyleLower_any (A0 A1 A2 : Option Addr) (n0 c0 n1 c1 n2 c2 : Nat) (w : World) (hT : Wr.Tabs w) (hL0 : LI w A0 n0) (hL1 : LI w A1 n1) (hL2 : LI w A2 n2) :
  Calls Tryz.prog 8 #[.slice A0 n0 c0, .slice A1 n1 c1, .slice A2 n2 c2] w fun e w' => e = .returned (.bool true) ∧ Ext w w' := by
 have HT := Lib.hid hT
 have HL0 := Lib.hid hL0
 have HL1 := Lib.hid hL1
 have HL2 := Lib.hid hL2
 clear hT hL0 hL1 hL2
 go_enter Tryz.func8, Tryz.ntmps8
 go_wp2_with fail
 refine (sanity_any w HT.out).mono ?_
 rintro e w1 ⟨rfl, hE1⟩
 have HE1 := Lib.hid hE1
 clear hE1
 go_wp2_with fail
 refine (rCalm_any A0 n0 c0 w1 (HL0.out.ext HE1.out)).mono ?_
 rintro e w2 ⟨la, us, g, c, d, hM, hdp, rfl, hB, hE2⟩
 have HM := Lib.hid hM
 have HDP := Lib.hid hdp
 have HB := Lib.hid hB
 have HE2 := Lib.hid (HE1.out.trans hE2)
 have hg2 : g < w2.heap.size := hB.lt.2
 have HG0 : Hid (w.heap.size ≤ g) := Lib.hid (Nat.le_trans HE1.out.sz hB.lt.1)
 clear hM hdp hB hE2
 go_wp2_with fail
 refine (rEnv_any A1 n1 c1 w2 (HL1.out.ext HE2.out)).mono ?_
 rintro e w3 ⟨x, rfl, hE3⟩
 unfold En.v
 go_upto_region 4 with fail
 show Code.wp _ _ _ _ (w3.alloc (.cells (Ev_row x) 28))
 obtain ⟨w4, hw4⟩ : ∃ q, w3.alloc (.cells (Ev_row x) 28) = q := ⟨_, rfl⟩
 obtain ⟨bx, hbx⟩ : ∃ q, w3.heap.size = q := ⟨_, rfl⟩
 have hV := EvB.new w3 x
 have hE4 := Ext.alloc w3 (.cells (Ev_row x) 28)
 rw [hw4] at hV hE4 ⊢
 rw [hbx] at hV ⊢
 have hgx : g < bx := by have := hE3.sz; omega
 have HV := Lib.hid hV
 have HB4 := Lib.hid (HB.out.ext (hE3.trans hE4))
 have HE4 := Lib.hid (HE2.out.trans (hE3.trans hE4))
 clear hw4 hbx hE4 hE3 HB
 have hll : la.length ≤ 4 ∧ 0 < la.length := ⟨HM.out.le, HM.out.pos⟩
 have hcap := HB4.out.cap
 have hus : us.length = la.length := HB4.out.len
 obtain ⟨N, hN⟩ : ∃ q, la.length = q := ⟨_, rfl⟩
 obtain ⟨a, b, cc, s, hs, hl1, hl2, hl3⟩ := lower_law x HM.out HDP.out.1 HDP.out.2
 have LK := Lib.hid (HB4.out.row.look x (by omega) fun r hr => (HM.out.ok r hr).1)
 unfold LookR Lk_row at LK
 rw [hl1, hN] at LK
 rw [hN] at hll hcap hus ⊢
 have HN := Lib.hid hN
 have HUS := Lib.hid hus
 have HL2' := Lib.hid hl2
 have HL3' := Lib.hid hl3
 obtain ⟨D, hD⟩ : ∃ q : ByteArray, (⟨s.toArray⟩ : ByteArray) = q := ⟨_, rfl⟩
 have hDn : (D.toList == ([] : List UInt8)) = false := nil_cmp s D hD hs
 rw [hD] at LK
 have HD := Lib.hid hD
 unfold En.v at LK
 obtain ⟨p0, p1, p2, p3, p4, p5, p6, p7, p8⟩ := hV.cells
 clear hV hN hus hl1 hl2 hl3 hD hs
 go_wp2_with fail
 refine LK.out.mono ?_
 rintro e w5 ⟨rfl, hE5⟩
 clear p0 p1 p2 p3 p4 p5 p6 p7 p8 LK
 go_upto_region 5 with fail
 show Code.wp _ _ _ _ (w5.alloc (.cells (Lk_row (a, b, cc)) 39))
 obtain ⟨w6, hw6⟩ : ∃ q, w5.alloc (.cells (Lk_row (a, b, cc)) 39) = q := ⟨_, rfl⟩
 obtain ⟨k1, hk1⟩ : ∃ q, w5.heap.size = q := ⟨_, rfl⟩
 have hLb := LkB.new w5 (a, b, cc)
 have hE6 := hE5.trans (Ext.alloc w5 (.cells (Lk_row (a, b, cc)) 39))
 rw [hw6] at hLb hE6 ⊢
 rw [hk1] at hLb ⊢
 have hgk : g < k1 := by have h1 := hE5.sz; have h2 := HV.out.lt; omega
 have HLB := Lib.hid hLb
 have HE6 := Lib.hid hE6
 clear hw6 hk1 hLb hE6 hE5
 go_wp2_with fail
 refine (yes_any w6).mono ?_
 rintro e w7 ⟨rfl, hE7⟩
 unfold Ex.cells
 go_upto_region 8 with fail
 have hR := row1N w7 0 (Nat.zero_le _) yesE none 0 0 (ExL.nil _ _ _ _)
 have hEa := Ext.alloc w7 (.cells #[.int .i64 yesE.op, .int .i64 yesE.var, .int .i64 yesE.ty, .int .i64 yesE.n, .bool yesE.b, .string ⟨yesE.s.toArray⟩, .slice none yesE.l.length 0] 47)
 obtain ⟨wa, hwa⟩ : ∃ q, w7.alloc (.cells #[.int .i64 yesE.op, .int .i64 yesE.var, .int .i64 yesE.ty, .int .i64 yesE.n, .bool yesE.b, .string ⟨yesE.s.toArray⟩, .slice none yesE.l.length 0] 47) = q := ⟨_, rfl⟩
 obtain ⟨gR, hgR⟩ : ∃ q, w7.heap.size = q := ⟨_, rfl⟩
 have hsa : wa.heap.size = gR + 1 := by rw [← hwa, ← hgR]; simp
 show Code.wp _ _ _ _ ((w7.alloc (.cells #[.int .i64 yesE.op, .int .i64 yesE.var, .int .i64 yesE.ty, .int .i64 yesE.n, .bool yesE.b, .string ⟨yesE.s.toArray⟩, .slice none yesE.l.length 0] 47)).alloc (.cells (cell7 noE (.slice (some ⟨w7.heap.size, 0, none⟩) 1 1)) 47))
 rw [hwa, hgR] at hR
 rw [hwa] at hEa
 rw [hwa, hgR]
 obtain ⟨w8, hw8⟩ : ∃ q, wa.alloc (.cells (cell7 noE (.slice (some ⟨gR, 0, none⟩) 1 1)) 47) = q := ⟨_, rfl⟩
 have hI8 := InBlk.new wa noE (.slice (some ⟨gR, 0, none⟩) 1 1)
 have hE8 := Ext.alloc wa (.cells (cell7 noE (.slice (some ⟨gR, 0, none⟩) 1 1)) 47)
 rw [hw8] at hI8 hE8 ⊢
 rw [hsa] at hI8
 have HI8 := Lib.hid hI8
 have HR8 : Hid (ExB w8 w8.heap.size 1 (some ⟨gR, 0, none⟩) [yesE]) := Lib.hid (ExL.ext (hR.more fun b hb => hb.2) hE8)
 have HE68 := Lib.hid (hE7.trans (hEa.trans hE8))
 have hs8 : g < w8.heap.size := by have h1 := hE7.sz; have h2 := hEa.sz; have h3 := hE8.sz; have h4 := HLB.out.lt; omega
 clear hR hEa hwa hgR hsa hw8 hI8 hE8 hE7
 apply wp_region_seq (l := [_, _, _, _, _, _]) (t := [_]) [some 44, some 45, some 46, some 47, some 48, some 14, none] [[], [], [], [], [0, 1, 2, 3], [], [4, 5]] [6, 6, 6, 6, 6, 6] [(eqv (.agg #[.int .i64 3, .int .i64 0, .int .i64 0, .int .i64 0, .bool false, .string ⟨#[]⟩, .slice (some ⟨gR, 0, none⟩) 1 1])), (eqv (.agg #[.int .i64 1, .int .i64 0, .int .i64 1, .int .i64 1, .bool false, .string ⟨#[]⟩, .slice none 0 0])), (eqv (.agg #[.int .i64 1, .int .i64 0, .int .i64 1, .int .i64 1, .bool false, .string ⟨#[]⟩, .slice none 0 0])), (eqv (.agg #[.int .i64 1, .int .i64 0, .int .i64 1, .int .i64 1, .bool false, .string ⟨#[]⟩, .slice none 0 0])), (eqv (.agg #[.string ⟨#[110, 101, 118, 101, 114]⟩, .int .i64 900, .int .i64 3, .int .i64 0, .int .i64 0, .int .i64 0, .bool false, .string ⟨#[]⟩, .slice (some ⟨gR, 0, none⟩) 1 1, .int .i64 1, .int .i64 0, .int .i64 1, .int .i64 1, .bool false, .string ⟨#[]⟩, .slice none 0 0, .int .i64 1, .int .i64 0, .int .i64 1, .int .i64 1, .bool false, .string ⟨#[]⟩, .slice none 0 0, .int .i64 1, .int .i64 0, .int .i64 1, .int .i64 1, .bool false, .string ⟨#[]⟩, .slice none 0 0])), (newQ w8.heap.size 49 zero30)] (by kernel_rfl) (by kernel_rfl) ⟨?o0, ?o1, ?o2, ?o3, ?o4, ?o5, trivial⟩ ?last
 case o0 =>
  intro xv W hE _
  obtain ⟨i0, i1, i2, i3, i4, i5, i6⟩ := (HI8.out.ext ((Ext.drew w8).trans hE)).cells
  simp only [putD, List.foldl_nil, List.getD_cons_zero]
  refine OpGoal.plain ?_
  go_wp2_with fail
  exact ⟨rfl, Ext.refl _, rfl⟩
 case o1 =>
  intro xv W hE _
  simp only [putD, List.foldl_nil, List.getD_cons_zero, List.getD_cons_succ]
  refine OpGoal.plain ?_
  go_wp2_with fail
  refine (num_any 1 W).mono ?_
  rintro e w' ⟨rfl, hE9⟩
  go_wp2_with fail
  exact ⟨rfl, hE9, rfl⟩
 case o2 =>
  intro xv W hE _
  simp only [putD, List.foldl_nil, List.getD_cons_zero, List.getD_cons_succ]
  refine OpGoal.plain ?_
  go_wp2_with fail
  refine (num_any 1 W).mono ?_
  rintro e w' ⟨rfl, hE9⟩
  go_wp2_with fail
  exact ⟨rfl, hE9, rfl⟩
 case o3 =>
  intro xv W hE _
  simp only [putD, List.foldl_nil, List.getD_cons_zero, List.getD_cons_succ]
  refine OpGoal.plain ?_
  go_wp2_with fail
  refine (num_any 1 W).mono ?_
  rintro e w' ⟨rfl, hE9⟩
  go_wp2_with fail
  exact ⟨rfl, hE9, rfl⟩
 case o4 =>
  intro xv W hE hp
  have r0 : xv 0 = _ := hp.1
  have r1 : xv 1 = _ := hp.2.1
  have r2 : xv 2 = _ := hp.2.2.1
  have r3 : xv 3 = _ := hp.2.2.2.1
  clear hp
  simp only [putD, foldl_nil, foldl_cons, getD_cons_zero, getD_cons_succ, Act.put, setIfInBounds_toArray, set_cons_zero, set_cons_succ]
  refine OpGoal.plain ?_
  go_wp2_with fail
  exact ⟨rfl, Ext.refl _, rfl⟩
 case o5 =>
  intro xv W hE _
  simp only [putD, List.foldl_nil, List.getD_cons_zero, List.getD_cons_succ]
  refine OpGoal.plain ?_
  go_wp2_with fail
  exact ⟨rfl, Ext.alloc _ _, W.heap.size, rfl, hE.sz, Go.heap_alloc_new _ _⟩
 case last =>
  intro xv W hE hp
  have r0 : xv 0 = _ := hp.1
  have r1 : xv 1 = _ := hp.2.1
  have r2 : xv 2 = _ := hp.2.2.1
  have r3 : xv 3 = _ := hp.2.2.2.1
  have r4 : xv 4 = _ := hp.2.2.2.2.1
  obtain ⟨g5, r5, lo5, hz5⟩ := hp.2.2.2.2.2.1
  clear hp
  simp only [putD, List.foldl_nil, List.foldl_cons, List.getD_cons_zero, List.getD_cons_succ, Act.put, List.length_cons, List.length_nil, List.range_succ, List.range_zero, List.nil_append, List.cons_append, List.setIfInBounds_toArray, List.set_cons_zero, List.set_cons_succ]
  rw [r4, r5]
  have hEw := (Ext.drew w8).trans hE
  have hz : W.heap[g5]? = some (.cells zero30.toList.toArray 49 (0, 0)) := by simpa using hz5
  clear r0 r1 r2 r3 r4 r5 hz5
  go_upto_region 9 with (refine store_Rb g5 zero30.toList (uN gR) hz rfl rfl _ _ rfl rfl rfl ?_; intro w9 hN9 hg9)
  have hE89 : Ext w8 w9 := ext_fresh hEw hg9 lo5
  have HN9 := Lib.hid hN9
  have HE49 := Lib.hid (HE6.out.trans (HE68.out.trans hE89))
  have HE69 := Lib.hid (HE68.out.trans hE89)
  have HKN : Hid ((uN gR).kids w9 (fun b => b < w9.heap.size) 1) := Lib.hid (uN_kids (ExL.ext HR8.out hE89))
  have hs9 : g < w9.heap.size := by have := hE89.sz; omega
  clear hz hEw hN9 hg9 hE89 hE lo5 HI8 HR8
  have HUL : Hid (us.length = N) := HUS
  have hful : (us.map Rn.cells).flatten = ((us.map Rn.cells).flatten ++ (uN gR).cells).take (us.length * 30) := by
   rw [List.take_append_of_le_length (by rw [rns_len]; exact Nat.le_refl _), List.take_of_length_le (by rw [rns_len]; exact Nat.le_refl _)]
  have hful2 : ((us ++ [uN gR]).map Rn.cells).flatten = ((us.map Rn.cells).flatten ++ (uN gR).cells).take ((us ++ [uN gR]).length * 30) := by
   have hh : ((us ++ [uN gR]).map Rn.cells).flatten = (us.map Rn.cells).flatten ++ (uN gR).cells := by simp
   rw [← hh, List.take_of_length_le (by rw [rns_len]; exact Nat.le_refl _)]
  have hle2 : (us ++ [uN gR]).length ≤ us.length + 1 := by simp
  have hpos : 1 ≤ us.length := by rw [HUL.out]; omega
  have hsm : us.length ≤ 4 := by rw [HUL.out]; omega
  have HPOS := Lib.hid hpos
  have HSM := Lib.hid hsm
  have HXW := Lib.hid (fun (V : World) (h : RwS w9.heap.size (Lk_row (a, b, cc)) us.length ((us.map Rn.cells).flatten ++ (uN gR).cells) w9.drew V) => ((Ext.drew w9).trans (show Ext w9.drew V from h.1) : Ext w9 V))
  have HSZ := Lib.hid (fun (V : World) (h : RwS w9.heap.size (Lk_row (a, b, cc)) us.length ((us.map Rn.cells).flatten ++ (uN gR).cells) w9.drew V) => (show w9.heap.size ≤ V.heap.size from h.1.size))
  have HOK : Hid (∀ r ∈ la ++ [neverR], r.ok) := Lib.hid (fun r hr => by
   rcases List.mem_append.1 hr with hr | hr
   ·exact (HM.out.ok r hr).1
   ·rw [List.mem_singleton.1 hr]; exact (mk1_ok never_mk (by decide)).1)
  have LKN : Hid (∀ (V : World) (v : Value), Ext w9 V → OwnR V w9.heap.size v (us ++ [uN gR]) → Calls Tryz.prog 16 #[v, .agg #[.int .i64 x.kind, .string ⟨x.cls.toArray⟩, .string ⟨x.name.toArray⟩, .int .i64 x.weight, .int .i64 x.level, .bool x.stairs, .int .i64 x.scale, .int .i64 x.hour, .int .i64 x.reader]] V fun e w' => e = .returned (.tuple #[.agg #[.int .i64 a, .int .i64 b, .int .i64 cc], .string D, .int .i64 0]) ∧ Ext V w') := Lib.hid (fun V v hEV ho => by
   have hk : KidsR V (fun b => b < V.heap.size) (d + 1) (us ++ [uN gR]) := by
    intro y hy
    rcases List.mem_append.1 hy with hy | hy
    ·exact ((kids_below HB4.out.kidsB (HE49.out.trans hEV) (HE49.out.trans hEV).sz) y hy).deep (by omega)
    ·rw [List.mem_singleton.1 hy]
     exact ((HKN.out.keep fun b hb o => hEV.old (p := ⟨b, o, none⟩) hb).more fun b hb => Nat.lt_of_lt_of_le hb hEV.sz).deep (by omega)
   have h := (RowB.own ho hk (l := la ++ [neverR]) (by rw [List.map_append, HB4.out.m]; rfl)).look x (by rw [List.length_append, HN.out]; simp; omega) HOK.out
   unfold LookR Lk_row at h
   rw [HL2'.out, HD.out] at h
   exact h)
  have HFUL := Lib.hid hful
  have HFUL2 := Lib.hid hful2
  have HLE2 := Lib.hid hle2
  clear hpos hsm hful hful2 hle2
  apply wp_region_link (E := RwS w9.heap.size (Lk_row (a, b, cc)) us.length ((us.map Rn.cells).flatten ++ (uN gR).cells)) (RwS.refl w9.heap.size (Lk_row (a, b, cc)) us.length ((us.map Rn.cells).flatten ++ (uN gR).cells)) (@RwS.trans w9.heap.size (Lk_row (a, b, cc)) us.length ((us.map Rn.cells).flatten ++ (uN gR).cells)) (l := [_, _, _, _, _, _, _, _, _, _, _, _, _, _, _]) (t := [_]) [some 50, some 51, some 52, some 53, some 54, some 55, some 56, some 57, some 49, some 58, some 59, some 60, some 15, none, some 16, some 17] [[], [], [0, 1], [], [3], [2, 4], [], [5, 6], [7], [8], [8], [8], [], [9, 12], [10], [11]] [15, 15, 15, 15, 15, 15, 15, 15, 15, 15, 15, 15, 15, 15, 15] [(emptyK w9.heap.size (Lk_row (a, b, cc)) us.length ((us.map Rn.cells).flatten ++ (uN gR).cells)), eql _, (ownK w9.heap.size (Lk_row (a, b, cc)) us.length ((us.map Rn.cells).flatten ++ (uN gR).cells) us (Nat.le_succ _) HFUL.out), (eql (.agg #[.string ⟨#[110, 101, 118, 101, 114]⟩, .int .i64 900, .int .i64 3, .int .i64 0, .int .i64 0, .int .i64 0, .bool false, .string ⟨#[]⟩, .slice (some ⟨gR, 0, none⟩) 1 1, .int .i64 1, .int .i64 0, .int .i64 1, .int .i64 1, .bool false, .string ⟨#[]⟩, .slice none 0 0, .int .i64 1, .int .i64 0, .int .i64 1, .int .i64 1, .bool false, .string ⟨#[]⟩, .slice none 0 0, .int .i64 1, .int .i64 0, .int .i64 1, .int .i64 1, .bool false, .string ⟨#[]⟩, .slice none 0 0])), (oneK w9.heap.size (Lk_row (a, b, cc)) us.length ((us.map Rn.cells).flatten ++ (uN gR).cells) HPOS.out (uN gR)), (ownK w9.heap.size (Lk_row (a, b, cc)) us.length ((us.map Rn.cells).flatten ++ (uN gR).cells) (us ++ [uN gR]) HLE2.out HFUL2.out), (eql (.agg #[.int .i64 x.kind, .string ⟨x.cls.toArray⟩, .string ⟨x.name.toArray⟩, .int .i64 x.weight, .int .i64 x.level, .bool x.stairs, .int .i64 x.scale, .int .i64 x.hour, .int .i64 x.reader])), (eql (.tuple #[.agg #[.int .i64 a, .int .i64 b, .int .i64 cc], .string D, .int .i64 0])), eql _, eql _, eql _, eql _, (newK w9.heap.size (Lk_row (a, b, cc)) us.length ((us.map Rn.cells).flatten ++ (uN gR).cells)), (putK w9.heap.size (Lk_row (a, b, cc)) us.length ((us.map Rn.cells).flatten ++ (uN gR).cells) 12), eql _] (by kernel_rfl) (by kernel_rfl) (by kernel_rfl) ⟨?o0, ?o1, ?o2, ?o3, ?o4, ?o5, ?o6, ?o7, ?o8, ?o9, ?o10, ?o11, ?o12, ?o13, ?o14, trivial⟩ ?last
  case o0 =>
   intro xv V hE _
   simp only [putD, List.foldl_nil, List.getD_cons_zero]
   refine OpGoal.plain ?_
   go_wp2_with fail
   exact ⟨rfl, RwS.ext (Ext.alloc _ _) (HSZ.out V hE), V.heap.size, rfl⟩
  case o1 =>
   intro xv V hE _
   simp only [putD, List.foldl_nil, List.getD_cons_zero, List.getD_cons_succ]
   refine OpGoal.plain ?_
   go_wp2_with fail
   exact ⟨rfl, (RwS.refl w9.heap.size (Lk_row (a, b, cc)) us.length ((us.map Rn.cells).flatten ++ (uN gR).cells)) _, rfl⟩
  case o2 =>
   intro xv V hE hp
   obtain ⟨g0, r0⟩ := hp.1
   have r1 : xv 1 = _ := hp.2.1
   clear hp
   simp only [putD, foldl_nil, foldl_cons, getD_cons_zero, getD_cons_succ, Act.put, setIfInBounds_toArray, set_cons_zero, set_cons_succ]
   refine OpGoal.plain ?_
   have hat := (HB4.out.ext (HE49.out.trans (HXW.out V hE))).at_
   have hsz := HSZ.out V hE
   at_builtin
   refine app_G rfl 50 51 rfl g0 0 0 [] r0 (fun j t h => by simp at h) g 0 c us (by rw [HUL.out]; exact r1) (fun j t h => by rw [Nat.zero_add]; exact hat j t h) (by have := HPOS.out; simp; omega) (by have := HSM.out; simp; omega) ?_
   intro v' w' ho hE9
   go_wp2_with fail
   exact ⟨rfl, RwS.ext hE9 hsz, (ho.low hsz : OwnR w' w9.heap.size v' us)⟩
  case o3 =>
   intro xv V hE _
   obtain ⟨p0, p1, p2, p3, p4, p5, p6, p7, p8⟩ := (HV.out.ext (HE49.out.trans (HXW.out V hE))).cells
   simp only [putD, List.foldl_nil, List.getD_cons_zero, List.getD_cons_succ]
   refine OpGoal.plain ?_
   have hrr := (HN9.out.ext (HXW.out V hE)).range
   refine load_R rfl _ rfl g5 0 _ hrr rfl rfl ?_
   go_wp2_with fail
   exact ⟨rfl, (RwS.refl w9.heap.size (Lk_row (a, b, cc)) us.length ((us.map Rn.cells).flatten ++ (uN gR).cells)) _, rfl⟩
  case o4 =>
   intro xv V hE hp
   have r3 : xv 3 = _ := hp.1
   clear hp
   simp only [putD, foldl_nil, foldl_cons, getD_cons_zero, getD_cons_succ, Act.put, setIfInBounds_toArray, set_cons_zero, set_cons_succ]
   refine OpGoal.plain ?_
   go_wp2_with fail
   exact ⟨rfl, RwS.ext (Ext.alloc _ _) (HSZ.out V hE), V.heap.size, rfl, HSZ.out V hE, Go.heap_alloc_new _ _⟩
  case o5 =>
   intro xv V hE hp
   obtain h2 := hp.1
   obtain ⟨g4, r4, lo4, hz4⟩ := hp.2.1
   clear hp
   simp only [putD, foldl_nil, foldl_cons, getD_cons_zero, getD_cons_succ, Act.put, setIfInBounds_toArray, set_cons_zero, set_cons_succ]
   refine OpGoal.plain ?_
   have hsz := HSZ.out V hE
   at_builtin
   refine app_one rfl 52 54 rfl w9.heap.size (Lk_row (a, b, cc)) (xv 2) us HPOS.out rfl h2 hsz HSM.out g4 (uN gR) r4 hz4 ?_
   intro v' w' ho hR
   go_wp2_with fail
   exact ⟨rfl, hR, ho⟩
  case o6 =>
   intro xv V hE _
   obtain ⟨p0, p1, p2, p3, p4, p5, p6, p7, p8⟩ := (HV.out.ext (HE49.out.trans (HXW.out V hE))).cells
   simp only [putD, List.foldl_nil, List.getD_cons_zero, List.getD_cons_succ]
   refine OpGoal.plain ?_
   go_wp2_with fail
   exact ⟨rfl, (RwS.refl w9.heap.size (Lk_row (a, b, cc)) us.length ((us.map Rn.cells).flatten ++ (uN gR).cells)) _, rfl⟩
  case o7 =>
   intro xv V hE hp
   obtain h5 := hp.1
   have r6 : xv 6 = _ := hp.2.1
   clear hp
   simp only [putD, foldl_nil, foldl_cons, getD_cons_zero, getD_cons_succ, Act.put, setIfInBounds_toArray, set_cons_zero, set_cons_succ]
   refine OpGoal.plain ?_
   have hsz := HSZ.out V hE
   have LC := Lib.hid (LKN.out V (xv 5) (HXW.out V hE) h5)
   clear h5
   go_wp2_with fail
   refine LC.out.mono ?_
   rintro e w' ⟨rfl, hE9⟩
   go_wp2_with fail
   exact ⟨rfl, RwS.ext hE9 hsz, rfl⟩
  case o8 =>
   intro xv V hE hp
   have r7 : xv 7 = _ := hp.1
   clear hp
   simp only [putD, foldl_nil, foldl_cons, getD_cons_zero, getD_cons_succ, Act.put, setIfInBounds_toArray, set_cons_zero, set_cons_succ]
   refine OpGoal.plain ?_
   go_wp2_with fail
   exact ⟨rfl, (RwS.refl w9.heap.size (Lk_row (a, b, cc)) us.length ((us.map Rn.cells).flatten ++ (uN gR).cells)) _, rfl⟩
  case o9 =>
   intro xv V hE hp
   have r8 : xv 8 = _ := hp.1
   clear hp
   simp only [putD, foldl_nil, foldl_cons, getD_cons_zero, getD_cons_succ, Act.put, setIfInBounds_toArray, set_cons_zero, set_cons_succ]
   refine OpGoal.plain ?_
   go_wp2_with fail
   exact ⟨rfl, (RwS.refl w9.heap.size (Lk_row (a, b, cc)) us.length ((us.map Rn.cells).flatten ++ (uN gR).cells)) _, rfl⟩
  case o10 =>
   intro xv V hE hp
   have r8 : xv 8 = _ := hp.1
   clear hp
   simp only [putD, foldl_nil, foldl_cons, getD_cons_zero, getD_cons_succ, Act.put, setIfInBounds_toArray, set_cons_zero, set_cons_succ]
   refine OpGoal.plain ?_
   go_wp2_with fail
   exact ⟨rfl, (RwS.refl w9.heap.size (Lk_row (a, b, cc)) us.length ((us.map Rn.cells).flatten ++ (uN gR).cells)) _, rfl⟩
  case o11 =>
   intro xv V hE hp
   have r8 : xv 8 = _ := hp.1
   clear hp
   simp only [putD, foldl_nil, foldl_cons, getD_cons_zero, getD_cons_succ, Act.put, setIfInBounds_toArray, set_cons_zero, set_cons_succ]
   refine OpGoal.plain ?_
   go_wp2_with fail
   exact ⟨rfl, (RwS.refl w9.heap.size (Lk_row (a, b, cc)) us.length ((us.map Rn.cells).flatten ++ (uN gR).cells)) _, rfl⟩
  case o12 =>
   intro xv V hE _
   simp only [putD, List.foldl_nil, List.getD_cons_zero, List.getD_cons_succ]
   refine OpGoal.plain ?_
   go_wp2_with fail
   exact ⟨rfl, RwS.ext (Ext.alloc _ _) (HSZ.out V hE), V.heap.size, rfl, HSZ.out V hE, .inl (Go.heap_alloc_new _ _)⟩
  case o13 =>
   intro xv V hE hp
   have r9 : xv 9 = _ := hp.1
   obtain ⟨g12, r12, lo12, hz12⟩ := hp.2.1
   clear hp
   simp only [putD, foldl_nil, foldl_cons, getD_cons_zero, getD_cons_succ, Act.put, setIfInBounds_toArray, set_cons_zero, set_cons_succ]
   refine OpGoal.plain ?_
   obtain ⟨C, hC, hC3⟩ := getK hz12 (n := 3) rfl rfl
   refine store_T 39 g12 C [.int .i64 a, .int .i64 b, .int .i64 cc] hC hC3 infoLk (lk_one _ _ _) rfl _ _ rfl r12 r9 ?_
   intro w' hx' hg'
   go_wp2_with fail
   exact ⟨rfl, fun _ => ⟨RwS.put (HSZ.out V hE) lo12 hz12 hx' hg', g12, r12, lo12, hx'⟩⟩
  case o14 =>
   intro xv V hE hp
   have r10 : xv 10 = _ := hp.1
   clear hp
   simp only [putD, foldl_nil, foldl_cons, getD_cons_zero, getD_cons_succ, Act.put, setIfInBounds_toArray, set_cons_zero, set_cons_succ]
   refine OpGoal.plain ?_
   go_wp2_with fail
   exact ⟨rfl, (RwS.refl w9.heap.size (Lk_row (a, b, cc)) us.length ((us.map Rn.cells).flatten ++ (uN gR).cells)) _, rfl⟩
  case last =>
   intro xv V hE hp
   obtain ⟨g0, r0⟩ := hp.1
   have r1 : xv 1 = _ := hp.2.1
   obtain h2 := hp.2.2.1
   have r3 : xv 3 = _ := hp.2.2.2.1
   obtain ⟨g4, r4, lo4, hz4⟩ := hp.2.2.2.2.1
   obtain h5 := hp.2.2.2.2.2.1
   have r6 : xv 6 = _ := hp.2.2.2.2.2.2.1
   have r7 : xv 7 = _ := hp.2.2.2.2.2.2.2.1
   have r8 : xv 8 = _ := hp.2.2.2.2.2.2.2.2.1
   have r9 : xv 9 = _ := hp.2.2.2.2.2.2.2.2.2.1
   have r10 : xv 10 = _ := hp.2.2.2.2.2.2.2.2.2.2.1
   have r11 : xv 11 = _ := hp.2.2.2.2.2.2.2.2.2.2.2.1
   obtain ⟨g12, r12, lo12, hz12⟩ := hp.2.2.2.2.2.2.2.2.2.2.2.2.1
   obtain ⟨g13, r13, lo13, hz13⟩ := hp.2.2.2.2.2.2.2.2.2.2.2.2.2.1
   have r14 : xv 14 = _ := hp.2.2.2.2.2.2.2.2.2.2.2.2.2.2.1
   clear hp
   simp only [putD, List.foldl_nil, List.foldl_cons, List.getD_cons_zero, List.getD_cons_succ, Act.put, List.length_cons, List.length_nil, List.range_succ, List.range_zero, List.nil_append, List.cons_append, List.setIfInBounds_toArray, List.set_cons_zero, List.set_cons_succ]
   have hE9V := HXW.out V hE
   have HLB2 : Hid (LkB V g13 (a, b, cc)) := Lib.hid hz13
   have HE9V := Lib.hid hE9V
   have hgk2 : g < g13 := Nat.lt_of_lt_of_le hs9 lo13
   rw [r13]
   clear hE hE9V hz12 hz13 lo12 r12 h2 h5 hz4 lo4 r4
   have HEWV := Lib.hid (HE4.out.trans (HE49.out.trans HE9V.out))
   go_wp2_with fail
   refine (rMade_any A2 n2 c2 V (HL2.out.ext HEWV.out)).mono ?_
   rintro e w10 ⟨lq, vs, gf, cf, df, hMf, rfl, hBf, hE10⟩
   obtain ⟨f, lq', elq, _⟩ := hMf.head
   have hpf : 0 < lq.length := hMf.pos
   obtain ⟨uf, huf⟩ : ∃ q, vs[0]? = some q := ⟨_, List.getElem?_eq_getElem (by rw [hBf.len]; exact hpf)⟩
   have hlf0 : lq[0]? = some uf.r := by rw [← hBf.m, List.getElem?_map, huf]; rfl
   have HMF := Lib.hid (hMf.one uf.r (List.mem_of_getElem? hlf0))
   have HF0 := Lib.hid (hMf.yes uf.r hlf0).2
   have hrf := hBf.at_ 0 uf huf
   have hKF := hBf.k uf (List.mem_of_getElem? huf)
   obtain ⟨NF, hNF⟩ : ∃ q, lq.length = q := ⟨_, rfl⟩
   have hpf2 : (decide (0 < NF)) = true := by rw [← hNF]; simpa using hpf
   have hcf := hBf.cap
   rw [hNF] at hpf hcf ⊢
   have HKF := Lib.hid hKF
   have HE10 := Lib.hid hE10
   rw [Nat.zero_mul] at hrf
   clear hMf hBf hE10 elq huf hlf0 hNF hKF
   go_upto_region 11 with (first | (refine load_R rfl _ rfl gf 0 _ hrf rfl rfl ?_) | (refine store_R uf rfl _ _ rfl rfl rfl ?_))
   obtain ⟨w11, hw11⟩ : ∃ q, w10.alloc (.cells uf.cells.toArray 49) = q := ⟨_, rfl⟩
   obtain ⟨bf, hbf⟩ : ∃ q, w10.heap.size = q := ⟨_, rfl⟩
   have hRF := RnB.new w10 uf
   have hE11 := Ext.alloc w10 (.cells uf.cells.toArray 49)
   rw [hw11] at hRF hE11 ⊢
   rw [hbf] at hRF ⊢
   have hgbf : g < bf := by have h1 := HE10.out.sz; have h2 := HLB2.out.lt; omega
   have cf0 : w11.cell? ⟨bf, 0, none⟩ = some (.string ⟨uf.r.nm.toArray⟩) := hRF.range 0 _ rfl
   have ff0 := hRF.free 0
   obtain ⟨hRF2, hgF⟩ := rn_fur hRF
   have HRF2 := Lib.hid hRF2
   have HGF := Lib.hid hgF
   have HE911 := Lib.hid (HE9V.out.trans (HE10.out.trans hE11))
   have hbfs : w10.heap.size ≤ bf := Nat.le_of_eq hbf
   have HBFS := Lib.hid hbfs
   have HV11 := Lib.hid hE11
   clear hw11 hbf hRF hE11 hRF2 hgF hrf hbfs
   go_upto_region 12 with fail
   obtain ⟨w12, hw12⟩ : ∃ q, w11.setCell ⟨bf, 0, none⟩ (.string ⟨#[102, 117, 114, 116, 104, 101, 114]⟩) = q := ⟨_, rfl⟩
   rw [hw12] at HRF2 HGF ⊢
   clear hw12 cf0 ff0
   have hE1012 : Ext w10 w12 := ext_fresh HV11.out HGF.out HBFS.out
   have HE12 := Lib.hid (HE9V.out.trans (HE10.out.trans hE1012))
   have HX12 := Lib.hid (HE49.out.trans HE12.out)
   have hE1012' := Lib.hid hE1012
   have hgV : g < V.heap.size := by have := HLB2.out.lt; omega
   clear hE1012
   go_wp2_with fail
   go_loopw [19] (fun iv wr => ∃ (k : Nat) (vs' : List Rn) (l' : List Rl), k ≤ N ∧ iv = .int .i64 (k : Int) ∧ Hid (MdB wr w1.heap.size g c d vs' l') ∧ Hid (BumpK k la l') ∧ Hid (w12.grownBy wr (some g))) (fun iv _ => N - (intOf iv).toNat)
   case atStart => exact ⟨0, us, la, Nat.zero_le _, rfl, Lib.hid (HB4.out.ext (HE49.out.trans HE12.out)), Lib.hid (BumpK.start la), Lib.hid (grown_of (Ext.refl _) _)⟩
   case round =>
    obtain ⟨k, vs', l', hk, rfl, HBk, HK, HG⟩ := hrel
    obtain ⟨wz, hwz⟩ : ∃ q, q = wr := ⟨_, rfl⟩
    subst hwz
    by_cases hlt : k < N
    ·have t1 : decide (k < N) = true := by simpa using hlt
     have hkv : k < vs'.length := by rw [HBk.out.len, HK.out.1, HN.out]; exact hlt
     obtain ⟨u, hu⟩ : ∃ u, vs'[k]? = some u := ⟨_, List.getElem?_eq_getElem hkv⟩
     have hur : l'[k]? = some u.r := by rw [← HBk.out.m, List.getElem?_map, hu]; rfl
     have hkl : k < la.length := by rw [HN.out]; exact hlt
     have hsame : u.r = la[k] := by
      have h2 := HK.out.2 k la[k] (List.getElem?_eq_getElem hkl)
      rw [if_neg (Nat.lt_irrefl k)] at h2
      exact Option.some.inj (hur.symm.trans h2)
     have hpb : 0 ≤ u.r.pr ∧ u.r.pr ≤ 3 := by
      rw [hsame]
      exact ⟨(HM.out.one _ (List.getElem_mem hkl)).pr.1, HDP.out.2 _ (List.getElem_mem hkl)⟩
     obtain ⟨cp, fp⟩ := HBk.out.pr_cell hu
     obtain ⟨hB', hG'⟩ := HBk.out.setP hu (u.r.pr + 1)
     have HNK := Lib.hid (HK.out.next hur)
     have HNB := Lib.hid hB'
     have HNG := Lib.hid (grown_trans HG.out hG')
     clear hB' hG' hur hu hkv hk hsame hkl
     go_wp2_with fail
     go_roundw
     case rel => exact ⟨k + 1, vs'.set k (u.setP (u.r.pr + 1)), l'.set k (prSet u.r (u.r.pr + 1)), by omega, by go_num, HNB, HNK, HNG⟩
     case measure => simp [intOf]; omega
    ·have t1 : decide (k < N) = false := by simpa using hlt
     obtain rfl : k = N := by omega
     have hall : l' = la.map bump := BumpK.all (by rw [HN.out]; exact HK.out)
     have HBz : Hid (MdB wz w1.heap.size g c d vs' (la.map bump)) := Lib.hid (by rw [← hall]; exact HBk.out)
     have HVz : Hid (EvB wz bx x) := Lib.hid ((HV.out.ext (HE49.out.trans HE12.out)).own HG.out (by simp; omega))
     have HLz1 : Hid (LkB wz k1 (a, b, cc)) := Lib.hid ((HLB.out.ext (HE69.out.trans HE12.out)).own HG.out (by simp; omega))
     have HLz2 : Hid (LkB wz g13 (a, b, cc)) := Lib.hid ((HLB2.out.ext (HE10.out.trans hE1012'.out)).own HG.out (by simp; omega))
     have HFz : Hid (RnB wz bf uf.fur) := Lib.hid (HRF2.out.own HG.out (by simp; omega))
     have HKz : Hid (uf.fur.kids wz (fun b => b < wz.heap.size) df) := Lib.hid (by
      have hk0 := (HKF.out.keep (w' := wz) fun b hb o => (grown_cell HG.out (Nat.lt_of_lt_of_le hb.2.1 hE1012'.out.sz) (by have := hb.1; simp; omega) o).trans (hE1012'.out.old (p := ⟨b, o, none⟩) hb.2.1)).more (S' := fun b => b < wz.heap.size) fun b hb => Nat.lt_of_lt_of_le hb.2.1 (Nat.le_trans hE1012'.out.sz HG.out.size)
      exact ⟨hk0.k1, hk0.k2, hk0.k3, hk0.k4⟩)
     have HEz : Hid (Ext w wz) := Lib.hid (ext_fresh (HE4.out.trans (HE49.out.trans HE12.out)) HG.out HG0.out)
     have HVL : Hid (vs'.length = k) := Lib.hid (by rw [HBz.out.len, List.length_map, HN.out])
     obtain ⟨ug, hug⟩ : ∃ q, uf.fur = q := ⟨_, rfl⟩
     have hugr : ug.r = furR uf.r := by rw [← hug]; rfl
     rw [hug] at HFz HKz
     have HUGR := Lib.hid hugr
     have HXW := Lib.hid (fun (V' : World) (h : OnceS wz.heap.size 39 Lk_zero (Lk_row (a, b, cc)) wz.drew V') => ((Ext.drew wz).trans (show Ext wz.drew V' from h.1) : Ext wz V'))
     have HSZ := Lib.hid (fun (V' : World) (h : OnceS wz.heap.size 39 Lk_zero (Lk_row (a, b, cc)) wz.drew V') => (show wz.heap.size ≤ V'.heap.size from h.1.size))
     have LKF : Hid (∀ (V' : World) (v : Value), Ext wz V' → OwnR V' wz.heap.size v ([ug] ++ vs') → Calls Tryz.prog 16 #[v, .agg #[.int .i64 x.kind, .string ⟨x.cls.toArray⟩, .string ⟨x.name.toArray⟩, .int .i64 x.weight, .int .i64 x.level, .bool x.stairs, .int .i64 x.scale, .int .i64 x.hour, .int .i64 x.reader]] V' fun e w' => e = .returned (.tuple #[.agg #[.int .i64 a, .int .i64 b, .int .i64 cc], .string D, .int .i64 0]) ∧ Ext V' w') := Lib.hid (fun V' v hEV ho => by
      have hkk : KidsR V' (fun b => b < V'.heap.size) (d + df) ([ug] ++ vs') := by
       intro y hy
       rcases List.mem_append.1 hy with hy | hy
       ·rw [List.mem_singleton.1 hy]
        exact ((HKz.out.keep fun b hb o => hEV.old (p := ⟨b, o, none⟩) hb).more fun b hb => Nat.lt_of_lt_of_le hb hEV.sz).deep (by omega)
       ·exact ((kids_below HBz.out.kidsB hEV hEV.sz) y hy).deep (by omega)
      have hm : ([ug] ++ vs').map (·.r) = furR uf.r :: la.map bump := by rw [List.map_append, HBz.out.m]; show ug.r :: la.map bump = _; rw [HUGR.out]
      have h := (RowB.own ho hkk hm).look x (by rw [List.length_cons, List.length_map, HN.out]; omega) (fun r hr => by
       rcases List.mem_cons.1 hr with rfl | hr
       ·exact (mk1_ok (r := furR uf.r) ⟨HMF.out.pr, HMF.out.e1, HMF.out.e2, HMF.out.e3, HMF.out.e4⟩ (by show nmOk [102, 117, 114, 116, 104, 101, 114] = true; decide)).1
       ·obtain ⟨p, hp, rfl⟩ := List.mem_map.1 hr
        have hnp := HM.out.nm_in hp
        exact (mk1_ok (bump_mk (HM.out.one p hp) (HDP.out.2 p hp)) (nms_ok p.nm hnp)).1)
      unfold LookR Lk_row at h
      rw [HL3'.out uf.r HMF.out HF0.out, HD.out] at h
      exact h)
     clear hall hug hugr hk hlt HBk HK HG
     go_upto_region 16 with fail
     apply wp_region_link (E := OnceS wz.heap.size 39 Lk_zero (Lk_row (a, b, cc))) (OnceS.refl wz.heap.size 39 Lk_zero (Lk_row (a, b, cc))) (@OnceS.trans wz.heap.size 39 Lk_zero (Lk_row (a, b, cc))) (l := [_, _, _, _, _, _, _, _, _, _, _, _, _]) (t := [_]) [some 81, some 82, some 83, some 84, some 85, some 86, some 80, some 87, some 88, some 89, some 20, none, some 21, some 22] [[], [0], [], [1, 2], [], [3, 4], [5], [6], [6], [6], [], [7, 10], [8], [9]] [13, 13, 13, 13, 13, 13, 13, 13, 13, 13, 13, 13, 13] [(eql (.agg #[.string ⟨ug.r.nm.toArray⟩, .int .i64 ug.r.pr, .int .i64 ug.r.e1.op, .int .i64 ug.r.e1.var, .int .i64 ug.r.e1.ty, .int .i64 ug.r.e1.n, .bool ug.r.e1.b, .string ⟨ug.r.e1.s.toArray⟩, .slice ug.A1 ug.r.e1.l.length ug.c1, .int .i64 ug.r.e2.op, .int .i64 ug.r.e2.var, .int .i64 ug.r.e2.ty, .int .i64 ug.r.e2.n, .bool ug.r.e2.b, .string ⟨ug.r.e2.s.toArray⟩, .slice ug.A2 ug.r.e2.l.length ug.c2, .int .i64 ug.r.e3.op, .int .i64 ug.r.e3.var, .int .i64 ug.r.e3.ty, .int .i64 ug.r.e3.n, .bool ug.r.e3.b, .string ⟨ug.r.e3.s.toArray⟩, .slice ug.A3 ug.r.e3.l.length ug.c3, .int .i64 ug.r.e4.op, .int .i64 ug.r.e4.var, .int .i64 ug.r.e4.ty, .int .i64 ug.r.e4.n, .bool ug.r.e4.b, .string ⟨ug.r.e4.s.toArray⟩, .slice ug.A4 ug.r.e4.l.length ug.c4])), (oneL wz.heap.size (Lk_row (a, b, cc)) ug), eql _, (ownL wz.heap.size (Lk_row (a, b, cc)) ([ug] ++ vs')), (eql (.agg #[.int .i64 x.kind, .string ⟨x.cls.toArray⟩, .string ⟨x.name.toArray⟩, .int .i64 x.weight, .int .i64 x.level, .bool x.stairs, .int .i64 x.scale, .int .i64 x.hour, .int .i64 x.reader])), (eql (.tuple #[.agg #[.int .i64 a, .int .i64 b, .int .i64 cc], .string D, .int .i64 0])), eql _, eql _, eql _, eql _, (newL wz.heap.size 39 Lk_zero (Lk_row (a, b, cc))), (putL wz.heap.size 39 Lk_zero (Lk_row (a, b, cc)) 10), eql _] (by kernel_rfl) (by kernel_rfl) (by kernel_rfl) ⟨?o0, ?o1, ?o2, ?o3, ?o4, ?o5, ?o6, ?o7, ?o8, ?o9, ?o10, ?o11, ?o12, trivial⟩ ?last
     case o0 =>
      intro xv V2 hE _
      obtain ⟨p0, p1, p2, p3, p4, p5, p6, p7, p8⟩ := (HVz.out.ext (HXW.out V2 hE)).cells
      simp only [putD, List.foldl_nil, List.getD_cons_zero]
      refine OpGoal.plain ?_
      have hrr := (HFz.out.ext (HXW.out V2 hE)).range
      unfold Rn.cells at hrr
      refine load_R rfl _ rfl bf 0 _ hrr rfl rfl ?_
      go_wp2_with fail
      exact ⟨rfl, (OnceS.refl wz.heap.size 39 Lk_zero (Lk_row (a, b, cc))) _, rfl⟩
     case o1 =>
      intro xv V2 hE hp
      have r0 : xv 0 = _ := hp.1
      clear hp
      simp only [putD, foldl_nil, foldl_cons, getD_cons_zero, getD_cons_succ, Act.put, setIfInBounds_toArray, set_cons_zero, set_cons_succ]
      refine OpGoal.plain ?_
      go_wp2_with fail
      exact ⟨rfl, OnceS.ext (Ext.alloc _ _) (HSZ.out V2 hE), V2.heap.size, rfl, HSZ.out V2 hE, Go.heap_alloc_new _ _⟩
     case o2 =>
      intro xv V2 hE _
      simp only [putD, List.foldl_nil, List.getD_cons_zero, List.getD_cons_succ]
      refine OpGoal.plain ?_
      go_wp2_with fail
      exact ⟨rfl, (OnceS.refl wz.heap.size 39 Lk_zero (Lk_row (a, b, cc))) _, rfl⟩
     case o3 =>
      intro xv V2 hE hp
      obtain ⟨gq, r1, lo1, hz1⟩ := hp.1
      have r2 : xv 2 = _ := hp.2.1
      clear hp
      simp only [putD, foldl_nil, foldl_cons, getD_cons_zero, getD_cons_succ, Act.put, setIfInBounds_toArray, set_cons_zero, set_cons_succ]
      refine OpGoal.plain ?_
      have hat := (HBz.out.ext (HXW.out V2 hE)).at_
      have hsz := HSZ.out V2 hE
      at_builtin
      refine app_G rfl 82 83 rfl gq 0 1 [ug] r1 (one_row hz1) g 0 c vs' (by rw [HVL.out]; exact r2) (fun j t h => by rw [Nat.zero_add]; exact hat j t h) (by have := HVL.out; simp; omega) (by have := HVL.out; simp; omega) ?_
      intro v' w' ho hE9
      go_wp2_with fail
      exact ⟨rfl, OnceS.ext hE9 hsz, (ho.low hsz : OwnR w' wz.heap.size v' ([ug] ++ vs'))⟩
     case o4 =>
      intro xv V2 hE _
      obtain ⟨p0, p1, p2, p3, p4, p5, p6, p7, p8⟩ := (HVz.out.ext (HXW.out V2 hE)).cells
      simp only [putD, List.foldl_nil, List.getD_cons_zero, List.getD_cons_succ]
      refine OpGoal.plain ?_
      go_wp2_with fail
      exact ⟨rfl, (OnceS.refl wz.heap.size 39 Lk_zero (Lk_row (a, b, cc))) _, rfl⟩
     case o5 =>
      intro xv V2 hE hp
      obtain h3 := hp.1
      have r4 : xv 4 = _ := hp.2.1
      clear hp
      simp only [putD, foldl_nil, foldl_cons, getD_cons_zero, getD_cons_succ, Act.put, setIfInBounds_toArray, set_cons_zero, set_cons_succ]
      refine OpGoal.plain ?_
      have hsz := HSZ.out V2 hE
      have LC := Lib.hid (LKF.out V2 (xv 3) (HXW.out V2 hE) h3)
      clear h3
      go_wp2_with fail
      refine LC.out.mono ?_
      rintro e w' ⟨rfl, hE9⟩
      go_wp2_with fail
      exact ⟨rfl, OnceS.ext hE9 hsz, rfl⟩
     case o6 =>
      intro xv V2 hE hp
      have r5 : xv 5 = _ := hp.1
      clear hp
      simp only [putD, foldl_nil, foldl_cons, getD_cons_zero, getD_cons_succ, Act.put, setIfInBounds_toArray, set_cons_zero, set_cons_succ]
      refine OpGoal.plain ?_
      go_wp2_with fail
      exact ⟨rfl, (OnceS.refl wz.heap.size 39 Lk_zero (Lk_row (a, b, cc))) _, rfl⟩
     case o7 =>
      intro xv V2 hE hp
      have r6 : xv 6 = _ := hp.1
      clear hp
      simp only [putD, foldl_nil, foldl_cons, getD_cons_zero, getD_cons_succ, Act.put, setIfInBounds_toArray, set_cons_zero, set_cons_succ]
      refine OpGoal.plain ?_
      go_wp2_with fail
      exact ⟨rfl, (OnceS.refl wz.heap.size 39 Lk_zero (Lk_row (a, b, cc))) _, rfl⟩
     case o8 =>
      intro xv V2 hE hp
      have r6 : xv 6 = _ := hp.1
      clear hp
      simp only [putD, foldl_nil, foldl_cons, getD_cons_zero, getD_cons_succ, Act.put, setIfInBounds_toArray, set_cons_zero, set_cons_succ]
      refine OpGoal.plain ?_
      go_wp2_with fail
      exact ⟨rfl, (OnceS.refl wz.heap.size 39 Lk_zero (Lk_row (a, b, cc))) _, rfl⟩
     case o9 =>
      intro xv V2 hE hp
      have r6 : xv 6 = _ := hp.1
      clear hp
      simp only [putD, foldl_nil, foldl_cons, getD_cons_zero, getD_cons_succ, Act.put, setIfInBounds_toArray, set_cons_zero, set_cons_succ]
      refine OpGoal.plain ?_
      go_wp2_with fail
      exact ⟨rfl, (OnceS.refl wz.heap.size 39 Lk_zero (Lk_row (a, b, cc))) _, rfl⟩
     case o10 =>
      intro xv V2 hE _
      simp only [putD, List.foldl_nil, List.getD_cons_zero, List.getD_cons_succ]
      refine OpGoal.plain ?_
      go_wp2_with fail
      exact ⟨rfl, OnceS.ext (Ext.alloc _ _) (HSZ.out V2 hE), V2.heap.size, rfl, HSZ.out V2 hE, .inl (Go.heap_alloc_new _ _)⟩
     case o11 =>
      intro xv V2 hE hp
      have r7 : xv 7 = _ := hp.1
      obtain ⟨g10, r10, lo10, hz10⟩ := hp.2.1
      clear hp
      simp only [putD, foldl_nil, foldl_cons, getD_cons_zero, getD_cons_succ, Act.put, setIfInBounds_toArray, set_cons_zero, set_cons_succ]
      refine OpGoal.plain ?_
      obtain ⟨C, hC, hC3⟩ := getK hz10 (n := 3) rfl rfl
      refine store_T 39 g10 C [.int .i64 a, .int .i64 b, .int .i64 cc] hC hC3 infoLk (lk_one _ _ _) rfl _ _ rfl r10 r7 ?_
      intro w' hx' hg'
      go_wp2_with fail
      exact ⟨rfl, fun _ => ⟨OnceS.put (HSZ.out V2 hE) lo10 hz10 hx' hg', g10, r10, lo10, hx'⟩⟩
     case o12 =>
      intro xv V2 hE hp
      have r8 : xv 8 = _ := hp.1
      clear hp
      simp only [putD, foldl_nil, foldl_cons, getD_cons_zero, getD_cons_succ, Act.put, setIfInBounds_toArray, set_cons_zero, set_cons_succ]
      refine OpGoal.plain ?_
      go_wp2_with fail
      exact ⟨rfl, (OnceS.refl wz.heap.size 39 Lk_zero (Lk_row (a, b, cc))) _, rfl⟩
     case last =>
      intro xv V2 hE hp
      have r0 : xv 0 = _ := hp.1
      obtain ⟨gq, r1, lo1, hz1⟩ := hp.2.1
      have r2 : xv 2 = _ := hp.2.2.1
      obtain h3 := hp.2.2.2.1
      have r4 : xv 4 = _ := hp.2.2.2.2.1
      have r5 : xv 5 = _ := hp.2.2.2.2.2.1
      have r6 : xv 6 = _ := hp.2.2.2.2.2.2.1
      have r7 : xv 7 = _ := hp.2.2.2.2.2.2.2.1
      have r8 : xv 8 = _ := hp.2.2.2.2.2.2.2.2.1
      have r9 : xv 9 = _ := hp.2.2.2.2.2.2.2.2.2.1
      obtain ⟨g10, r10, lo10, hz10⟩ := hp.2.2.2.2.2.2.2.2.2.2.1
      obtain ⟨g11, r11, lo11, hz11⟩ := hp.2.2.2.2.2.2.2.2.2.2.2.1
      have r12 : xv 12 = _ := hp.2.2.2.2.2.2.2.2.2.2.2.2.1
      clear hp
      simp only [putD, List.foldl_nil, List.foldl_cons, List.getD_cons_zero, List.getD_cons_succ, Act.put, List.length_cons, List.length_nil, List.range_succ, List.range_zero, List.nil_append, List.cons_append, List.setIfInBounds_toArray, List.set_cons_zero, List.set_cons_succ]
      have hEz := HXW.out V2 hE
      have HEF := Lib.hid (HEz.out.trans hEz)
      have hlk3 : LkB V2 g11 (a, b, cc) := hz11
      obtain ⟨x0, x1, x2⟩ := (HLz1.out.ext hEz).cells
      obtain ⟨y0, y1, y2⟩ := (HLz2.out.ext hEz).cells
      obtain ⟨z0, z1, z2⟩ := hlk3.cells
      rw [r11]
      clear hE hEz hz10 hz11 hlk3 r10 h3 hz1
      go_wp2_with fail
      go_ret
      exact ⟨rfl, HEF.out⟩
end Go.Proofs.YtmiencglfhpmeaaGreatDoor
