/- The examples that each law of style asks first: the contract of sanity. -/
import Derived.Test.YtmiencglfhpmeaaGreatDoorMQTd
import Derived.Test.YtmiencglfhpmeaaGreatDoorMQSt
set_option linter.unusedSimpArgs false
set_option linter.unusedVariables false
namespace Go.Proofs.YtmiencglfhpmeaaGreatDoor
open List (foldl_nil foldl_cons getD_cons_zero getD_cons_succ setIfInBounds_toArray set_cons_zero set_cons_succ)
open Go.RowKit Hach
theorem ex_ok0 {e : Ex} (h : chkE e = 0) : e.ok ∧ e.size < 4294967296 := by
 obtain ⟨h1, h2⟩ := chk_rt h
 exact ⟨rt_ok h1, by omega⟩
theorem rl_ok0 {r : Rl} (hn : r.nm.length < 4294967296) (hp : InI r.pr) (h1 : chkE r.e1 = 0) (h2 : chkE r.e2 = 0) (h3 : chkE r.e3 = 0) (h4 : chkE r.e4 = 0) : r.ok ∧ r.small := by
 obtain ⟨a1, b1⟩ := ex_ok0 h1
 obtain ⟨a2, b2⟩ := ex_ok0 h2
 obtain ⟨a3, b3⟩ := ex_ok0 h3
 obtain ⟨a4, b4⟩ := ex_ok0 h4
 exact ⟨⟨hn, hp, ⟨a1, by omega⟩, ⟨a2, by omega⟩, ⟨a3, by omega⟩, ⟨a4, by omega⟩⟩, ⟨b1, b2, b3, b4⟩⟩
theorem roA : exA.ok ∧ exA.small := rl_ok0 (by decide) (by unfold InI; decide) (by decide) (by decide) (by decide) (by decide)
theorem roB : exB.ok ∧ exB.small := rl_ok0 (by decide) (by unfold InI; decide) (by decide) (by decide) (by decide) (by decide)
theorem roP : exP.ok ∧ exP.small := rl_ok0 (by decide) (by unfold InI; decide) (by decide) (by decide) (by decide) (by decide)
theorem roT : exT.ok ∧ exT.small := rl_ok0 (by decide) (by unfold InI; decide) (by decide) (by decide) (by decide) (by decide)
theorem all2 {P : Rl → Prop} {a b : Rl} (ha : P a) (hb : P b) : ∀ r ∈ [a, b], P r := by
 intro r hr
 simp only [List.mem_cons, List.not_mem_nil, or_false] at hr
 rcases hr with rfl | rfl
 ·exact ha
 ·exact hb
def twoSP (a b : Rl) : SP := ⟨fun v W => ∃ g u t d, v = .slice (some ⟨g, 0, none⟩) 2 2 ∧ Hid (u.r = a) ∧ Hid (t.r = b) ∧ TwoB W g u t d, fun h hE => by
 obtain ⟨g, u, t, d, e, h1, h2, h3⟩ := h
 exact ⟨g, u, t, d, e, h1, h2, h3.ext hE⟩⟩
def oneSP (u : Rn) : SP := ⟨fun v W => ∃ g, v = .slice (some ⟨g, 0, none⟩) 1 1 ∧ g < W.heap.size ∧ W.rangeAt g 0 u.cells, fun h hE => by
 obtain ⟨g, e, h0, h1⟩ := h
 exact ⟨g, e, Nat.lt_of_lt_of_le h0 hE.sz, range_ext h1 h0 hE⟩⟩
def rlSP (l : List Rl) : SP := ⟨fun v W => ∃ A c d, v = .slice A l.length c ∧ l.length ≤ c ∧ c < 9223372036854775808 ∧ RlB W W.heap.size d A l, fun h hE => by
 obtain ⟨A, c, d, e, h1, h2, h3⟩ := h
 exact ⟨A, c, d, e, h1, h2, RlL.ext h3 hE⟩⟩
theorem one_at {W : World} {g : Nat} {u : Rn} (h : W.rangeAt g 0 u.cells) : ∀ (j : Nat) (t : Rn), [u][j]? = some t → W.rangeAt g (0 + j * 30) t.cells := fun j t ht => by
 match j, ht with
 | 0, ht => simp only [List.getElem?_cons_zero, Option.some.injEq] at ht; subst ht; exact h
 | j + 1, ht => simp at ht
theorem three_rl {W w' : World} {g d d1 : Nat} {u v x : Rn} {v' : Value} {a b c : Rl} (hE : Ext W w') (ho : OwnR w' W.heap.size v' ([u, v] ++ [x])) (h : TwoB W g u v d) (hx : x.kidsB W W.heap.size d1) (hu : u.r = a) (hv : v.r = b) (hc : x.r = c) : ∃ A c' d', v' = .slice A [a, b, c].length c' ∧ [a, b, c].length ≤ c' ∧ c' < 9223372036854775808 ∧ RlB w' w'.heap.size d' A [a, b, c] := by
 subst hu; subst hv; subst hc
 obtain ⟨A, c', e, _⟩ := ho.form
 have hcap : OwnR w' W.heap.size (.slice A 3 c') ([u, v] ++ [x]) := by rw [← show v' = .slice A 3 c' from e]; exact ho
 refine ⟨A, c', d + d1, e, hcap.cap.1, hcap.cap.2, ?_⟩
 refine (OwnR.list hcap (d := d + d1) (S := fun b => b < w'.heap.size) (fun t ht => ?_) (fun b _ h2 => h2)).1
 simp only [List.cons_append, List.nil_append, List.mem_cons, List.not_mem_nil, or_false] at ht
 rcases ht with rfl | rfl | rfl
 ·exact ((h.ext hE).k1.more fun b hb => hb.1).deep (Nat.le_add_right _ _)
 ·exact ((h.ext hE).k2.more fun b hb => hb.1).deep (Nat.le_add_right _ _)
 ·exact (Rn.kids.ext hx hE).deep (Nat.le_add_left _ _)
set_option maxRecDepth 100000 in
set_option maxHeartbeats 4000000 in
theorem sanity_any (w : World) (hT : Wr.Tabs w) : Calls Tryz.prog 10 #[] w fun e w' => e = .returned (.bool true) ∧ Ext w w' := by
 have HT := Lib.hid hT
 clear hT
 go_enter Tryz.func10, Tryz.ntmps10
 go_wp2_with fail
 refine (example_any w).mono ?_
 rintro e w1 hTw
 obtain ⟨g1, u1, v1, d1, rfl, hu1, hv1, hB1, hg1, hE1⟩ := TwoB.of hTw
 have HB1 := Lib.hid hB1
 have HE1 := Lib.hid hE1
 clear hTw hB1 hE1
 go_wp2_with fail
 refine (looks_any [exA, exB] (some ⟨g1, 0, none⟩) 2 d1 w1 20 5 2 0 0 [97] (HB1.out.rlb hu1 hv1) (by decide) (by decide) (by decide) (all2 roA.1 roB.1) f1).mono ?_
 rintro e w2 ⟨rfl, hE2⟩
 have HB2 := Lib.hid (HB1.out.ext hE2)
 have HE2 := Lib.hid (HE1.out.trans hE2)
 clear hE2
 go_wp2_with fail
 refine (looks_any [exA, exB] (some ⟨g1, 0, none⟩) 2 d1 w2 3 255 0 8 0 [98] (HB2.out.rlb hu1 hv1) (by decide) (by decide) (by decide) (all2 roA.1 roB.1) f2).mono ?_
 rintro e w3 ⟨rfl, hE3⟩
 have HB3 := Lib.hid (HB2.out.ext hE3)
 have HE3 := Lib.hid (HE2.out.trans hE3)
 clear hE3
 go_wp2_with fail
 refine (looks_any [] none 0 0 w3 3 0 0 0 0 [] (RlL.nil _ _ _ _) (by decide) (by decide) (by decide) (fun r hr => by cases hr) f3).mono ?_
 rintro e w4 ⟨rfl, hE4⟩
 have HB4 := Lib.hid (HB3.out.ext hE4)
 have HE4 := Lib.hid (HE3.out.trans hE4)
 clear hE4 HB1 HB2 HB3 HE1 HE2 HE3
 go_wp2_with fail
 refine (example_any w4).mono ?_
 rintro e w5 hTw
 obtain ⟨g3, u3, v3, d3, rfl, hu3, hv3, hB5, hg3, hE5⟩ := TwoB.of hTw
 have HC5 := Lib.hid hB5
 have HE45 := Lib.hid hE5
 have c31 : w5.cell? ⟨g3, 31, none⟩ = some (.int .i64 v3.r.pr) := hB5.rng.2 1 _ rfl
 have f31 := hB5.free 31
 clear hTw hB5 hE5
 go_upto_region 5 with fail
 have hsp := HC5.out.setP 1
 obtain ⟨w6, hw6⟩ : ∃ q, w5.setCell ⟨g3, 31, none⟩ (.int .i64 1) = q := ⟨_, rfl⟩
 rw [hw6] at hsp
 rw [hw6]
 have hE46 := ext_fresh HE45.out hsp.2 hg3
 have hv3' : (v3.setP 1).r = exP := by unfold Rn.setP exP; rw [hv3]
 have HC6 := Lib.hid hsp.1
 have HB6 := Lib.hid (HB4.out.ext hE46)
 have HE6 := Lib.hid (HE4.out.trans hE46)
 clear hsp hw6 hE46 c31 f31 HC5 HE45 HB4 HE4
 go_wp2_with fail
 refine (looks_any [exA, exP] (some ⟨g3, 0, none⟩) 2 d3 w6 3 0 0 0 31 [97, 47, 98] (HC6.out.rlb hu3 hv3') (by decide) (by decide) (by decide) (all2 roA.1 roP.1) f4).mono ?_
 rintro e w7 ⟨rfl, hE7⟩
 have HC7 := Lib.hid (HC6.out.ext hE7)
 have HB7 := Lib.hid (HB6.out.ext hE7)
 have HE7 := Lib.hid (HE6.out.trans hE7)
 clear hE7 HB6 HC6 HE6
 go_wp2_with fail
 refine (looks_any [exA, exP] (some ⟨g3, 0, none⟩) 2 d3 w7 20 5 2 0 0 [97] (HC7.out.rlb hu3 hv3') (by decide) (by decide) (by decide) (all2 roA.1 roP.1) f5).mono ?_
 rintro e w8 ⟨rfl, hE8⟩
 have HB8 := Lib.hid (HB7.out.ext hE8)
 have HE8 := Lib.hid (HE7.out.trans hE8)
 clear hE8 HB7 HC7 HE7
 go_wp2_with fail
 refine (example_any w8).mono ?_
 rintro e w9 hTw
 obtain ⟨g5, u5, v5, d5, rfl, hu5, hv5, hB9, hg5, hE9⟩ := TwoB.of hTw
 have HD9 := Lib.hid hB9
 have HE89 := Lib.hid hE9
 clear hTw hB9 hE9
 go_wp2_with fail
 refine (yes_any w9).mono ?_
 rintro e w10 ⟨rfl, hE10⟩
 have HD10 := Lib.hid (HD9.out.ext hE10)
 have HE810 := Lib.hid (HE89.out.trans hE10)
 have hk22 := fun (ops : Array Oper) => @store_22 ops
 clear hE10 HD9 HE89 hk22
 go_upto_region 8 with (refine store_22 g5 d5 u5 v5 yesE HD10.out rfl rfl _ _ rfl rfl rfl ?_; intro w11 hD11 hG11)
 have hE811 := ext_fresh HE810.out hG11 hg5
 have HB11 := Lib.hid (HB8.out.ext hE811)
 have HE11 := Lib.hid (HE8.out.trans hE811)
 have HD11 := Lib.hid hD11
 have HU1 := Lib.hid hu1
 have HV1 := Lib.hid hv1
 have HU5 := Lib.hid hu5
 have hv5' : (v5.set2 yesE none 0).r = exT := by unfold Rn.set2 exT; rw [hv5]
 obtain ⟨vt, hvt⟩ : ∃ q, v5.set2 yesE none 0 = q := ⟨_, rfl⟩
 rw [hvt] at HD11 hv5'
 have HV5 := Lib.hid hv5'
 clear hu1 hv1 hu5 hv5' hv5 hu3 hv3
 dsimp only [Act.put]
 generalize (Value.agg (yesE.cells none 0).toArray) = z0
 clear hE811 hD11 hG11 hvt HD10 HE810 HB8 HE8
 apply wp_region_seq (l := [_, _, _, _, _, _, _, _, _, _, _, _, _, _, _, _, _, _, _, _, _, _, _, _, _, _, _, _, _, _, _, _, _, _, _, _, _]) (t := [_]) [some 42, some 43, some 44, some 45, some 46, some 47, some 48, some 49, some 50, some 51, some 52, some 53, some 54, some 55, some 56, some 57, some 58, some 59, some 60, some 61, some 62, some 63, some 64, some 65, some 66, some 67, some 68, some 69, some 70, some 71, some 72, some 73, some 74, some 75, some 76, some 77, some 78, some 6] [[], [0], [1], [2], [3], [3], [3, 5], [3, 6], [3, 7], [3, 4, 8], [3, 9], [3, 10], [3, 11], [12], [13], [13, 14], [13, 15], [13, 16], [17], [18], [18, 19], [18, 20], [18], [18, 22], [18, 23], [18, 21, 24], [18, 25], [26], [27], [27, 28], [27, 29], [27], [27, 31], [27, 32], [27, 30, 33], [27, 34], [27, 35], [36]] [37, 37, 37, 37, 37, 37, 37, 37, 37, 37, 37, 37, 37, 37, 37, 37, 37, 37, 37, 37, 37, 37, 37, 37, 37, 37, 37, 37, 37, 37, 37, 37, 37, 37, 37, 37, 37] [eqv _, (eqv (.int .i64 0)), eqv _, eqv _, (twoSP exA exB), eqv _, eqv _, (eqv (.agg #[.string ⟨u1.r.nm.toArray⟩, .int .i64 u1.r.pr, .int .i64 u1.r.e1.op, .int .i64 u1.r.e1.var, .int .i64 u1.r.e1.ty, .int .i64 u1.r.e1.n, .bool u1.r.e1.b, .string ⟨u1.r.e1.s.toArray⟩, .slice u1.A1 u1.r.e1.l.length u1.c1, .int .i64 u1.r.e2.op, .int .i64 u1.r.e2.var, .int .i64 u1.r.e2.ty, .int .i64 u1.r.e2.n, .bool u1.r.e2.b, .string ⟨u1.r.e2.s.toArray⟩, .slice u1.A2 u1.r.e2.l.length u1.c2, .int .i64 u1.r.e3.op, .int .i64 u1.r.e3.var, .int .i64 u1.r.e3.ty, .int .i64 u1.r.e3.n, .bool u1.r.e3.b, .string ⟨u1.r.e3.s.toArray⟩, .slice u1.A3 u1.r.e3.l.length u1.c3, .int .i64 u1.r.e4.op, .int .i64 u1.r.e4.var, .int .i64 u1.r.e4.ty, .int .i64 u1.r.e4.n, .bool u1.r.e4.b, .string ⟨u1.r.e4.s.toArray⟩, .slice u1.A4 u1.r.e4.l.length u1.c4])), (oneSP u1), (rlSP [exA, exB, exA]), (eqv (.int .i64 6)), eqv _, eqv _, eqv _, eqv _, (eqv (.int .i64 30)), eqv _, eqv _, eqv _, eqv _, eqv _, (eqv (.agg u1.cells.toArray)), eqv _, eqv _, (eqv (.agg u1.cells.toArray)), (eqv (.bool true)), eqv _, eqv _, eqv _, eqv _, (eqv (.agg u1.cells.toArray)), eqv _, eqv _, (eqv (.agg v1.cells.toArray)), (eqv (.bool false)), eqv _, eqv _] (by kernel_rfl) (by kernel_rfl) ⟨?o0, ?o1, ?o2, ?o3, ?o4, ?o5, ?o6, ?o7, ?o8, ?o9, ?o10, ?o11, ?o12, ?o13, ?o14, ?o15, ?o16, ?o17, ?o18, ?o19, ?o20, ?o21, ?o22, ?o23, ?o24, ?o25, ?o26, ?o27, ?o28, ?o29, ?o30, ?o31, ?o32, ?o33, ?o34, ?o35, ?o36, trivial⟩ ?last
 case o0 =>
  intro xv W hE _
  simp only [putD, List.foldl_nil, List.getD_cons_zero]
  refine OpGoal.plain ?_
  go_wp2_with fail
  exact ⟨rfl, Ext.refl _, rfl⟩
 case o1 =>
  intro xv W hE hp
  have r0 : xv 0 = _ := hp.1
  clear hp
  simp only [putD, foldl_nil, foldl_cons, getD_cons_zero, getD_cons_succ, Act.put, setIfInBounds_toArray, set_cons_zero, set_cons_succ]
  refine OpGoal.plain ?_
  go_wp2_with fail
  refine (CheckL_any [exA, exB] (some ⟨g1, 0, none⟩) 2 d1 W ((HB11.out.ext ((Ext.drew w11).trans hE)).rlb HU1.out HV1.out) (by decide) (by decide) (by decide) (all2 roA.1 roB.1)).mono ?_
  rintro e w' ⟨rfl, hE9⟩
  rw [f6]
  go_wp2_with fail
  exact ⟨rfl, hE9, rfl⟩
 case o2 =>
  intro xv W hE hp
  have r1 : xv 1 = _ := hp.1
  clear hp
  simp only [putD, foldl_nil, foldl_cons, getD_cons_zero, getD_cons_succ, Act.put, setIfInBounds_toArray, set_cons_zero, set_cons_succ]
  refine OpGoal.plain ?_
  go_wp2_with fail
  exact ⟨rfl, Ext.refl _, rfl⟩
 case o3 =>
  intro xv W hE hp
  have r2 : xv 2 = _ := hp.1
  clear hp
  simp only [putD, foldl_nil, foldl_cons, getD_cons_zero, getD_cons_succ, Act.put, setIfInBounds_toArray, set_cons_zero, set_cons_succ]
  refine OpGoal.plain ?_
  go_wp2_with fail
  exact ⟨rfl, Ext.refl _, rfl⟩
 case o4 =>
  intro xv W hE hp
  have r3 : xv 3 = _ := hp.1
  clear hp
  simp only [putD, foldl_nil, foldl_cons, getD_cons_zero, getD_cons_succ, Act.put, setIfInBounds_toArray, set_cons_zero, set_cons_succ]
  refine OpGoal.yes (by simp [yieldD, r3]) ?_
  go_wp2_with fail
  refine (example_any W).mono ?_
  rintro e w' hTw
  obtain ⟨g, u, v, d, rfl, hu, hv, hB, _, hE9⟩ := TwoB.of hTw
  go_wp2_with fail
  exact ⟨rfl, hE9, g, u, v, d, rfl, Lib.hid hu, Lib.hid hv, hB⟩
 case o5 =>
  intro xv W hE hp
  have r3 : xv 3 = _ := hp.1
  clear hp
  simp only [putD, foldl_nil, foldl_cons, getD_cons_zero, getD_cons_succ, Act.put, setIfInBounds_toArray, set_cons_zero, set_cons_succ]
  refine OpGoal.yes (by simp [yieldD, r3]) ?_
  go_wp2_with fail
  exact ⟨rfl, Ext.refl _, rfl⟩
 case o6 =>
  intro xv W hE hp
  have r3 : xv 3 = _ := hp.1
  have r5 : xv 5 = _ := hp.2.1
  clear hp
  simp only [putD, foldl_nil, foldl_cons, getD_cons_zero, getD_cons_succ, Act.put, setIfInBounds_toArray, set_cons_zero, set_cons_succ]
  refine OpGoal.yes (by simp [yieldD, r3]) ?_
  go_wp2_with fail
  exact ⟨rfl, Ext.refl _, rfl⟩
 case o7 =>
  intro xv W hE hp
  have r3 : xv 3 = _ := hp.1
  have r6 : xv 6 = _ := hp.2.1
  clear hp
  simp only [putD, foldl_nil, foldl_cons, getD_cons_zero, getD_cons_succ, Act.put, setIfInBounds_toArray, set_cons_zero, set_cons_succ]
  refine OpGoal.yes (by simp [yieldD, r3]) ?_
  have hrr := (HB11.out.ext ((Ext.drew w11).trans hE)).rng.1
  unfold Rn.cells at hrr
  refine load_R rfl _ rfl g1 0 _ hrr rfl r6 ?_
  go_wp2_with fail
  exact ⟨rfl, Ext.refl _, rfl⟩
 case o8 =>
  intro xv W hE hp
  have r3 : xv 3 = _ := hp.1
  have r7 : xv 7 = _ := hp.2.1
  clear hp
  simp only [putD, foldl_nil, foldl_cons, getD_cons_zero, getD_cons_succ, Act.put, setIfInBounds_toArray, set_cons_zero, set_cons_succ]
  refine OpGoal.yes (by simp [yieldD, r3]) ?_
  go_wp2_with fail
  exact ⟨rfl, Ext.alloc _ _, W.heap.size, rfl, by simp, range_new W u1.cells _⟩
 case o9 =>
  intro xv W hE hp
  have r3 : xv 3 = _ := hp.1
  obtain ⟨g4, u4, v4, d4, r4, HU4, HV4, h4⟩ := hp.2.1
  obtain ⟨g8, r8, h8⟩ := hp.2.2.1
  clear hp
  simp only [putD, foldl_nil, foldl_cons, getD_cons_zero, getD_cons_succ, Act.put, setIfInBounds_toArray, set_cons_zero, set_cons_succ]
  refine OpGoal.yes (by simp [yieldD, r3]) ?_
  have hB9 := HB11.out.ext ((Ext.drew w11).trans hE)
  at_builtin
  refine app_G rfl 46 50 rfl g4 0 2 [u4, v4] r4 h4.at_ g8 0 1 [u1] r8 (one_at h8.2) (by simp) (by simp) ?_
  intro v' w' ho hE9
  go_wp2_with fail
  exact ⟨rfl, hE9, three_rl hE9 ho h4 (hB9.k1.more fun b hb => hb.1) HU4.out HV4.out HU1.out⟩
 case o10 =>
  intro xv W hE hp
  have r3 : xv 3 = _ := hp.1
  obtain ⟨A9, c9, d9, r9, ha9, hb9, h9⟩ := hp.2.1
  clear hp
  simp only [putD, foldl_nil, foldl_cons, getD_cons_zero, getD_cons_succ, Act.put, setIfInBounds_toArray, set_cons_zero, set_cons_succ]
  refine OpGoal.yes (by simp [yieldD, r3]) ?_
  go_wp2_with fail
  refine (CheckL_any [exA, exB, exA] A9 c9 d9 W h9 (by decide) ha9 hb9 (fun r hr => ?_)).mono ?_
  ·simp only [List.mem_cons, List.not_mem_nil, or_false] at hr
   rcases hr with rfl | rfl | rfl
   ·exact roA.1
   ·exact roB.1
   ·exact roA.1
  rintro e w' ⟨rfl, hE9⟩
  rw [f7]
  go_wp2_with fail
  exact ⟨rfl, hE9, rfl⟩
 case o11 =>
  intro xv W hE hp
  have r3 : xv 3 = _ := hp.1
  have r10 : xv 10 = _ := hp.2.1
  clear hp
  simp only [putD, foldl_nil, foldl_cons, getD_cons_zero, getD_cons_succ, Act.put, setIfInBounds_toArray, set_cons_zero, set_cons_succ]
  refine OpGoal.yes (by simp [yieldD, r3]) ?_
  go_wp2_with fail
  exact ⟨rfl, Ext.refl _, rfl⟩
 case o12 =>
  intro xv W hE hp
  have r3 : xv 3 = _ := hp.1
  have r11 : xv 11 = _ := hp.2.1
  clear hp
  simp only [putD, foldl_nil, foldl_cons, getD_cons_zero, getD_cons_succ, Act.put, setIfInBounds_toArray, set_cons_zero, set_cons_succ]
  refine OpGoal.plain ?_
  go_wp2_with fail
  exact ⟨rfl, Ext.refl _, rfl⟩
 case o13 =>
  intro xv W hE hp
  have r12 : xv 12 = _ := hp.1
  clear hp
  simp only [putD, foldl_nil, foldl_cons, getD_cons_zero, getD_cons_succ, Act.put, setIfInBounds_toArray, set_cons_zero, set_cons_succ]
  refine OpGoal.plain ?_
  go_wp2_with fail
  exact ⟨rfl, Ext.refl _, rfl⟩
 case o14 =>
  intro xv W hE hp
  have r13 : xv 13 = _ := hp.1
  clear hp
  simp only [putD, foldl_nil, foldl_cons, getD_cons_zero, getD_cons_succ, Act.put, setIfInBounds_toArray, set_cons_zero, set_cons_succ]
  refine OpGoal.yes (by simp [yieldD, r13]) ?_
  go_wp2_with fail
  exact ⟨rfl, Ext.refl _, rfl⟩
 case o15 =>
  intro xv W hE hp
  have r13 : xv 13 = _ := hp.1
  have r14 : xv 14 = _ := hp.2.1
  clear hp
  simp only [putD, foldl_nil, foldl_cons, getD_cons_zero, getD_cons_succ, Act.put, setIfInBounds_toArray, set_cons_zero, set_cons_succ]
  refine OpGoal.yes (by simp [yieldD, r13]) ?_
  go_wp2_with fail
  refine (CheckL_any [exA, exT] (some ⟨g5, 0, none⟩) 2 d5 W ((HD11.out.ext ((Ext.drew w11).trans hE)).rlb HU5.out HV5.out) (by decide) (by decide) (by decide) (all2 roA.1 roT.1)).mono ?_
  rintro e w' ⟨rfl, hE9⟩
  rw [f8]
  go_wp2_with fail
  exact ⟨rfl, hE9, rfl⟩
 case o16 =>
  intro xv W hE hp
  have r13 : xv 13 = _ := hp.1
  have r15 : xv 15 = _ := hp.2.1
  clear hp
  simp only [putD, foldl_nil, foldl_cons, getD_cons_zero, getD_cons_succ, Act.put, setIfInBounds_toArray, set_cons_zero, set_cons_succ]
  refine OpGoal.yes (by simp [yieldD, r13]) ?_
  go_wp2_with fail
  exact ⟨rfl, Ext.refl _, rfl⟩
 case o17 =>
  intro xv W hE hp
  have r13 : xv 13 = _ := hp.1
  have r16 : xv 16 = _ := hp.2.1
  clear hp
  simp only [putD, foldl_nil, foldl_cons, getD_cons_zero, getD_cons_succ, Act.put, setIfInBounds_toArray, set_cons_zero, set_cons_succ]
  refine OpGoal.plain ?_
  go_wp2_with fail
  exact ⟨rfl, Ext.refl _, rfl⟩
 case o18 =>
  intro xv W hE hp
  have r17 : xv 17 = _ := hp.1
  clear hp
  simp only [putD, foldl_nil, foldl_cons, getD_cons_zero, getD_cons_succ, Act.put, setIfInBounds_toArray, set_cons_zero, set_cons_succ]
  refine OpGoal.plain ?_
  go_wp2_with fail
  exact ⟨rfl, Ext.refl _, rfl⟩
 case o19 =>
  intro xv W hE hp
  have r18 : xv 18 = _ := hp.1
  clear hp
  simp only [putD, foldl_nil, foldl_cons, getD_cons_zero, getD_cons_succ, Act.put, setIfInBounds_toArray, set_cons_zero, set_cons_succ]
  refine OpGoal.yes (by simp [yieldD, r18]) ?_
  go_wp2_with fail
  exact ⟨rfl, Ext.refl _, rfl⟩
 case o20 =>
  intro xv W hE hp
  have r18 : xv 18 = _ := hp.1
  have r19 : xv 19 = _ := hp.2.1
  clear hp
  simp only [putD, foldl_nil, foldl_cons, getD_cons_zero, getD_cons_succ, Act.put, setIfInBounds_toArray, set_cons_zero, set_cons_succ]
  refine OpGoal.yes (by simp [yieldD, r18]) ?_
  go_wp2_with fail
  exact ⟨rfl, Ext.refl _, rfl⟩
 case o21 =>
  intro xv W hE hp
  have r18 : xv 18 = _ := hp.1
  have r20 : xv 20 = _ := hp.2.1
  clear hp
  simp only [putD, foldl_nil, foldl_cons, getD_cons_zero, getD_cons_succ, Act.put, setIfInBounds_toArray, set_cons_zero, set_cons_succ]
  refine OpGoal.yes (by simp [yieldD, r18]) ?_
  have hrr := (HB11.out.ext ((Ext.drew w11).trans hE)).rng.1
  refine load_R rfl _ rfl g1 0 _ hrr rfl r20 ?_
  go_wp2_with fail
  exact ⟨rfl, Ext.refl _, rfl⟩
 case o22 =>
  intro xv W hE hp
  have r18 : xv 18 = _ := hp.1
  clear hp
  simp only [putD, foldl_nil, foldl_cons, getD_cons_zero, getD_cons_succ, Act.put, setIfInBounds_toArray, set_cons_zero, set_cons_succ]
  refine OpGoal.yes (by simp [yieldD, r18]) ?_
  go_wp2_with fail
  exact ⟨rfl, Ext.refl _, rfl⟩
 case o23 =>
  intro xv W hE hp
  have r18 : xv 18 = _ := hp.1
  have r22 : xv 22 = _ := hp.2.1
  clear hp
  simp only [putD, foldl_nil, foldl_cons, getD_cons_zero, getD_cons_succ, Act.put, setIfInBounds_toArray, set_cons_zero, set_cons_succ]
  refine OpGoal.yes (by simp [yieldD, r18]) ?_
  go_wp2_with fail
  exact ⟨rfl, Ext.refl _, rfl⟩
 case o24 =>
  intro xv W hE hp
  have r18 : xv 18 = _ := hp.1
  have r23 : xv 23 = _ := hp.2.1
  clear hp
  simp only [putD, foldl_nil, foldl_cons, getD_cons_zero, getD_cons_succ, Act.put, setIfInBounds_toArray, set_cons_zero, set_cons_succ]
  refine OpGoal.yes (by simp [yieldD, r18]) ?_
  have hrr := (HB11.out.ext ((Ext.drew w11).trans hE)).rng.1
  refine load_R rfl _ rfl g1 0 _ hrr rfl r23 ?_
  go_wp2_with fail
  exact ⟨rfl, Ext.refl _, rfl⟩
 case o25 =>
  intro xv W hE hp
  have r18 : xv 18 = _ := hp.1
  have r21 : xv 21 = _ := hp.2.1
  have r24 : xv 24 = _ := hp.2.2.1
  clear hp
  simp only [putD, foldl_nil, foldl_cons, getD_cons_zero, getD_cons_succ, Act.put, setIfInBounds_toArray, set_cons_zero, set_cons_succ]
  refine OpGoal.yes (by simp [yieldD, r18]) ?_
  go_wp2_with fail
  have hB9 := HB11.out.ext ((Ext.drew w11).trans hE)
  refine (RSame_any u1 u1 d1 W (hB9.k1.more fun b hb => hb.1) (hB9.k1.more fun b hb => hb.1) (by rw [HU1.out]; exact roA.2) (by rw [HU1.out]; exact roA.2)).mono ?_
  rintro e w' ⟨rfl, hE9⟩
  rw [HU1.out, f9]
  go_wp2_with fail
  exact ⟨rfl, hE9, rfl⟩
 case o26 =>
  intro xv W hE hp
  have r18 : xv 18 = _ := hp.1
  have r25 : xv 25 = _ := hp.2.1
  clear hp
  simp only [putD, foldl_nil, foldl_cons, getD_cons_zero, getD_cons_succ, Act.put, setIfInBounds_toArray, set_cons_zero, set_cons_succ]
  refine OpGoal.plain ?_
  go_wp2_with fail
  exact ⟨rfl, Ext.refl _, rfl⟩
 case o27 =>
  intro xv W hE hp
  have r26 : xv 26 = _ := hp.1
  clear hp
  simp only [putD, foldl_nil, foldl_cons, getD_cons_zero, getD_cons_succ, Act.put, setIfInBounds_toArray, set_cons_zero, set_cons_succ]
  refine OpGoal.plain ?_
  go_wp2_with fail
  exact ⟨rfl, Ext.refl _, rfl⟩
 case o28 =>
  intro xv W hE hp
  have r27 : xv 27 = _ := hp.1
  clear hp
  simp only [putD, foldl_nil, foldl_cons, getD_cons_zero, getD_cons_succ, Act.put, setIfInBounds_toArray, set_cons_zero, set_cons_succ]
  refine OpGoal.yes (by simp [yieldD, r27]) ?_
  go_wp2_with fail
  exact ⟨rfl, Ext.refl _, rfl⟩
 case o29 =>
  intro xv W hE hp
  have r27 : xv 27 = _ := hp.1
  have r28 : xv 28 = _ := hp.2.1
  clear hp
  simp only [putD, foldl_nil, foldl_cons, getD_cons_zero, getD_cons_succ, Act.put, setIfInBounds_toArray, set_cons_zero, set_cons_succ]
  refine OpGoal.yes (by simp [yieldD, r27]) ?_
  go_wp2_with fail
  exact ⟨rfl, Ext.refl _, rfl⟩
 case o30 =>
  intro xv W hE hp
  have r27 : xv 27 = _ := hp.1
  have r29 : xv 29 = _ := hp.2.1
  clear hp
  simp only [putD, foldl_nil, foldl_cons, getD_cons_zero, getD_cons_succ, Act.put, setIfInBounds_toArray, set_cons_zero, set_cons_succ]
  refine OpGoal.yes (by simp [yieldD, r27]) ?_
  have hrr := (HB11.out.ext ((Ext.drew w11).trans hE)).rng.1
  refine load_R rfl _ rfl g1 0 _ hrr rfl r29 ?_
  go_wp2_with fail
  exact ⟨rfl, Ext.refl _, rfl⟩
 case o31 =>
  intro xv W hE hp
  have r27 : xv 27 = _ := hp.1
  clear hp
  simp only [putD, foldl_nil, foldl_cons, getD_cons_zero, getD_cons_succ, Act.put, setIfInBounds_toArray, set_cons_zero, set_cons_succ]
  refine OpGoal.yes (by simp [yieldD, r27]) ?_
  go_wp2_with fail
  exact ⟨rfl, Ext.refl _, rfl⟩
 case o32 =>
  intro xv W hE hp
  have r27 : xv 27 = _ := hp.1
  have r31 : xv 31 = _ := hp.2.1
  clear hp
  simp only [putD, foldl_nil, foldl_cons, getD_cons_zero, getD_cons_succ, Act.put, setIfInBounds_toArray, set_cons_zero, set_cons_succ]
  refine OpGoal.yes (by simp [yieldD, r27]) ?_
  go_wp2_with fail
  exact ⟨rfl, Ext.refl _, rfl⟩
 case o33 =>
  intro xv W hE hp
  have r27 : xv 27 = _ := hp.1
  have r32 : xv 32 = _ := hp.2.1
  clear hp
  simp only [putD, foldl_nil, foldl_cons, getD_cons_zero, getD_cons_succ, Act.put, setIfInBounds_toArray, set_cons_zero, set_cons_succ]
  refine OpGoal.yes (by simp [yieldD, r27]) ?_
  have hrr := (HB11.out.ext ((Ext.drew w11).trans hE)).rng.2
  refine load_R rfl _ rfl g1 30 _ hrr rfl r32 ?_
  go_wp2_with fail
  exact ⟨rfl, Ext.refl _, rfl⟩
 case o34 =>
  intro xv W hE hp
  have r27 : xv 27 = _ := hp.1
  have r30 : xv 30 = _ := hp.2.1
  have r33 : xv 33 = _ := hp.2.2.1
  clear hp
  simp only [putD, foldl_nil, foldl_cons, getD_cons_zero, getD_cons_succ, Act.put, setIfInBounds_toArray, set_cons_zero, set_cons_succ]
  refine OpGoal.yes (by simp [yieldD, r27]) ?_
  go_wp2_with fail
  have hB9 := HB11.out.ext ((Ext.drew w11).trans hE)
  refine (RSame_any u1 v1 d1 W (hB9.k1.more fun b hb => hb.1) (hB9.k2.more fun b hb => hb.1) (by rw [HU1.out]; exact roA.2) (by rw [HV1.out]; exact roB.2)).mono ?_
  rintro e w' ⟨rfl, hE9⟩
  rw [HU1.out, HV1.out, f9n]
  go_wp2_with fail
  exact ⟨rfl, hE9, rfl⟩
 case o35 =>
  intro xv W hE hp
  have r27 : xv 27 = _ := hp.1
  have r34 : xv 34 = _ := hp.2.1
  clear hp
  simp only [putD, foldl_nil, foldl_cons, getD_cons_zero, getD_cons_succ, Act.put, setIfInBounds_toArray, set_cons_zero, set_cons_succ]
  refine OpGoal.yes (by simp [yieldD, r27]) ?_
  go_wp2_with fail
  exact ⟨rfl, Ext.refl _, rfl⟩
 case o36 =>
  intro xv W hE hp
  have r27 : xv 27 = _ := hp.1
  have r35 : xv 35 = _ := hp.2.1
  clear hp
  simp only [putD, foldl_nil, foldl_cons, getD_cons_zero, getD_cons_succ, Act.put, setIfInBounds_toArray, set_cons_zero, set_cons_succ]
  refine OpGoal.plain ?_
  go_wp2_with fail
  exact ⟨rfl, Ext.refl _, rfl⟩
 case last =>
  intro xv W hE hp
  have r0 : xv 0 = _ := hp.1
  have r1 : xv 1 = _ := hp.2.1
  have r2 : xv 2 = _ := hp.2.2.1
  have r3 : xv 3 = _ := hp.2.2.2.1
  obtain ⟨g4, u4, v4, d4, r4, HU4, HV4, h4⟩ := hp.2.2.2.2.1
  have r5 : xv 5 = _ := hp.2.2.2.2.2.1
  have r6 : xv 6 = _ := hp.2.2.2.2.2.2.1
  have r7 : xv 7 = _ := hp.2.2.2.2.2.2.2.1
  obtain ⟨g8, r8, h8⟩ := hp.2.2.2.2.2.2.2.2.1
  obtain ⟨A9, c9, d9, r9, ha9, hb9, h9⟩ := hp.2.2.2.2.2.2.2.2.2.1
  have r10 : xv 10 = _ := hp.2.2.2.2.2.2.2.2.2.2.1
  have r11 : xv 11 = _ := hp.2.2.2.2.2.2.2.2.2.2.2.1
  have r12 : xv 12 = _ := hp.2.2.2.2.2.2.2.2.2.2.2.2.1
  have r13 : xv 13 = _ := hp.2.2.2.2.2.2.2.2.2.2.2.2.2.1
  have r14 : xv 14 = _ := hp.2.2.2.2.2.2.2.2.2.2.2.2.2.2.1
  have r15 : xv 15 = _ := hp.2.2.2.2.2.2.2.2.2.2.2.2.2.2.2.1
  have r16 : xv 16 = _ := hp.2.2.2.2.2.2.2.2.2.2.2.2.2.2.2.2.1
  have r17 : xv 17 = _ := hp.2.2.2.2.2.2.2.2.2.2.2.2.2.2.2.2.2.1
  have r18 : xv 18 = _ := hp.2.2.2.2.2.2.2.2.2.2.2.2.2.2.2.2.2.2.1
  have r19 : xv 19 = _ := hp.2.2.2.2.2.2.2.2.2.2.2.2.2.2.2.2.2.2.2.1
  have r20 : xv 20 = _ := hp.2.2.2.2.2.2.2.2.2.2.2.2.2.2.2.2.2.2.2.2.1
  have r21 : xv 21 = _ := hp.2.2.2.2.2.2.2.2.2.2.2.2.2.2.2.2.2.2.2.2.2.1
  have r22 : xv 22 = _ := hp.2.2.2.2.2.2.2.2.2.2.2.2.2.2.2.2.2.2.2.2.2.2.1
  have r23 : xv 23 = _ := hp.2.2.2.2.2.2.2.2.2.2.2.2.2.2.2.2.2.2.2.2.2.2.2.1
  have r24 : xv 24 = _ := hp.2.2.2.2.2.2.2.2.2.2.2.2.2.2.2.2.2.2.2.2.2.2.2.2.1
  have r25 : xv 25 = _ := hp.2.2.2.2.2.2.2.2.2.2.2.2.2.2.2.2.2.2.2.2.2.2.2.2.2.1
  have r26 : xv 26 = _ := hp.2.2.2.2.2.2.2.2.2.2.2.2.2.2.2.2.2.2.2.2.2.2.2.2.2.2.1
  have r27 : xv 27 = _ := hp.2.2.2.2.2.2.2.2.2.2.2.2.2.2.2.2.2.2.2.2.2.2.2.2.2.2.2.1
  have r28 : xv 28 = _ := hp.2.2.2.2.2.2.2.2.2.2.2.2.2.2.2.2.2.2.2.2.2.2.2.2.2.2.2.2.1
  have r29 : xv 29 = _ := hp.2.2.2.2.2.2.2.2.2.2.2.2.2.2.2.2.2.2.2.2.2.2.2.2.2.2.2.2.2.1
  have r30 : xv 30 = _ := hp.2.2.2.2.2.2.2.2.2.2.2.2.2.2.2.2.2.2.2.2.2.2.2.2.2.2.2.2.2.2.1
  have r31 : xv 31 = _ := hp.2.2.2.2.2.2.2.2.2.2.2.2.2.2.2.2.2.2.2.2.2.2.2.2.2.2.2.2.2.2.2.1
  have r32 : xv 32 = _ := hp.2.2.2.2.2.2.2.2.2.2.2.2.2.2.2.2.2.2.2.2.2.2.2.2.2.2.2.2.2.2.2.2.1
  have r33 : xv 33 = _ := hp.2.2.2.2.2.2.2.2.2.2.2.2.2.2.2.2.2.2.2.2.2.2.2.2.2.2.2.2.2.2.2.2.2.1
  have r34 : xv 34 = _ := hp.2.2.2.2.2.2.2.2.2.2.2.2.2.2.2.2.2.2.2.2.2.2.2.2.2.2.2.2.2.2.2.2.2.2.1
  have r35 : xv 35 = _ := hp.2.2.2.2.2.2.2.2.2.2.2.2.2.2.2.2.2.2.2.2.2.2.2.2.2.2.2.2.2.2.2.2.2.2.2.1
  have r36 : xv 36 = _ := hp.2.2.2.2.2.2.2.2.2.2.2.2.2.2.2.2.2.2.2.2.2.2.2.2.2.2.2.2.2.2.2.2.2.2.2.2.1
  clear hp
  simp only [putD, List.foldl_nil, List.foldl_cons, List.getD_cons_zero, List.getD_cons_succ, Act.put, List.length_cons, List.length_nil, List.range_succ, List.range_zero, List.nil_append, List.cons_append, List.setIfInBounds_toArray, List.set_cons_zero, List.set_cons_succ]
  have hE12 := (Ext.drew w11).trans hE
  have HB12 := Lib.hid (HB11.out.ext hE12)
  have HE12 := Lib.hid (HE11.out.trans hE12)
  rw [r36]
  clear r0 r1 r2 r3 r4 r5 r6 r7 r8 r9 r10 r11 r12 r13 r14 r15 r16 r17 r18 r19 r20 r21 r22 r23 r24 r25 r26 r27 r28 r29 r30 r31 r32 r33 r34 r35 r36
  have hT12 := HT.out.ext HE12.out
  have TX := Lib.hid (TextL_any [exA, exB] (some ⟨g1, 0, none⟩) 2 d1 W (HB12.out.rlb HU1.out HV1.out) (by decide) (by decide) (by decide) (all2 roA.1 roB.1) hT12 (tabsE hT12))
  unfold TextR at TX
  rw [txL_of f6] at TX
  have hpb := parse_back f6
  have hlen := chk_texts f6
  obtain ⟨t, ht⟩ : ∃ q, textsL [exA, exB] = q := ⟨_, rfl⟩
  rw [ht] at TX hpb hlen
  clear ht hT12
  go_wp2_with fail
  refine TX.out.mono ?_
  rintro e w13 ⟨rfl, hE13⟩
  have HB13 := Lib.hid (HB12.out.ext hE13)
  have HE13 := Lib.hid (HE12.out.trans hE13)
  clear hE13 TX
  have PL := Lib.hid (ParseL_any t (by omega) w13 (HT.out.ext HE13.out))
  unfold ParseQL at PL
  rw [hpb] at PL
  obtain ⟨D, hD⟩ : ∃ D : ByteArray, (⟨t.toArray⟩ : ByteArray) = D := ⟨_, rfl⟩
  rw [hD] at PL
  rw [hD]
  clear hpb hlen hD
  go_wp2_with fail
  refine PL.out.mono ?_
  rintro e w14 ⟨A14, c14, d14, rfl, hX14, hc14, hk14, hE14⟩
  have HX14 := Lib.hid hX14
  have HK14 := Lib.hid hk14
  have HB14 := Lib.hid (HB13.out.ext hE14)
  have HE14 := Lib.hid (HE13.out.trans hE14)
  clear hX14 hk14 hE14 PL
  simp only [List.length_cons, List.length_nil]
  go_wp2_with fail
  refine (rSameAll_any [exA, exB] [exA, exB] A14 (some ⟨g1, 0, none⟩) c14 2 (d14 + d1) w14 ((HX14.out.more fun b hb => hb.2).deep (Nat.le_add_right _ _)) ((HB14.out.rlb HU1.out HV1.out).deep (Nat.le_add_left _ _)) (by decide) (by decide) (fun r hr => (HK14.out r hr).2) (all2 roA.2 roB.2)).mono ?_
  rintro e w15 ⟨rfl, hE15⟩
  have HE15 := Lib.hid (HE14.out.trans hE15)
  rw [(sameL_iff [exA, exB] [exA, exB]).2 rfl]
  clear hE15
  go_wp2_with fail
  go_ret
  exact ⟨rfl, HE15.out⟩
end Go.Proofs.YtmiencglfhpmeaaGreatDoor
