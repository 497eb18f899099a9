/- The examples that each law of style asks first: the contract of sanity. -/
import Derived.Test.YtmiencglfhpmeaaGreatDoorKQSt
open List renaming cons_append → zA, foldl_cons → zB, foldl_nil → zC, getD_cons_succ → zD, getD_cons_zero → zE, getElem?_cons_zero → zF, length_cons → zG, length_nil → zH, mem_cons → zI, mem_singleton → zJ, nil_append → zK, not_mem_nil → zL, setIfInBounds_toArray → zM, set_cons_succ → zN, set_cons_zero → zO
open Nat renaming le_add_right → zP, le_refl → zQ, le_trans → zR
open Option renaming some.injEq → zS
open Int renaming eq_ofNat_of_zero_le → zT
open Go.Lib renaming hid → zU
set_option linter.unusedSimpArgs false
set_option linter.unusedVariables false
namespace Go.Proofs.YtmiencglfhpmeaaGreatDoor
open Go.RowKit Hach
theorem ex_ok0 {e:Ex}(h:chkE e=0):e.ok∧e.size<4294967296:=by
 obtain⟨h1,h2⟩:=chk_rt h
 exact⟨rt_ok h1,by omega⟩
theorem rl_ok0 {r:Rl}(hn:r.nm.length<4294967296) (hp:InI r.pr) (h1:chkE r.e1=0) (h2:chkE r.e2=0) (h3:chkE r.e3=0) (h4:chkE r.e4=0):r.ok∧r.small:=by
 obtain⟨a1,b1⟩:=ex_ok0 h1
 obtain⟨a2,b2⟩:=ex_ok0 h2
 obtain⟨a3,b3⟩:=ex_ok0 h3
 obtain⟨a4,b4⟩:=ex_ok0 h4
 exact⟨⟨hn,hp,⟨a1,by omega⟩,⟨a2,by omega⟩,⟨a3,by omega⟩,⟨a4,by omega⟩⟩,⟨b1,b2,b3,b4⟩⟩
theorem roA:exA.ok∧exA.small:=rl_ok0 (by decide) (by unfold InI;decide) (by decide) (by decide) (by decide) (by decide)
theorem roB:exB.ok∧exB.small:=rl_ok0 (by decide) (by unfold InI;decide) (by decide) (by decide) (by decide) (by decide)
theorem roP:exP.ok∧exP.small:=rl_ok0 (by decide) (by unfold InI;decide) (by decide) (by decide) (by decide) (by decide)
theorem roT:exT.ok∧exT.small:=rl_ok0 (by decide) (by unfold InI;decide) (by decide) (by decide) (by decide) (by decide)
theorem all2 {P:Rl→Prop}{a b:Rl}(ha:P a) (hb:P b) :∀r∈[a,b],P r:=by
 intro r hr
 simp only[zI,zL,or_false]at hr
 rcases hr with rfl|rfl
 ·exact ha
 ·exact hb
def twoSP (a b:Rl):SP:=⟨fun v W =>∃g u t d,v=.slice (some ⟨g,0,none⟩) 2 2∧Hid (u.r=a)∧Hid (t.r=b)∧TwoB W g u t d,fun h hE=>by
 obtain⟨g,u,t,d,e,h1,h2,h3⟩:=h
 exact⟨g,u,t,d,e,h1,h2,h3.ext hE⟩⟩
def oneSP (u:Rn):SP:=⟨fun v W =>∃g,v=.slice (some ⟨g,0,none⟩) 1 1∧g<W.heap.size∧W.rangeAt g 0 u.cells,fun h hE=>by
 obtain⟨g,e,h0,h1⟩:=h
 exact⟨g,e,Nat.lt_of_lt_of_le h0 hE.sz,range_ext h1 h0 hE⟩⟩
def rlSP (l:List Rl):SP:=⟨fun v W =>∃A c d,v=.slice A l.length c∧l.length≤c∧c<9223372036854775808∧RlB W W.heap.size d A l,fun h hE=>by
 obtain⟨A,c,d,e,h1,h2,h3⟩:=h
 exact⟨A,c,d,e,h1,h2,RlL.ext h3 hE⟩⟩
theorem one_at {W:World}{g:Nat}{u:Rn}(h:W.rangeAt g 0 u.cells) :∀(j:Nat) (t:Rn),[u][j]?=some t→W.rangeAt g (0+j*30) t.cells:=fun j t ht=>by
 match j,ht with
 | 0,ht=>simp only[zF,zS]at ht;subst ht;exact h
 | j+1,ht=>simp at ht
theorem three_rl {W w':World}{g d d1:Nat}{u v x:Rn}{v':Value}{a b c:Rl}(hE:Ext W w') (ho:OwnR w' W.heap.size v' ([u,v]++[x])) (h:TwoB W g u v d) (hx:x.kidsB W W.heap.size d1) (hu:u.r=a) (hv:v.r=b) (hc:x.r=c) :∃A c' d',v'=.slice A [a,b,c].length c'∧[a,b,c].length≤c'∧c'<9223372036854775808∧RlB w' w'.heap.size d' A [a,b,c]:=by
 subst hu;subst hv;subst hc
 obtain⟨A,c',e,_⟩:=ho.form
 have hcap:OwnR w' W.heap.size (.slice A 3 c') ([u,v]++[x]):=by rw[←show v'=.slice A 3 c' from e];exact ho
 refine⟨A,c',d+d1,e,hcap.cap.1,hcap.cap.2,?_⟩
 refine(OwnR.list hcap (d:=d+d1) (S:=fun b=>b<w'.heap.size) (fun t ht=>?_) (fun b _ h2=>h2)).1
 simp only[zA,zK,zI,zL,or_false]at ht
 rcases ht with rfl|rfl|rfl
 ·exact((h.ext hE).k1.more fun b hb=>hb.1).deep (zP _ _)
 ·exact((h.ext hE).k2.more fun b hb=>hb.1).deep (zP _ _)
 ·exact(Rn.kids.ext hx hE).deep (Nat.le_add_left _ _)
set_option maxRecDepth 100000 in
set_option maxHeartbeats 4000000 in
theorem sanity_any (w:World) (hT:Wr.Tabs w):Calls Tryz.prog 10 #[] w fun e w'=>e=.returned (.bool true)∧Ext w w':=by
 have HT:=zU hT
 clear hT
 go_enter Tryz.func10,Tryz.ntmps10
 go_wp2_with fail
 refine(example_any w).mono ?_
 rintro e w1 hTw
 obtain⟨g1,u1,v1,d1,rfl,hu1,hv1,hB1,hg1,hE1⟩:=TwoB.of hTw
 have HB1:=zU hB1
 have HE1:=zU hE1
 clear hTw hB1 hE1
 go_wp2_with fail
 refine(looks_any [exA,exB] (some ⟨g1,0,none⟩) 2 d1 w1 20 5 2 0 0 [97] (HB1.out.rlb hu1 hv1) (by decide) (by decide) (by decide) (all2 roA.1 roB.1) f1).mono ?_
 rintro e w2 ⟨rfl,hE2⟩
 have HB2:=zU (HB1.out.ext hE2)
 have HE2:=zU (HE1.out.trans hE2)
 clear hE2
 go_wp2_with fail
 refine(looks_any [exA,exB] (some ⟨g1,0,none⟩) 2 d1 w2 3 255 0 8 0 [98] (HB2.out.rlb hu1 hv1) (by decide) (by decide) (by decide) (all2 roA.1 roB.1) f2).mono ?_
 rintro e w3 ⟨rfl,hE3⟩
 have HB3:=zU (HB2.out.ext hE3)
 have HE3:=zU (HE2.out.trans hE3)
 clear hE3
 go_wp2_with fail
 refine(looks_any [] none 0 0 w3 3 0 0 0 0 [] (RlL.nil _ _ _ _) (by decide) (by decide) (by decide) (fun r hr=>by cases hr) f3).mono ?_
 rintro e w4 ⟨rfl,hE4⟩
 have HB4:=zU (HB3.out.ext hE4)
 have HE4:=zU (HE3.out.trans hE4)
 clear hE4 HB1 HB2 HB3 HE1 HE2 HE3
 go_wp2_with fail
 refine(example_any w4).mono ?_
 rintro e w5 hTw
 obtain⟨g3,u3,v3,d3,rfl,hu3,hv3,hB5,hg3,hE5⟩:=TwoB.of hTw
 have HC5:=zU hB5
 have HE45:=zU hE5
 have c31:w5.cell? ⟨g3,31,none⟩=some (.int .i64 v3.r.pr):=hB5.rng.2 1 _ rfl
 have f31:=hB5.free 31
 clear hTw hB5 hE5
 go_upto_region 5 with fail
 have hsp:=HC5.out.setP 1
 obtain⟨w6,hw6⟩ :∃q,w5.setCell ⟨g3,31,none⟩ (.int .i64 1)=q:=⟨_,rfl⟩
 rw[hw6]at hsp
 rw[hw6]
 have hE46:=ext_fresh HE45.out hsp.2 hg3
 have hv3':(v3.setP 1).r=exP:=by unfold Rn.setP exP;rw[hv3]
 have HC6:=zU hsp.1
 have HB6:=zU (HB4.out.ext hE46)
 have HE6:=zU (HE4.out.trans hE46)
 clear hsp hw6 hE46 c31 f31 HC5 HE45 HB4 HE4
 go_wp2_with fail
 refine(looks_any [exA,exP] (some ⟨g3,0,none⟩) 2 d3 w6 3 0 0 0 31 [97,47,98] (HC6.out.rlb hu3 hv3') (by decide) (by decide) (by decide) (all2 roA.1 roP.1) f4).mono ?_
 rintro e w7 ⟨rfl,hE7⟩
 have HC7:=zU (HC6.out.ext hE7)
 have HB7:=zU (HB6.out.ext hE7)
 have HE7:=zU (HE6.out.trans hE7)
 clear hE7 HB6 HC6 HE6
 go_wp2_with fail
 refine(looks_any [exA,exP] (some ⟨g3,0,none⟩) 2 d3 w7 20 5 2 0 0 [97] (HC7.out.rlb hu3 hv3') (by decide) (by decide) (by decide) (all2 roA.1 roP.1) f5).mono ?_
 rintro e w8 ⟨rfl,hE8⟩
 have HB8:=zU (HB7.out.ext hE8)
 have HE8:=zU (HE7.out.trans hE8)
 clear hE8 HB7 HC7 HE7
 go_wp2_with fail
 refine(example_any w8).mono ?_
 rintro e w9 hTw
 obtain⟨g5,u5,v5,d5,rfl,hu5,hv5,hB9,hg5,hE9⟩:=TwoB.of hTw
 have HD9:=zU hB9
 have HE89:=zU hE9
 clear hTw hB9 hE9
 go_wp2_with fail
 refine(yes_any w9).mono ?_
 rintro e w10 ⟨rfl,hE10⟩
 have HD10:=zU (HD9.out.ext hE10)
 have HE810:=zU (HE89.out.trans hE10)
 have hk22:=fun(ops:Array Oper) =>@store_22 ops
 clear hE10 HD9 HE89 hk22
 go_upto_region 8 with(refine store_22 g5 d5 u5 v5 yesE HD10.out rfl rfl _ _ rfl rfl rfl ?_;intro w11 hD11 hG11)
 have hE811:=ext_fresh HE810.out hG11 hg5
 have HB11:=zU (HB8.out.ext hE811)
 have HE11:=zU (HE8.out.trans hE811)
 have HD11:=zU hD11
 have HU1:=zU hu1
 have HV1:=zU hv1
 have HU5:=zU hu5
 have hv5':(v5.set2 yesE none 0).r=exT:=by unfold Rn.set2 exT;rw[hv5]
 obtain⟨vt,hvt⟩ :∃q,v5.set2 yesE none 0=q:=⟨_,rfl⟩
 rw[hvt]at HD11 hv5'
 have HV5:=zU hv5'
 clear hu1 hv1 hu5 hv5' hv5 hu3 hv3
 dsimp only[Act.put]
 generalize (Value.agg (yesE.cells none 0).toArray)=z0
 clear hE811 hD11 hG11 hvt HD10 HE810 HB8 HE8
 apply wp_region_seq (l:=[_,_,_,_,_,_,_,_,_,_,_,_,_,_,_,_,_,_,_,_,_,_,_,_,_,_,_,_,_,_,_,_,_,_,_,_,_]) (t:=[_]) [some 42,some 43,some 44,some 45,some 46,some 47,some 48,some 49,some 50,some 51,some 52,some 53,some 54,some 55,some 56,some 57,some 58,some 59,some 60,some 61,some 62,some 63,some 64,some 65,some 66,some 67,some 68,some 69,some 70,some 71,some 72,some 73,some 74,some 75,some 76,some 77,some 78,some 6] [[],[0],[1],[2],[3],[3],[3,5],[3,6],[3,7],[3,4,8],[3,9],[3,10],[3,11],[12],[13],[13,14],[13,15],[13,16],[17],[18],[18,19],[18,20],[18],[18,22],[18,23],[18,21,24],[18,25],[26],[27],[27,28],[27,29],[27],[27,31],[27,32],[27,30,33],[27,34],[27,35],[36]] [37,37,37,37,37,37,37,37,37,37,37,37,37,37,37,37,37,37,37,37,37,37,37,37,37,37,37,37,37,37,37,37,37,37,37,37,37] [eqv _,(eqv (.int .i64 0)),eqv _,eqv _,(twoSP exA exB),eqv _,eqv _,(eqv (.agg #[.string ⟨u1.r.nm.toArray⟩,.int .i64 u1.r.pr,.int .i64 u1.r.e1.op,.int .i64 u1.r.e1.var,.int .i64 u1.r.e1.ty,.int .i64 u1.r.e1.n,.bool u1.r.e1.b,.string ⟨u1.r.e1.s.toArray⟩,.slice u1.A1 u1.r.e1.l.length u1.c1,.int .i64 u1.r.e2.op,.int .i64 u1.r.e2.var,.int .i64 u1.r.e2.ty,.int .i64 u1.r.e2.n,.bool u1.r.e2.b,.string ⟨u1.r.e2.s.toArray⟩,.slice u1.A2 u1.r.e2.l.length u1.c2,.int .i64 u1.r.e3.op,.int .i64 u1.r.e3.var,.int .i64 u1.r.e3.ty,.int .i64 u1.r.e3.n,.bool u1.r.e3.b,.string ⟨u1.r.e3.s.toArray⟩,.slice u1.A3 u1.r.e3.l.length u1.c3,.int .i64 u1.r.e4.op,.int .i64 u1.r.e4.var,.int .i64 u1.r.e4.ty,.int .i64 u1.r.e4.n,.bool u1.r.e4.b,.string ⟨u1.r.e4.s.toArray⟩,.slice u1.A4 u1.r.e4.l.length u1.c4])),(oneSP u1),(rlSP [exA,exB,exA]),(eqv (.int .i64 6)),eqv _,eqv _,eqv _,eqv _,(eqv (.int .i64 30)),eqv _,eqv _,eqv _,eqv _,eqv _,(eqv (.agg u1.cells.toArray)),eqv _,eqv _,(eqv (.agg u1.cells.toArray)),(eqv (.bool true)),eqv _,eqv _,eqv _,eqv _,(eqv (.agg u1.cells.toArray)),eqv _,eqv _,(eqv (.agg v1.cells.toArray)),(eqv (.bool false)),eqv _,eqv _] (by kernel_rfl) (by kernel_rfl) ⟨?o0,?o1,?o2,?o3,?o4,?o5,?o6,?o7,?o8,?o9,?o10,?o11,?o12,?o13,?o14,?o15,?o16,?o17,?o18,?o19,?o20,?o21,?o22,?o23,?o24,?o25,?o26,?o27,?o28,?o29,?o30,?o31,?o32,?o33,?o34,?o35,?o36,trivial⟩ ?last
 case o0=>
  intro xv W hE _
  simp only[putD,zC,zE]
  refine OpGoal.plain ?_
  go_wp2_with fail
  exact⟨rfl,Ext.refl _,rfl⟩
 case o1=>
  intro xv W hE hp
  have r0:xv 0=_:=hp.1
  clear hp
  simp only[putD,zC,zB,zE,zD,Act.put,zM,zO,zN]
  refine OpGoal.plain ?_
  go_wp2_with fail
  refine(CheckL_any [exA,exB] (some ⟨g1,0,none⟩) 2 d1 W ((HB11.out.ext ((Ext.drew w11).trans hE)).rlb HU1.out HV1.out) (by decide) (by decide) (by decide) (all2 roA.1 roB.1)).mono ?_
  rintro e w' ⟨rfl,hE9⟩
  rw[f6]
  go_wp2_with fail
  exact⟨rfl,hE9,rfl⟩
 case o2|o3=>
  intro xv W hE hp
  try have q0:xv _=_:=hp.1
  try have q1:xv _=_:=hp.2.1
  clear hp
  simp only[putD,zC,zB,zE,zD,Act.put,zM,zO,zN]
  refine OpGoal.plain ?_
  go_wp2_with fail
  exact⟨rfl,Ext.refl _,rfl⟩
 case o4=>
  intro xv W hE hp
  have r3:xv 3=_:=hp.1
  clear hp
  simp only[putD,zC,zB,zE,zD,Act.put,zM,zO,zN]
  refine OpGoal.yes (by simp[yieldD,r3]) ?_
  go_wp2_with fail
  refine(example_any W).mono ?_
  rintro e w' hTw
  obtain⟨g,u,v,d,rfl,hu,hv,hB,_,hE9⟩:=TwoB.of hTw
  go_wp2_with fail
  exact⟨rfl,hE9,g,u,v,d,rfl,zU hu,zU hv,hB⟩
 case o5=>
  intro xv W hE hp
  have r3:xv 3=_:=hp.1
  clear hp
  simp only[putD,zC,zB,zE,zD,Act.put,zM,zO,zN]
  refine OpGoal.yes (by simp[yieldD,r3]) ?_
  go_wp2_with fail
  exact⟨rfl,Ext.refl _,rfl⟩
 case o6=>
  intro xv W hE hp
  have r3:xv 3=_:=hp.1
  have r5:xv 5=_:=hp.2.1
  clear hp
  simp only[putD,zC,zB,zE,zD,Act.put,zM,zO,zN]
  refine OpGoal.yes (by simp[yieldD,r3]) ?_
  go_wp2_with fail
  exact⟨rfl,Ext.refl _,rfl⟩
 case o7=>
  intro xv W hE hp
  have r3:xv 3=_:=hp.1
  have r6:xv 6=_:=hp.2.1
  clear hp
  simp only[putD,zC,zB,zE,zD,Act.put,zM,zO,zN]
  refine OpGoal.yes (by simp[yieldD,r3]) ?_
  have hrr:=(HB11.out.ext ((Ext.drew w11).trans hE)).rng.1
  unfold Rn.cells at hrr
  refine load_R rfl _ rfl g1 0 _ hrr rfl r6 ?_
  go_wp2_with fail
  exact⟨rfl,Ext.refl _,rfl⟩
 case o8=>
  intro xv W hE hp
  have r3:xv 3=_:=hp.1
  have r7:xv 7=_:=hp.2.1
  clear hp
  simp only[putD,zC,zB,zE,zD,Act.put,zM,zO,zN]
  refine OpGoal.yes (by simp[yieldD,r3]) ?_
  go_wp2_with fail
  exact⟨rfl,Ext.alloc _ _,W.heap.size,rfl,by simp,range_new W u1.cells _⟩
 case o9=>
  intro xv W hE hp
  have r3:xv 3=_:=hp.1
  obtain⟨g4,u4,v4,d4,r4,HU4,HV4,h4⟩:=hp.2.1
  obtain⟨g8,r8,h8⟩:=hp.2.2.1
  clear hp
  simp only[putD,zC,zB,zE,zD,Act.put,zM,zO,zN]
  refine OpGoal.yes (by simp[yieldD,r3]) ?_
  have hB9:=HB11.out.ext ((Ext.drew w11).trans hE)
  at_builtin
  refine app_G rfl 46 50 rfl g4 0 2 [u4,v4] r4 h4.at_ g8 0 1 [u1] r8 (one_at h8.2) (by simp) (by simp) ?_
  intro v' w' ho hE9
  go_wp2_with fail
  exact⟨rfl,hE9,three_rl hE9 ho h4 (hB9.k1.more fun b hb=>hb.1) HU4.out HV4.out HU1.out⟩
 case o10=>
  intro xv W hE hp
  have r3:xv 3=_:=hp.1
  obtain⟨A9,c9,d9,r9,ha9,hb9,h9⟩:=hp.2.1
  clear hp
  simp only[putD,zC,zB,zE,zD,Act.put,zM,zO,zN]
  refine OpGoal.yes (by simp[yieldD,r3]) ?_
  go_wp2_with fail
  refine(CheckL_any [exA,exB,exA] A9 c9 d9 W h9 (by decide) ha9 hb9 (fun r hr=>?_)).mono ?_
  ·simp only[zI,zL,or_false]at hr
   rcases hr with rfl|rfl|rfl
   ·exact roA.1
   ·exact roB.1
   ·exact roA.1
  rintro e w' ⟨rfl,hE9⟩
  rw[f7]
  go_wp2_with fail
  exact⟨rfl,hE9,rfl⟩
 case o11=>
  intro xv W hE hp
  have r3:xv 3=_:=hp.1
  have r10:xv 10=_:=hp.2.1
  clear hp
  simp only[putD,zC,zB,zE,zD,Act.put,zM,zO,zN]
  refine OpGoal.yes (by simp[yieldD,r3]) ?_
  go_wp2_with fail
  exact⟨rfl,Ext.refl _,rfl⟩
 case o12|o13=>
  intro xv W hE hp
  try have q0:xv _=_:=hp.1
  try have q1:xv _=_:=hp.2.1
  clear hp
  simp only[putD,zC,zB,zE,zD,Act.put,zM,zO,zN]
  refine OpGoal.plain ?_
  go_wp2_with fail
  exact⟨rfl,Ext.refl _,rfl⟩
 case o14=>
  intro xv W hE hp
  have r13:xv 13=_:=hp.1
  clear hp
  simp only[putD,zC,zB,zE,zD,Act.put,zM,zO,zN]
  refine OpGoal.yes (by simp[yieldD,r13]) ?_
  go_wp2_with fail
  exact⟨rfl,Ext.refl _,rfl⟩
 case o15=>
  intro xv W hE hp
  have r13:xv 13=_:=hp.1
  have r14:xv 14=_:=hp.2.1
  clear hp
  simp only[putD,zC,zB,zE,zD,Act.put,zM,zO,zN]
  refine OpGoal.yes (by simp[yieldD,r13]) ?_
  go_wp2_with fail
  refine(CheckL_any [exA,exT] (some ⟨g5,0,none⟩) 2 d5 W ((HD11.out.ext ((Ext.drew w11).trans hE)).rlb HU5.out HV5.out) (by decide) (by decide) (by decide) (all2 roA.1 roT.1)).mono ?_
  rintro e w' ⟨rfl,hE9⟩
  rw[f8]
  go_wp2_with fail
  exact⟨rfl,hE9,rfl⟩
 case o16=>
  intro xv W hE hp
  have r13:xv 13=_:=hp.1
  have r15:xv 15=_:=hp.2.1
  clear hp
  simp only[putD,zC,zB,zE,zD,Act.put,zM,zO,zN]
  refine OpGoal.yes (by simp[yieldD,r13]) ?_
  go_wp2_with fail
  exact⟨rfl,Ext.refl _,rfl⟩
 case o17|o18=>
  intro xv W hE hp
  try have q0:xv _=_:=hp.1
  try have q1:xv _=_:=hp.2.1
  clear hp
  simp only[putD,zC,zB,zE,zD,Act.put,zM,zO,zN]
  refine OpGoal.plain ?_
  go_wp2_with fail
  exact⟨rfl,Ext.refl _,rfl⟩
 case o19=>
  intro xv W hE hp
  have r18:xv 18=_:=hp.1
  clear hp
  simp only[putD,zC,zB,zE,zD,Act.put,zM,zO,zN]
  refine OpGoal.yes (by simp[yieldD,r18]) ?_
  go_wp2_with fail
  exact⟨rfl,Ext.refl _,rfl⟩
 case o20=>
  intro xv W hE hp
  have r18:xv 18=_:=hp.1
  have r19:xv 19=_:=hp.2.1
  clear hp
  simp only[putD,zC,zB,zE,zD,Act.put,zM,zO,zN]
  refine OpGoal.yes (by simp[yieldD,r18]) ?_
  go_wp2_with fail
  exact⟨rfl,Ext.refl _,rfl⟩
 case o21=>
  intro xv W hE hp
  have r18:xv 18=_:=hp.1
  have r20:xv 20=_:=hp.2.1
  clear hp
  simp only[putD,zC,zB,zE,zD,Act.put,zM,zO,zN]
  refine OpGoal.yes (by simp[yieldD,r18]) ?_
  have hrr:=(HB11.out.ext ((Ext.drew w11).trans hE)).rng.1
  refine load_R rfl _ rfl g1 0 _ hrr rfl r20 ?_
  go_wp2_with fail
  exact⟨rfl,Ext.refl _,rfl⟩
 case o22=>
  intro xv W hE hp
  have r18:xv 18=_:=hp.1
  clear hp
  simp only[putD,zC,zB,zE,zD,Act.put,zM,zO,zN]
  refine OpGoal.yes (by simp[yieldD,r18]) ?_
  go_wp2_with fail
  exact⟨rfl,Ext.refl _,rfl⟩
 case o23=>
  intro xv W hE hp
  have r18:xv 18=_:=hp.1
  have r22:xv 22=_:=hp.2.1
  clear hp
  simp only[putD,zC,zB,zE,zD,Act.put,zM,zO,zN]
  refine OpGoal.yes (by simp[yieldD,r18]) ?_
  go_wp2_with fail
  exact⟨rfl,Ext.refl _,rfl⟩
 case o24=>
  intro xv W hE hp
  have r18:xv 18=_:=hp.1
  have r23:xv 23=_:=hp.2.1
  clear hp
  simp only[putD,zC,zB,zE,zD,Act.put,zM,zO,zN]
  refine OpGoal.yes (by simp[yieldD,r18]) ?_
  have hrr:=(HB11.out.ext ((Ext.drew w11).trans hE)).rng.1
  refine load_R rfl _ rfl g1 0 _ hrr rfl r23 ?_
  go_wp2_with fail
  exact⟨rfl,Ext.refl _,rfl⟩
 case o25=>
  intro xv W hE hp
  have r18:xv 18=_:=hp.1
  have r21:xv 21=_:=hp.2.1
  have r24:xv 24=_:=hp.2.2.1
  clear hp
  simp only[putD,zC,zB,zE,zD,Act.put,zM,zO,zN]
  refine OpGoal.yes (by simp[yieldD,r18]) ?_
  go_wp2_with fail
  have hB9:=HB11.out.ext ((Ext.drew w11).trans hE)
  refine(RSame_any u1 u1 d1 W (hB9.k1.more fun b hb=>hb.1) (hB9.k1.more fun b hb=>hb.1) (by rw[HU1.out];exact roA.2) (by rw[HU1.out];exact roA.2)).mono ?_
  rintro e w' ⟨rfl,hE9⟩
  rw[HU1.out,f9]
  go_wp2_with fail
  exact⟨rfl,hE9,rfl⟩
 case o26|o27=>
  intro xv W hE hp
  try have q0:xv _=_:=hp.1
  try have q1:xv _=_:=hp.2.1
  clear hp
  simp only[putD,zC,zB,zE,zD,Act.put,zM,zO,zN]
  refine OpGoal.plain ?_
  go_wp2_with fail
  exact⟨rfl,Ext.refl _,rfl⟩
 case o28=>
  intro xv W hE hp
  have r27:xv 27=_:=hp.1
  clear hp
  simp only[putD,zC,zB,zE,zD,Act.put,zM,zO,zN]
  refine OpGoal.yes (by simp[yieldD,r27]) ?_
  go_wp2_with fail
  exact⟨rfl,Ext.refl _,rfl⟩
 case o29=>
  intro xv W hE hp
  have r27:xv 27=_:=hp.1
  have r28:xv 28=_:=hp.2.1
  clear hp
  simp only[putD,zC,zB,zE,zD,Act.put,zM,zO,zN]
  refine OpGoal.yes (by simp[yieldD,r27]) ?_
  go_wp2_with fail
  exact⟨rfl,Ext.refl _,rfl⟩
 case o30=>
  intro xv W hE hp
  have r27:xv 27=_:=hp.1
  have r29:xv 29=_:=hp.2.1
  clear hp
  simp only[putD,zC,zB,zE,zD,Act.put,zM,zO,zN]
  refine OpGoal.yes (by simp[yieldD,r27]) ?_
  have hrr:=(HB11.out.ext ((Ext.drew w11).trans hE)).rng.1
  refine load_R rfl _ rfl g1 0 _ hrr rfl r29 ?_
  go_wp2_with fail
  exact⟨rfl,Ext.refl _,rfl⟩
 case o31=>
  intro xv W hE hp
  have r27:xv 27=_:=hp.1
  clear hp
  simp only[putD,zC,zB,zE,zD,Act.put,zM,zO,zN]
  refine OpGoal.yes (by simp[yieldD,r27]) ?_
  go_wp2_with fail
  exact⟨rfl,Ext.refl _,rfl⟩
 case o32=>
  intro xv W hE hp
  have r27:xv 27=_:=hp.1
  have r31:xv 31=_:=hp.2.1
  clear hp
  simp only[putD,zC,zB,zE,zD,Act.put,zM,zO,zN]
  refine OpGoal.yes (by simp[yieldD,r27]) ?_
  go_wp2_with fail
  exact⟨rfl,Ext.refl _,rfl⟩
 case o33=>
  intro xv W hE hp
  have r27:xv 27=_:=hp.1
  have r32:xv 32=_:=hp.2.1
  clear hp
  simp only[putD,zC,zB,zE,zD,Act.put,zM,zO,zN]
  refine OpGoal.yes (by simp[yieldD,r27]) ?_
  have hrr:=(HB11.out.ext ((Ext.drew w11).trans hE)).rng.2
  refine load_R rfl _ rfl g1 30 _ hrr rfl r32 ?_
  go_wp2_with fail
  exact⟨rfl,Ext.refl _,rfl⟩
 case o34=>
  intro xv W hE hp
  have r27:xv 27=_:=hp.1
  have r30:xv 30=_:=hp.2.1
  have r33:xv 33=_:=hp.2.2.1
  clear hp
  simp only[putD,zC,zB,zE,zD,Act.put,zM,zO,zN]
  refine OpGoal.yes (by simp[yieldD,r27]) ?_
  go_wp2_with fail
  have hB9:=HB11.out.ext ((Ext.drew w11).trans hE)
  refine(RSame_any u1 v1 d1 W (hB9.k1.more fun b hb=>hb.1) (hB9.k2.more fun b hb=>hb.1) (by rw[HU1.out];exact roA.2) (by rw[HV1.out];exact roB.2)).mono ?_
  rintro e w' ⟨rfl,hE9⟩
  rw[HU1.out,HV1.out,f9n]
  go_wp2_with fail
  exact⟨rfl,hE9,rfl⟩
 case o35=>
  intro xv W hE hp
  have r27:xv 27=_:=hp.1
  have r34:xv 34=_:=hp.2.1
  clear hp
  simp only[putD,zC,zB,zE,zD,Act.put,zM,zO,zN]
  refine OpGoal.yes (by simp[yieldD,r27]) ?_
  go_wp2_with fail
  exact⟨rfl,Ext.refl _,rfl⟩
 case o36=>
  intro xv W hE hp
  have r27:xv 27=_:=hp.1
  have r35:xv 35=_:=hp.2.1
  clear hp
  simp only[putD,zC,zB,zE,zD,Act.put,zM,zO,zN]
  refine OpGoal.plain ?_
  go_wp2_with fail
  exact⟨rfl,Ext.refl _,rfl⟩
 case last=>
  intro xv W hE hp
  have r0:xv 0=_:=hp.1
  have r1:xv 1=_:=hp.2.1
  have r2:xv 2=_:=hp.2.2.1
  have r3:xv 3=_:=hp.2.2.2.1
  obtain⟨g4,u4,v4,d4,r4,HU4,HV4,h4⟩:=hp.2.2.2.2.1
  have r5:xv 5=_:=hp.2.2.2.2.2.1
  have r6:xv 6=_:=hp.2.2.2.2.2.2.1
  have r7:xv 7=_:=hp.2.2.2.2.2.2.2.1
  obtain⟨g8,r8,h8⟩:=hp.2.2.2.2.2.2.2.2.1
  obtain⟨A9,c9,d9,r9,ha9,hb9,h9⟩:=hp.2.2.2.2.2.2.2.2.2.1
  have r10:xv 10=_:=hp.2.2.2.2.2.2.2.2.2.2.1
  have r11:xv 11=_:=hp.2.2.2.2.2.2.2.2.2.2.2.1
  have r12:xv 12=_:=hp.2.2.2.2.2.2.2.2.2.2.2.2.1
  have r13:xv 13=_:=hp.2.2.2.2.2.2.2.2.2.2.2.2.2.1
  have r14:xv 14=_:=hp.2.2.2.2.2.2.2.2.2.2.2.2.2.2.1
  have r15:xv 15=_:=hp.2.2.2.2.2.2.2.2.2.2.2.2.2.2.2.1
  have r16:xv 16=_:=hp.2.2.2.2.2.2.2.2.2.2.2.2.2.2.2.2.1
  have r17:xv 17=_:=hp.2.2.2.2.2.2.2.2.2.2.2.2.2.2.2.2.2.1
  have r18:xv 18=_:=hp.2.2.2.2.2.2.2.2.2.2.2.2.2.2.2.2.2.2.1
  have r19:xv 19=_:=hp.2.2.2.2.2.2.2.2.2.2.2.2.2.2.2.2.2.2.2.1
  have r20:xv 20=_:=hp.2.2.2.2.2.2.2.2.2.2.2.2.2.2.2.2.2.2.2.2.1
  have r21:xv 21=_:=hp.2.2.2.2.2.2.2.2.2.2.2.2.2.2.2.2.2.2.2.2.2.1
  have r22:xv 22=_:=hp.2.2.2.2.2.2.2.2.2.2.2.2.2.2.2.2.2.2.2.2.2.2.1
  have r23:xv 23=_:=hp.2.2.2.2.2.2.2.2.2.2.2.2.2.2.2.2.2.2.2.2.2.2.2.1
  have r24:xv 24=_:=hp.2.2.2.2.2.2.2.2.2.2.2.2.2.2.2.2.2.2.2.2.2.2.2.2.1
  have r25:xv 25=_:=hp.2.2.2.2.2.2.2.2.2.2.2.2.2.2.2.2.2.2.2.2.2.2.2.2.2.1
  have r26:xv 26=_:=hp.2.2.2.2.2.2.2.2.2.2.2.2.2.2.2.2.2.2.2.2.2.2.2.2.2.2.1
  have r27:xv 27=_:=hp.2.2.2.2.2.2.2.2.2.2.2.2.2.2.2.2.2.2.2.2.2.2.2.2.2.2.2.1
  have r28:xv 28=_:=hp.2.2.2.2.2.2.2.2.2.2.2.2.2.2.2.2.2.2.2.2.2.2.2.2.2.2.2.2.1
  have r29:xv 29=_:=hp.2.2.2.2.2.2.2.2.2.2.2.2.2.2.2.2.2.2.2.2.2.2.2.2.2.2.2.2.2.1
  have r30:xv 30=_:=hp.2.2.2.2.2.2.2.2.2.2.2.2.2.2.2.2.2.2.2.2.2.2.2.2.2.2.2.2.2.2.1
  have r31:xv 31=_:=hp.2.2.2.2.2.2.2.2.2.2.2.2.2.2.2.2.2.2.2.2.2.2.2.2.2.2.2.2.2.2.2.1
  have r32:xv 32=_:=hp.2.2.2.2.2.2.2.2.2.2.2.2.2.2.2.2.2.2.2.2.2.2.2.2.2.2.2.2.2.2.2.2.1
  have r33:xv 33=_:=hp.2.2.2.2.2.2.2.2.2.2.2.2.2.2.2.2.2.2.2.2.2.2.2.2.2.2.2.2.2.2.2.2.2.1
  have r34:xv 34=_:=hp.2.2.2.2.2.2.2.2.2.2.2.2.2.2.2.2.2.2.2.2.2.2.2.2.2.2.2.2.2.2.2.2.2.2.1
  have r35:xv 35=_:=hp.2.2.2.2.2.2.2.2.2.2.2.2.2.2.2.2.2.2.2.2.2.2.2.2.2.2.2.2.2.2.2.2.2.2.2.1
  have r36:xv 36=_:=hp.2.2.2.2.2.2.2.2.2.2.2.2.2.2.2.2.2.2.2.2.2.2.2.2.2.2.2.2.2.2.2.2.2.2.2.2.1
  clear hp
  simp only[putD,zC,zB,zE,zD,Act.put,zG,zH,List.range_succ,List.range_zero,zK,zA,zM,zO,zN]
  have hE12:=(Ext.drew w11).trans hE
  have HB12:=zU (HB11.out.ext hE12)
  have HE12:=zU (HE11.out.trans hE12)
  rw[r36]
  clear r0 r1 r2 r3 r4 r5 r6 r7 r8 r9 r10 r11 r12 r13 r14 r15 r16 r17 r18 r19 r20 r21 r22 r23 r24 r25 r26 r27 r28 r29 r30 r31 r32 r33 r34 r35 r36
  have hT12:=HT.out.ext HE12.out
  have TX:=zU (TextL_any [exA,exB] (some ⟨g1,0,none⟩) 2 d1 W (HB12.out.rlb HU1.out HV1.out) (by decide) (by decide) (by decide) (all2 roA.1 roB.1) hT12 (tabsE hT12))
  unfold TextR at TX
  rw[txL_of f6]at TX
  have hpb:=parse_back f6
  have hlen:=chk_texts f6
  obtain⟨t,ht⟩ :∃q,textsL [exA,exB]=q:=⟨_,rfl⟩
  rw[ht]at TX hpb hlen
  clear ht hT12
  go_wp2_with fail
  refine TX.out.mono ?_
  rintro e w13 ⟨rfl,hE13⟩
  have HB13:=zU (HB12.out.ext hE13)
  have HE13:=zU (HE12.out.trans hE13)
  clear hE13 TX
  have PL:=zU (ParseL_any t (by omega) w13 (HT.out.ext HE13.out))
  unfold ParseQL at PL
  rw[hpb]at PL
  obtain⟨D,hD⟩ :∃D:ByteArray,(⟨t.toArray⟩:ByteArray)=D:=⟨_,rfl⟩
  rw[hD]at PL
  rw[hD]
  clear hpb hlen hD
  go_wp2_with fail
  refine PL.out.mono ?_
  rintro e w14 ⟨A14,c14,d14,rfl,hX14,hc14,hk14,hE14⟩
  have HX14:=zU hX14
  have HK14:=zU hk14
  have HB14:=zU (HB13.out.ext hE14)
  have HE14:=zU (HE13.out.trans hE14)
  clear hX14 hk14 hE14 PL
  simp only[zG,zH]
  go_wp2_with fail
  refine(rSameAll_any [exA,exB] [exA,exB] A14 (some ⟨g1,0,none⟩) c14 2 (d14+d1) w14 ((HX14.out.more fun b hb=>hb.2).deep (zP _ _)) ((HB14.out.rlb HU1.out HV1.out).deep (Nat.le_add_left _ _)) (by decide) (by decide) (fun r hr=>(HK14.out r hr).2) (all2 roA.2 roB.2)).mono ?_
  rintro e w15 ⟨rfl,hE15⟩
  have HE15:=zU (HE14.out.trans hE15)
  rw[(sameL_iff [exA,exB] [exA,exB]).2 rfl]
  clear hE15
  go_wp2_with fail
  go_ret
  exact⟨rfl,HE15.out⟩
end Go.Proofs.YtmiencglfhpmeaaGreatDoor
namespace Go.Proofs.YtmiencglfhpmeaaGreatDoor
open Go.RowKit Hach
theorem num_rt {n:Int}(h : -1073741824≤n∧n≤1073741824):Rt (numE n) 1:=Rt.con ⟨1,n,false,[]⟩ (by unfold vlRight;simp[h.1,h.2])
theorem var_rt {v t:Int}(h:1≤v∧v≤9) (ht:varTy v=t):Rt (varE v) t:=ht▸Rt.var v h
def szC:Nat→Nat
 | 0=>3
 | n+1=>1+2*szC n
def szA:Nat→Nat
 | 0=>1
 | n+1=>5+2*szA n
theorem szC_pos :∀n,3≤szC n
 | 0=>zQ _
 | n+1=>by have:=szC_pos n;unfold szC;omega
theorem szA_pos :∀n,1≤szA n
 | 0=>zQ _
 | n+1=>by have:=szA_pos n;unfold szA;omega
theorem Mk1.of {r:Rl}(hp:0≤r.pr∧r.pr≤1000) (h1:Rt r.e1 2) (s1:r.e1.size≤60) (h2:Rt r.e2 1) (s2:r.e2.size≤60) (h3:Rt r.e3 1) (s3:r.e3.size≤60) (h4:Rt r.e4 1) (s4:r.e4.size≤60):Mk1 r:=
 ⟨hp,tyE_of h1 s1,tyE_of h2 s2,tyE_of h3 s3,tyE_of h4 s4⟩
theorem Mk.first {r:Rl}(hn:r.nm=[97,108,108]) (hp:r.pr=0) (h1:r.e1=yesE) (ho:Mk1 r):Mk [r]:=by
 refine⟨by simp,by simp,by simp[hn,nmsL],fun s hs=>?_,fun s hs=>?_⟩
 ·rw[zJ]at hs;subst hs;exact ho
 ·simp only[zF,zS]at hs;subst hs;exact⟨h1,hp⟩
theorem Mk.snoc {l:List Rl}(h:Mk l) {r:Rl}(hl:l.length<4) (hn:r.nm=nmsL.getD l.length []) (ho:Mk1 r):Mk (l++[r]):=by
 refine⟨by simp,by simp;omega,?_,fun s hs=>?_,fun s hs=>?_⟩
 ·rw[List.map_append,h.nms,List.length_append,List.length_singleton,List.take_add_one]
  congr 1
  have:nmsL.length=4:=rfl
  have h2:nmsL[l.length]?=some (nmsL.getD l.length []):=by
   rw[List.getD_eq_getElem?_getD,List.getElem?_eq_getElem (by omega)];rfl
  rw[h2,List.map_singleton,hn];rfl
 ·rcases List.mem_append.1 hs with hs|hs
  ·exact h.one s hs
  ·rw[zJ]at hs;subst hs;exact ho
 ·rw[List.getElem?_append_left h.pos]at hs;exact h.yes s hs
theorem mk1_ok {r:Rl}(h:Mk1 r) (hn:nmOk r.nm=true):r.ok∧r.small:=by
 have hl:=rlnm_len hn
 have hp:=h.pr
 exact rl_ok0 (by omega) ⟨by omega,by omega⟩ (tyE_zero h.e1).1 (tyE_zero h.e2).1 (tyE_zero h.e3).1 (tyE_zero h.e4).1
theorem Mk.ok {l:List Rl}(h:Mk l) :∀r∈l,r.ok∧r.small:=fun r hr=>mk1_ok (h.one r hr) (nms_ok _ (h.nm_in hr))
end Go.Proofs.YtmiencglfhpmeaaGreatDoor
namespace Go.Proofs.YtmiencglfhpmeaaGreatDoor
open Go.RowKit Hach
theorem size_0' (o v t n:Int) (b:Bool) (s:List UInt8):(Ex.mk o v t n b s []).size=1:=by rw[Ex.size];simp[Ex.sizes]
theorem num_size (n:Int):(numE n).size=1:=size_0' _ _ _ _ _ _
theorem var_size (n:Int):(varE n).size=1:=size_0' _ _ _ _ _ _
theorem word_size (s:List UInt8):(wordE s).size=1:=size_0' _ _ _ _ _ _
set_option maxRecDepth 100000 in
set_option maxHeartbeats 16000000 in
theorem compared_any (b:Nat) (w:World) (hD:DrA w b):Calls Tryz.prog 74 #[dp b] w (MadeR 2 3 b w):=by
 have hbl:=hD.lt
 have hz0:=Z7.new w
 obtain⟨w0,hw0⟩ :∃w0,w.alloc (.cells zero7 47)=w0:=⟨_,rfl⟩
 have hE0:Ext w w0:=by rw[←hw0];exact Ext.alloc _ _
 have hs0:w0.heap.size=w.heap.size+1:=by rw[←hw0];simp
 rw[hw0]at hz0
 have hD0:=hD.ext hE0
 have HW:=zU hw0
 have hs0':w.heap.size+1≤w0.heap.size:=by omega
 have hG0:w.grownBy w0 (some b):=grown_of hE0 _
 have DN:=zU (fun(m:Int) (W:World) (h:DrA W b) (h1:0<m) (h2:m<4294967296)=>draw_any m b W h h1 h2)
 have NU:=zU (fun(n:Int) (W:World)=>number_any' n W)
 have VA:=zU (fun(n:Int) (W:World)=>var_any' n W)
 have WO:=zU (fun(s:List UInt8) (W:World)=>word_any' s W)
 unfold New0 at NU VA WO
 unfold zero7 at HW
 unfold dp at *
 clear hw0 hs0 hD
 go_enter Tryz.func74,Tryz.ntmps74
 go_upto_region 1 with fail
 rw[HW.out]
 go_wp2_with fail
 refine(DN.out 9 _ hD0 (by decide) (by decide)).mono ?_
 rintro e w1 ⟨k1,p1,q1,rfl,hD1,hg1⟩
 have hG1:=grown_trans hG0 hg1
 have hz1:=hz0.own hg1 (by simp;omega)
 have hw1:w0.heap.size≤w1.heap.size:=hg1.size
 rcases(by omega:k1=0∨k1=1∨k1=2∨k1=3∨k1=4∨k1=5∨k1=6∨k1=7∨k1=8) with rfl|rfl|rfl|rfl|rfl|rfl|rfl|rfl|rfl
 ·go_wp2_with fail
  refine(VA.out 1 _).mono ?_
  rintro e w2 ⟨rfl,hE2⟩
  have hD2:=hD1.ext hE2
  have hz2:=hz1.ext hE2
  have hG2:=grown_trans hG1 (grown_of hE2 _)
  have hw2:w1.heap.size≤w2.heap.size:=hE2.sz
  unfold Ex.cells
  go_wp2_with fail
  refine(DN.out 3 _ hD2 (by decide) (by decide)).mono ?_
  rintro e w3 ⟨k3,p3,q3,rfl,hD3,hg3⟩
  have hG3:=grown_trans hG2 hg3
  have hz3:=hz2.own hg3 (by simp;omega)
  have hw3:w2.heap.size≤w3.heap.size:=hg3.size
  go_wp2_with fail
  refine(NU.out (1+k3) _).mono ?_
  rintro e w4 ⟨rfl,hE4⟩
  have hD4:=hD3.ext hE4
  have hz4:=hz3.ext hE4
  have hG4:=grown_trans hG3 (grown_of hE4 _)
  have hw4:w3.heap.size≤w4.heap.size:=hE4.sz
  unfold Ex.cells
  have hEf:Ext w4 (w4.alloc (.cells #[.int .i64 ((varE 1)).op,.int .i64 ((varE 1)).var,.int .i64 ((varE 1)).ty,.int .i64 ((varE 1)).n,.bool ((varE 1)).b,.string ⟨((varE 1)).s.toArray⟩,.slice none ((varE 1)).l.length 0,.int .i64 ((numE (1+k3))).op,.int .i64 ((numE (1+k3))).var,.int .i64 ((numE (1+k3))).ty,.int .i64 ((numE (1+k3))).n,.bool ((numE (1+k3))).b,.string ⟨((numE (1+k3))).s.toArray⟩,.slice none ((numE (1+k3))).l.length 0] 47)):=Ext.alloc _ _
  have hzf:=hz4.ext hEf
  obtain⟨u0,u1,u2,u3,u4,u5,u6⟩:=hzf.cells
  obtain⟨f0,f1,f2,f3,f4,f5,f6⟩:=hzf.free
  go_wp2_with fail
  refine made_fin (N:=3) rfl (6) [⟨(varE 1),none,0⟩,⟨(numE (1+k3)),none,0⟩] 0 (Rt.eq 1 _ _ (var_rt (v:=1) (t:=1) (by decide) (by decide)) (num_rt (by omega))) (by show(Ex.mk _ 0 0 0 false [] [(varE 1),(numE (1+k3))]).size≤3;rw[size_2'];simp only[num_size,var_size,word_size];omega) hzf hbl (hD4.ext hEf) (grown_trans hG4 (grown_of hEf _)) ?_ w4.heap.size ⟨by omega,by simp⟩ ?_ 2 rfl rfl
  ·intro u hu
   simp only[zI,zL,or_false]at hu
   rcases hu with rfl|rfl<;>exact ExL.nil _ _ _ _
  ·intro i v hi
   rw[World.cell?_alloc_new]
   simpa[Nd.cells,Ex.cells]using hi
 ·go_wp2_with fail
  refine(VA.out 2 _).mono ?_
  rintro e w2 ⟨rfl,hE2⟩
  have hD2:=hD1.ext hE2
  have hz2:=hz1.ext hE2
  have hG2:=grown_trans hG1 (grown_of hE2 _)
  have hw2:w1.heap.size≤w2.heap.size:=hE2.sz
  unfold Ex.cells
  have hEr:Ext w2 (w2.alloc (.cells #[.string ⟨#[112,97,114,107]⟩,.string ⟨#[112,97,116,104]⟩,.string ⟨#[116,114,101,101]⟩] 9)):=Ext.alloc _ _
  go_wp2_with fail
  refine(DN.out 3 _ (hD2.ext hEr) (by decide) (by decide)).mono ?_
  rintro e w3 ⟨k3,p3,q3,rfl,hD3,hg3⟩
  obtain⟨k3,rfl⟩:=zT p3
  have hG3:=grown_trans (grown_trans hG2 (grown_of hEr _)) hg3
  have hz3:=(hz2.ext hEr).own hg3 (by simp;omega)
  have hw3:w2.heap.size≤w3.heap.size:=zR hEr.sz hg3.size
  have hbr:b<w2.heap.size:=by omega
  have hv :∃s:List UInt8,w3.cell? ⟨w2.heap.size,k3,none⟩=some (.string ⟨s.toArray⟩)∧vlRight ⟨3,0,false,s⟩=true:=by
   have key :∀v,(#[.string ⟨#[112,97,114,107]⟩,.string ⟨#[112,97,116,104]⟩,.string ⟨#[116,114,101,101]⟩]:Array Value)[k3]?=some v→w3.cell? ⟨w2.heap.size,k3,none⟩=some v:=fun v hv=>by
    rw[grown_cell hg3 (by simp) (by simp;omega),World.cell?_alloc_new];exact hv
   rcases(by omega:k3=0∨k3=1∨k3=2) with rfl|rfl|rfl<;>exact⟨_,key _ rfl,by decide⟩
  obtain⟨s,hv,hr⟩:=hv
  have HR:=zU hr
  clear hr
  go_wp2_with fail
  refine(WO.out s _).mono ?_
  rintro e w4 ⟨rfl,hE4⟩
  have hD4:=hD3.ext hE4
  have hz4:=hz3.ext hE4
  have hG4:=grown_trans hG3 (grown_of hE4 _)
  have hw4:w3.heap.size≤w4.heap.size:=hE4.sz
  unfold Ex.cells
  have hEf:Ext w4 (w4.alloc (.cells #[.int .i64 ((varE 2)).op,.int .i64 ((varE 2)).var,.int .i64 ((varE 2)).ty,.int .i64 ((varE 2)).n,.bool ((varE 2)).b,.string ⟨((varE 2)).s.toArray⟩,.slice none ((varE 2)).l.length 0,.int .i64 ((wordE s)).op,.int .i64 ((wordE s)).var,.int .i64 ((wordE s)).ty,.int .i64 ((wordE s)).n,.bool ((wordE s)).b,.string ⟨((wordE s)).s.toArray⟩,.slice none ((wordE s)).l.length 0] 47)):=Ext.alloc _ _
  have hzf:=hz4.ext hEf
  obtain⟨u0,u1,u2,u3,u4,u5,u6⟩:=hzf.cells
  obtain⟨f0,f1,f2,f3,f4,f5,f6⟩:=hzf.free
  go_wp2_with fail
  refine made_fin (N:=3) rfl (6) [⟨(varE 2),none,0⟩,⟨(wordE s),none,0⟩] 0 (Rt.eq 3 _ _ (var_rt (v:=2) (t:=3) (by decide) (by decide)) (Rt.con ⟨3,0,false,s⟩ HR.out)) (by show(Ex.mk _ 0 0 0 false [] [(varE 2),(wordE s)]).size≤3;rw[size_2'];simp only[num_size,var_size,word_size];omega) hzf hbl (hD4.ext hEf) (grown_trans hG4 (grown_of hEf _)) ?_ w4.heap.size ⟨by omega,by simp⟩ ?_ 2 rfl rfl
  ·intro u hu
   simp only[zI,zL,or_false]at hu
   rcases hu with rfl|rfl<;>exact ExL.nil _ _ _ _
  ·intro i v hi
   rw[World.cell?_alloc_new]
   simpa[Nd.cells,Ex.cells]using hi
 ·go_wp2_with fail
  refine(VA.out 4 _).mono ?_
  rintro e w2 ⟨rfl,hE2⟩
  have hD2:=hD1.ext hE2
  have hz2:=hz1.ext hE2
  have hG2:=grown_trans hG1 (grown_of hE2 _)
  have hw2:w1.heap.size≤w2.heap.size:=hE2.sz
  unfold Ex.cells
  go_wp2_with fail
  refine(DN.out 20 _ hD2 (by decide) (by decide)).mono ?_
  rintro e w3 ⟨k3,p3,q3,rfl,hD3,hg3⟩
  have hG3:=grown_trans hG2 hg3
  have hz3:=hz2.own hg3 (by simp;omega)
  have hw3:w2.heap.size≤w3.heap.size:=hg3.size
  go_wp2_with fail
  refine(NU.out k3 _).mono ?_
  rintro e w4 ⟨rfl,hE4⟩
  have hD4:=hD3.ext hE4
  have hz4:=hz3.ext hE4
  have hG4:=grown_trans hG3 (grown_of hE4 _)
  have hw4:w3.heap.size≤w4.heap.size:=hE4.sz
  unfold Ex.cells
  have hEf:Ext w4 (w4.alloc (.cells #[.int .i64 ((varE 4)).op,.int .i64 ((varE 4)).var,.int .i64 ((varE 4)).ty,.int .i64 ((varE 4)).n,.bool ((varE 4)).b,.string ⟨((varE 4)).s.toArray⟩,.slice none ((varE 4)).l.length 0,.int .i64 ((numE k3)).op,.int .i64 ((numE k3)).var,.int .i64 ((numE k3)).ty,.int .i64 ((numE k3)).n,.bool ((numE k3)).b,.string ⟨((numE k3)).s.toArray⟩,.slice none ((numE k3)).l.length 0] 47)):=Ext.alloc _ _
  have hzf:=hz4.ext hEf
  obtain⟨u0,u1,u2,u3,u4,u5,u6⟩:=hzf.cells
  obtain⟨f0,f1,f2,f3,f4,f5,f6⟩:=hzf.free
  go_wp2_with fail
  refine made_fin (N:=3) rfl (7) [⟨(varE 4),none,0⟩,⟨(numE k3),none,0⟩] 0 (Rt.less _ _ (var_rt (v:=4) (t:=1) (by decide) (by decide)) (num_rt (by omega))) (by show(Ex.mk _ 0 0 0 false [] [(varE 4),(numE k3)]).size≤3;rw[size_2'];simp only[num_size,var_size,word_size];omega) hzf hbl (hD4.ext hEf) (grown_trans hG4 (grown_of hEf _)) ?_ w4.heap.size ⟨by omega,by simp⟩ ?_ 2 rfl rfl
  ·intro u hu
   simp only[zI,zL,or_false]at hu
   rcases hu with rfl|rfl<;>exact ExL.nil _ _ _ _
  ·intro i v hi
   rw[World.cell?_alloc_new]
   simpa[Nd.cells,Ex.cells]using hi
 ·have hEr:Ext w1 (w1.alloc (.cells #[.int .i64 2,.int .i64 5,.int .i64 20,.int .i64 100] 3)):=Ext.alloc _ _
  go_wp2_with fail
  refine(DN.out 4 _ (hD1.ext hEr) (by decide) (by decide)).mono ?_
  rintro e w2 ⟨k2,p2,q2,rfl,hD2,hg2⟩
  obtain⟨k2,rfl⟩:=zT p2
  have hG2:=grown_trans (grown_trans hG1 (grown_of hEr _)) hg2
  have hz2:=(hz1.ext hEr).own hg2 (by simp;omega)
  have hw2:w1.heap.size≤w2.heap.size:=zR hEr.sz hg2.size
  have hbr:b<w1.heap.size:=by omega
  have hv :∃n:Int,w2.cell? ⟨w1.heap.size,k2,none⟩=some (.int .i64 n)∧(-1073741824≤n∧n≤1073741824):=by
   have key :∀v,(#[.int .i64 2,.int .i64 5,.int .i64 20,.int .i64 100]:Array Value)[k2]?=some v→w2.cell? ⟨w1.heap.size,k2,none⟩=some v:=fun v hv=>by
    rw[grown_cell hg2 (by simp) (by simp;omega),World.cell?_alloc_new];exact hv
   rcases(by omega:k2=0∨k2=1∨k2=2∨k2=3) with rfl|rfl|rfl|rfl<;>exact⟨_,key _ rfl,by decide⟩
  obtain⟨n,hv,hn⟩:=hv
  go_wp2_with fail
  refine(NU.out n _).mono ?_
  rintro e w3 ⟨rfl,hE3⟩
  have hD3:=hD2.ext hE3
  have hz3:=hz2.ext hE3
  have hG3:=grown_trans hG2 (grown_of hE3 _)
  have hw3:w2.heap.size≤w3.heap.size:=hE3.sz
  unfold Ex.cells
  go_wp2_with fail
  refine(VA.out 7 _).mono ?_
  rintro e w4 ⟨rfl,hE4⟩
  have hD4:=hD3.ext hE4
  have hz4:=hz3.ext hE4
  have hG4:=grown_trans hG3 (grown_of hE4 _)
  have hw4:w3.heap.size≤w4.heap.size:=hE4.sz
  unfold Ex.cells
  have hEf:Ext w4 (w4.alloc (.cells #[.int .i64 ((numE n)).op,.int .i64 ((numE n)).var,.int .i64 ((numE n)).ty,.int .i64 ((numE n)).n,.bool ((numE n)).b,.string ⟨((numE n)).s.toArray⟩,.slice none ((numE n)).l.length 0,.int .i64 ((varE 7)).op,.int .i64 ((varE 7)).var,.int .i64 ((varE 7)).ty,.int .i64 ((varE 7)).n,.bool ((varE 7)).b,.string ⟨((varE 7)).s.toArray⟩,.slice none ((varE 7)).l.length 0] 47)):=Ext.alloc _ _
  have hzf:=hz4.ext hEf
  obtain⟨u0,u1,u2,u3,u4,u5,u6⟩:=hzf.cells
  obtain⟨f0,f1,f2,f3,f4,f5,f6⟩:=hzf.free
  go_wp2_with fail
  refine made_fin (N:=3) rfl (7) [⟨(numE n),none,0⟩,⟨(varE 7),none,0⟩] 0 (Rt.less _ _ (num_rt hn) (var_rt (v:=7) (t:=1) (by decide) (by decide))) (by show(Ex.mk _ 0 0 0 false [] [(numE n),(varE 7)]).size≤3;rw[size_2'];simp only[num_size,var_size,word_size];omega) hzf hbl (hD4.ext hEf) (grown_trans hG4 (grown_of hEf _)) ?_ w4.heap.size ⟨by omega,by simp⟩ ?_ 2 rfl rfl
  ·intro u hu
   simp only[zI,zL,or_false]at hu
   rcases hu with rfl|rfl<;>exact ExL.nil _ _ _ _
  ·intro i v hi
   rw[World.cell?_alloc_new]
   simpa[Nd.cells,Ex.cells]using hi
 ·go_wp2_with fail
  refine(VA.out 5 _).mono ?_
  rintro e w2 ⟨rfl,hE2⟩
  have hD2:=hD1.ext hE2
  have hz2:=hz1.ext hE2
  have hG2:=grown_trans hG1 (grown_of hE2 _)
  have hw2:w1.heap.size≤w2.heap.size:=hE2.sz
  unfold Ex.cells
  go_wp2_with fail
  refine(DN.out 3 _ hD2 (by decide) (by decide)).mono ?_
  rintro e w3 ⟨k3,p3,q3,rfl,hD3,hg3⟩
  have hG3:=grown_trans hG2 hg3
  have hz3:=hz2.own hg3 (by simp;omega)
  have hw3:w2.heap.size≤w3.heap.size:=hg3.size
  go_wp2_with fail
  refine(NU.out (k3-1) _).mono ?_
  rintro e w4 ⟨rfl,hE4⟩
  have hD4:=hD3.ext hE4
  have hz4:=hz3.ext hE4
  have hG4:=grown_trans hG3 (grown_of hE4 _)
  have hw4:w3.heap.size≤w4.heap.size:=hE4.sz
  unfold Ex.cells
  have hEf:Ext w4 (w4.alloc (.cells #[.int .i64 ((varE 5)).op,.int .i64 ((varE 5)).var,.int .i64 ((varE 5)).ty,.int .i64 ((varE 5)).n,.bool ((varE 5)).b,.string ⟨((varE 5)).s.toArray⟩,.slice none ((varE 5)).l.length 0,.int .i64 ((numE (k3-1))).op,.int .i64 ((numE (k3-1))).var,.int .i64 ((numE (k3-1))).ty,.int .i64 ((numE (k3-1))).n,.bool ((numE (k3-1))).b,.string ⟨((numE (k3-1))).s.toArray⟩,.slice none ((numE (k3-1))).l.length 0] 47)):=Ext.alloc _ _
  have hzf:=hz4.ext hEf
  obtain⟨u0,u1,u2,u3,u4,u5,u6⟩:=hzf.cells
  obtain⟨f0,f1,f2,f3,f4,f5,f6⟩:=hzf.free
  go_wp2_with fail
  refine made_fin (N:=3) rfl (6) [⟨(varE 5),none,0⟩,⟨(numE (k3-1)),none,0⟩] 0 (Rt.eq 1 _ _ (var_rt (v:=5) (t:=1) (by decide) (by decide)) (num_rt (by omega))) (by show(Ex.mk _ 0 0 0 false [] [(varE 5),(numE (k3-1))]).size≤3;rw[size_2'];simp only[num_size,var_size,word_size];omega) hzf hbl (hD4.ext hEf) (grown_trans hG4 (grown_of hEf _)) ?_ w4.heap.size ⟨by omega,by simp⟩ ?_ 2 rfl rfl
  ·intro u hu
   simp only[zI,zL,or_false]at hu
   rcases hu with rfl|rfl<;>exact ExL.nil _ _ _ _
  ·intro i v hi
   rw[World.cell?_alloc_new]
   simpa[Nd.cells,Ex.cells]using hi
 ·go_wp2_with fail
  refine(VA.out 6 _).mono ?_
  rintro e w2 ⟨rfl,hE2⟩
  have hD2:=hD1.ext hE2
  have hz2:=hz1.ext hE2
  have hG2:=grown_trans hG1 (grown_of hE2 _)
  have hw2:w1.heap.size≤w2.heap.size:=hE2.sz
  unfold Ex.cells
  obtain⟨u0,u1,u2,u3,u4,u5,u6⟩:=hz2.cells
  obtain⟨f0,f1,f2,f3,f4,f5,f6⟩:=hz2.free
  go_wp2_with fail
  exact made_leaf_fin rfl (varE 6) (var_rt (v:=6) (t:=2) (by decide) (by decide)) rfl hz2 hbl hD2 hG2 (by decide) rfl
 ·go_wp2_with fail
  refine(VA.out 8 _).mono ?_
  rintro e w2 ⟨rfl,hE2⟩
  have hD2:=hD1.ext hE2
  have hz2:=hz1.ext hE2
  have hG2:=grown_trans hG1 (grown_of hE2 _)
  have hw2:w1.heap.size≤w2.heap.size:=hE2.sz
  unfold Ex.cells
  go_wp2_with fail
  refine(DN.out 24 _ hD2 (by decide) (by decide)).mono ?_
  rintro e w3 ⟨k3,p3,q3,rfl,hD3,hg3⟩
  have hG3:=grown_trans hG2 hg3
  have hz3:=hz2.own hg3 (by simp;omega)
  have hw3:w2.heap.size≤w3.heap.size:=hg3.size
  go_wp2_with fail
  refine(NU.out k3 _).mono ?_
  rintro e w4 ⟨rfl,hE4⟩
  have hD4:=hD3.ext hE4
  have hz4:=hz3.ext hE4
  have hG4:=grown_trans hG3 (grown_of hE4 _)
  have hw4:w3.heap.size≤w4.heap.size:=hE4.sz
  unfold Ex.cells
  have hEf:Ext w4 (w4.alloc (.cells #[.int .i64 ((varE 8)).op,.int .i64 ((varE 8)).var,.int .i64 ((varE 8)).ty,.int .i64 ((varE 8)).n,.bool ((varE 8)).b,.string ⟨((varE 8)).s.toArray⟩,.slice none ((varE 8)).l.length 0,.int .i64 ((numE k3)).op,.int .i64 ((numE k3)).var,.int .i64 ((numE k3)).ty,.int .i64 ((numE k3)).n,.bool ((numE k3)).b,.string ⟨((numE k3)).s.toArray⟩,.slice none ((numE k3)).l.length 0] 47)):=Ext.alloc _ _
  have hzf:=hz4.ext hEf
  obtain⟨u0,u1,u2,u3,u4,u5,u6⟩:=hzf.cells
  obtain⟨f0,f1,f2,f3,f4,f5,f6⟩:=hzf.free
  go_wp2_with fail
  refine made_fin (N:=3) rfl (7) [⟨(varE 8),none,0⟩,⟨(numE k3),none,0⟩] 0 (Rt.less _ _ (var_rt (v:=8) (t:=1) (by decide) (by decide)) (num_rt (by omega))) (by show(Ex.mk _ 0 0 0 false [] [(varE 8),(numE k3)]).size≤3;rw[size_2'];simp only[num_size,var_size,word_size];omega) hzf hbl (hD4.ext hEf) (grown_trans hG4 (grown_of hEf _)) ?_ w4.heap.size ⟨by omega,by simp⟩ ?_ 2 rfl rfl
  ·intro u hu
   simp only[zI,zL,or_false]at hu
   rcases hu with rfl|rfl<;>exact ExL.nil _ _ _ _
  ·intro i v hi
   rw[World.cell?_alloc_new]
   simpa[Nd.cells,Ex.cells]using hi
 ·go_wp2_with fail
  refine(VA.out 9 _).mono ?_
  rintro e w2 ⟨rfl,hE2⟩
  have hD2:=hD1.ext hE2
  have hz2:=hz1.ext hE2
  have hG2:=grown_trans hG1 (grown_of hE2 _)
  have hw2:w1.heap.size≤w2.heap.size:=hE2.sz
  unfold Ex.cells
  go_wp2_with fail
  refine(DN.out 3 _ hD2 (by decide) (by decide)).mono ?_
  rintro e w3 ⟨k3,p3,q3,rfl,hD3,hg3⟩
  have hG3:=grown_trans hG2 hg3
  have hz3:=hz2.own hg3 (by simp;omega)
  have hw3:w2.heap.size≤w3.heap.size:=hg3.size
  go_wp2_with fail
  refine(NU.out (1+k3) _).mono ?_
  rintro e w4 ⟨rfl,hE4⟩
  have hD4:=hD3.ext hE4
  have hz4:=hz3.ext hE4
  have hG4:=grown_trans hG3 (grown_of hE4 _)
  have hw4:w3.heap.size≤w4.heap.size:=hE4.sz
  unfold Ex.cells
  have hEf:Ext w4 (w4.alloc (.cells #[.int .i64 ((varE 9)).op,.int .i64 ((varE 9)).var,.int .i64 ((varE 9)).ty,.int .i64 ((varE 9)).n,.bool ((varE 9)).b,.string ⟨((varE 9)).s.toArray⟩,.slice none ((varE 9)).l.length 0,.int .i64 ((numE (1+k3))).op,.int .i64 ((numE (1+k3))).var,.int .i64 ((numE (1+k3))).ty,.int .i64 ((numE (1+k3))).n,.bool ((numE (1+k3))).b,.string ⟨((numE (1+k3))).s.toArray⟩,.slice none ((numE (1+k3))).l.length 0] 47)):=Ext.alloc _ _
  have hzf:=hz4.ext hEf
  obtain⟨u0,u1,u2,u3,u4,u5,u6⟩:=hzf.cells
  obtain⟨f0,f1,f2,f3,f4,f5,f6⟩:=hzf.free
  go_wp2_with fail
  refine made_fin (N:=3) rfl (6) [⟨(varE 9),none,0⟩,⟨(numE (1+k3)),none,0⟩] 0 (Rt.eq 1 _ _ (var_rt (v:=9) (t:=1) (by decide) (by decide)) (num_rt (by omega))) (by show(Ex.mk _ 0 0 0 false [] [(varE 9),(numE (1+k3))]).size≤3;rw[size_2'];simp only[num_size,var_size,word_size];omega) hzf hbl (hD4.ext hEf) (grown_trans hG4 (grown_of hEf _)) ?_ w4.heap.size ⟨by omega,by simp⟩ ?_ 2 rfl rfl
  ·intro u hu
   simp only[zI,zL,or_false]at hu
   rcases hu with rfl|rfl<;>exact ExL.nil _ _ _ _
  ·intro i v hi
   rw[World.cell?_alloc_new]
   simpa[Nd.cells,Ex.cells]using hi
 ·obtain⟨u0,u1,u2,u3,u4,u5,u6⟩:=hz1.cells
  obtain⟨f0,f1,f2,f3,f4,f5,f6⟩:=hz1.free
  go_wp2_with fail
  exact made_leaf_fin rfl yesE yes_rt rfl hz1 hbl hD1 hG1 (by decide) rfl
end Go.Proofs.YtmiencglfhpmeaaGreatDoor
