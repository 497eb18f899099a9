/- The contracts of style.Same, and of the reference's Same and SameAll. -/
import Derived.Test.YtmiencglfhpmeaaGreatDoorKQSh
import Derived.Test.YtmiencglfhpmeaaGreatDoorKQSa
import Derived.Test.YtmiencglfhpmeaaGreatDoorKQXc
import Derived.Test.YtmiencglfhpmeaaGreatDoorKQXs
import Derived.Test.YtmiencglfhpmeaaGreatDoorKQXq
import Derived.Test.YtmiencglfhpmeaaGreatDoorKQXp
import Derived.Deep.RegionWith
import Derived.IntWalk
import Derived.Test.YtmiencglfhpmeaaGreatDoorKQSe
import Derived.Deep.LoopGhost
open List renaming cons_append → zA, foldl_cons → zB, foldl_nil → zC, getD_cons_succ → zD, getD_cons_zero → zE, getElem_mem → zF, length_append → zG, length_cons → zH, length_eq_zero_iff → zI, length_nil → zJ, nil_append → zK, range_succ → zL, range_zero → zM, setIfInBounds_toArray → zN, set_cons_succ → zO, set_cons_zero → zP
open Nat renaming lt_of_lt_of_le → zQ, lt_trans → zR, zero_add → zS
open Option renaming some.injEq → zT
open Bool renaming not_eq_true → zU
open Go.Lib renaming hid → zV
set_option linter.unusedSimpArgs false
set_option linter.unusedVariables false
namespace Go.Proofs.YtmiencglfhpmeaaGreatDoor
open Go.RowKit Hach
structure Rl.small (r:Rl):Prop where
 s1:r.e1.size<4294967296
 s2:r.e2.size<4294967296
 s3:r.e3.size<4294967296
 s4:r.e4.size<4294967296
theorem small_sizes {r:Rl}(h:r.small):Ex.sizes [r.e1,r.e2,r.e3,r.e4]<1099511627776:=by
 have:=h.s1
 have:=h.s2
 have:=h.s3
 have:=h.s4
 simp only[Ex.sizes]
 omega
set_option maxRecDepth 100000 in
set_option maxHeartbeats 2000000 in
theorem equal_any (d:Nat) (l l':List Ex) (A A':Option Addr) (c c':Nat) (w:World) (hX:ExB w w.heap.size d A l) (hX':ExB w w.heap.size d A' l') (hsz:Ex.sizes l<1099511627776) (hsz':Ex.sizes l'<1099511627776) :
  Calls Tryz.prog 42 #[.slice A l.length c,.slice A' l'.length c',.func (.func 44) #[] #[]] w fun r w'=>r=.returned (.bool (Ex.sames l l'))∧Ext w w':=by
 have EQ:=zV (eqf_any d (fun d' _=>Same_any d') l l' A A' c c' w hX hX' hsz hsz')
 clear hX hX'
 go_enter Tryz.func42,Tryz.ntmps42
 go_wp2_with fail
 refine EQ.out.mono ?_
 rintro r w' ⟨rfl,hE⟩
 go_wp2_with fail
 go_ret
 exact⟨rfl,hE⟩
def exSP (l:List Ex) (d:Nat):SP:=⟨fun v W =>∃g,v=.slice (some ⟨g,0,none⟩) 4 4∧ExB W W.heap.size d (some ⟨g,0,none⟩) l,fun h hE=>by
 obtain⟨g,e,h⟩:=h
 exact⟨g,e,ExL.ext h hE⟩⟩
set_option maxRecDepth 100000 in
set_option maxHeartbeats 4000000 in
theorem RSame_any (u v:Rn) (d:Nat) (w:World) (hu:u.kidsB w w.heap.size d) (hv:v.kidsB w w.heap.size d) (su:u.r.small) (sv:v.r.small) :
  Calls Tryz.prog 18 #[.agg u.cells.toArray,.agg v.cells.toArray] w fun r w'=>r=.returned (.bool (u.r.same v.r))∧Ext w w':=by
 obtain⟨w1,hw1⟩ :∃w1,w.alloc (.cells u.cells.toArray 49)=w1:=⟨_,rfl⟩
 have hU:=RnB.new w u
 rw[hw1]at hU
 have hE1:Ext w w1:=by rw[←hw1];exact Ext.alloc _ _
 have hs1:w1.heap.size=w.heap.size+1:=by rw[←hw1];simp
 obtain⟨w2,hw2⟩ :∃w2,w1.alloc (.cells v.cells.toArray 49)=w2:=⟨_,rfl⟩
 have hV:=RnB.new w1 v
 rw[hw2,hs1]at hV
 have hE2:Ext w1 w2:=by rw[←hw2];exact Ext.alloc _ _
 have HU:=zV (hU.ext hE2)
 have HV:=zV hV
 have HE:=zV (hE1.trans hE2)
 have HKU:=zV hu
 have HKV:=zV hv
 have HW1:=zV hw1
 have HW2:=zV hw2
 obtain⟨D,hD⟩ :∃D:ByteArray,⟨u.r.nm.toArray⟩=D:=⟨_,rfl⟩
 obtain⟨F,hF⟩ :∃F:ByteArray,⟨v.r.nm.toArray⟩=F:=⟨_,rfl⟩
 obtain⟨p,hp⟩ :∃p,u.r.pr=p:=⟨_,rfl⟩
 obtain⟨p',hp'⟩ :∃p,v.r.pr=p:=⟨_,rfl⟩
 have hq:=bs_eq2 u.r.nm v.r.nm D F hD hF
 obtain⟨bu,hbu⟩ :∃b,w.heap.size=b:=⟨_,rfl⟩
 obtain⟨bv,hbv⟩ :∃b,w.heap.size+1=b:=⟨_,rfl⟩
 rw[hbu]at HU
 rw[hbv]at HV
 have N1:Hid (∀W,Ext w2 W→W.cell? ⟨bu,0,none⟩=some (.string D)):=zV (fun W h=>by rw[←hD];exact(HU.out.ext h).range 0 _ rfl)
 have N2:Hid (∀W,Ext w2 W→W.cell? ⟨bv,0,none⟩=some (.string F)):=zV (fun W h=>by rw[←hF];exact(HV.out.ext h).range 0 _ rfl)
 have P1:Hid (∀W,Ext w2 W→W.cell? ⟨bu,1,none⟩=some (.int .i64 p)):=zV (fun W h=>by rw[←hp];exact(HU.out.ext h).range 1 _ rfl)
 have P2:Hid (∀W,Ext w2 W→W.cell? ⟨bv,1,none⟩=some (.int .i64 p')):=zV (fun W h=>by rw[←hp'];exact(HV.out.ext h).range 1 _ rfl)
 have HBU:=zV hbu
 have HBV:=zV hbv
 have hS:u.r.same v.r=(decide (u.r.nm=v.r.nm)&&(decide (p=p')&&Ex.sames [u.r.e1,u.r.e2,u.r.e3,u.r.e4] [v.r.e1,v.r.e2,v.r.e3,v.r.e4])):=by
  unfold Rl.same;rw[hp,hp'];simp[Ex.sames]
 clear hw1 hw2 hU hV hE1 hE2 hs1 hu hv hD hF hp hp' hbu hbv
 by_cases g1:u.r.nm=v.r.nm
 ·rw[decide_eq_true g1]at hq hS
  by_cases g2:p=p'
  ·have y2:(p == p')=true:=by rw[beq_iff_eq];exact g2
   rw[decide_eq_true g2]at hS
   have HS:=zV hS
   clear hS g1 g2
   go_enter Tryz.func18,Tryz.ntmps18
   go_upto_region 1 with fail
   rw[HW1.out,HW2.out,HBV.out,HBU.out]
   apply wp_region_seq (l:=[_,_,_,_,_,_,_,_,_,_,_,_,_,_,_,_,_]) (t:=[_,_,_]) [some 5,some 6,some 7,some 8,some 9,some 10,some 11,some 12,some 13,some 14,some 15,some 16,some 17,some 18,some 19,some 20,some 21,some 22,some 23,some 4] [[],[0],[],[2],[1,3],[4],[5],[5,6],[5],[5,8],[5,7,9],[5,10],[11],[12],[12,13],[12],[12,15],[12,14,16],[12,17],[18]] [1,4,3,4,5,12,7,10,9,10,11,12,17,14,17,16,17] [eqv _,eqv _,eqv _,eqv _,eqv _,eqv _,eqv _,eqv _,eqv _,eqv _,eqv _,eqv _,eqv _,(eqv (.agg u.cells.toArray)),(exSP [u.r.e1,u.r.e2,u.r.e3,u.r.e4] (d+1)),(eqv (.agg v.cells.toArray)),(exSP [v.r.e1,v.r.e2,v.r.e3,v.r.e4] (d+1))] (by kernel_rfl) (by kernel_rfl) ⟨?o0,?o1,?o2,?o3,?o4,?o5,?o6,?o7,?o8,?o9,?o10,?o11,?o12,?o13,?o14,?o15,?o16,trivial⟩ ?last
   case o0|o2=>
    intro xv W hE hp
    try have q0:xv _=_:=hp.1
    try have q1:xv _=_:=hp.2.1
    clear hp
    simp only[putD,zC,zB,zE,zD,Act.put,zN,zP,zO]
    refine OpGoal.plain ?_
    go_wp2_with fail
    exact⟨rfl,Ext.refl _,rfl⟩
   case o1|o3=>
    intro xv W hE hp
    try have q0:xv _=_:=hp.1
    try have q1:xv _=_:=hp.2.1
    clear hp
    have hWW:=(Ext.drew w2).trans hE
    have n1:=N1.out W hWW
    have n2:=N2.out W hWW
    have p1:=P1.out W hWW
    have p2:=P2.out W hWW
    simp only[putD,zC,zB,zE,zD,Act.put,zN,zP,zO]
    refine OpGoal.plain ?_
    go_wp2_with fail
    exact⟨rfl,Ext.refl _,rfl⟩
   case o4|o5=>
    intro xv W hE hp
    try have q0:xv _=_:=hp.1
    try have q1:xv _=_:=hp.2.1
    clear hp
    simp only[putD,zC,zB,zE,zD,Act.put,zN,zP,zO]
    refine OpGoal.plain ?_
    go_wp2_with fail
    exact⟨rfl,Ext.refl _,rfl⟩
   case o6=>
    intro xv W hE hp
    have r5:xv 5=_:=hp.1
    clear hp
    simp only[putD,zC,zB,zE,zD,Act.put,zN,zP,zO]
    refine OpGoal.yes (by simp[yieldD,r5]) ?_
    go_wp2_with fail
    exact⟨rfl,Ext.refl _,rfl⟩
   case o7=>
    intro xv W hE hp
    have r5:xv 5=_:=hp.1
    have r6:xv 6=_:=hp.2.1
    clear hp
    have hWW:=(Ext.drew w2).trans hE
    have n1:=N1.out W hWW
    have n2:=N2.out W hWW
    have p1:=P1.out W hWW
    have p2:=P2.out W hWW
    simp only[putD,zC,zB,zE,zD,Act.put,zN,zP,zO]
    refine OpGoal.yes (by simp[yieldD,r5]) ?_
    go_wp2_with fail
    exact⟨rfl,Ext.refl _,rfl⟩
   case o8=>
    intro xv W hE hp
    have r5:xv 5=_:=hp.1
    clear hp
    simp only[putD,zC,zB,zE,zD,Act.put,zN,zP,zO]
    refine OpGoal.yes (by simp[yieldD,r5]) ?_
    go_wp2_with fail
    exact⟨rfl,Ext.refl _,rfl⟩
   case o9=>
    intro xv W hE hp
    have r5:xv 5=_:=hp.1
    have r8:xv 8=_:=hp.2.1
    clear hp
    have hWW:=(Ext.drew w2).trans hE
    have n1:=N1.out W hWW
    have n2:=N2.out W hWW
    have p1:=P1.out W hWW
    have p2:=P2.out W hWW
    simp only[putD,zC,zB,zE,zD,Act.put,zN,zP,zO]
    refine OpGoal.yes (by simp[yieldD,r5]) ?_
    go_wp2_with fail
    exact⟨rfl,Ext.refl _,rfl⟩
   case o10=>
    intro xv W hE hp
    have r5:xv 5=_:=hp.1
    have r7:xv 7=_:=hp.2.1
    have r9:xv 9=_:=hp.2.2.1
    clear hp
    simp only[putD,zC,zB,zE,zD,Act.put,zN,zP,zO]
    refine OpGoal.yes (by simp[yieldD,r5]) ?_
    go_wp2_with fail
    exact⟨rfl,Ext.refl _,rfl⟩
   case o11|o12=>
    intro xv W hE hp
    try have q0:xv _=_:=hp.1
    try have q1:xv _=_:=hp.2.1
    clear hp
    simp only[putD,zC,zB,zE,zD,Act.put,zN,zP,zO]
    refine OpGoal.plain ?_
    go_wp2_with fail
    exact⟨rfl,Ext.refl _,rfl⟩
   case o13=>
    intro xv W hE hp
    have r12:xv 12=_:=hp.1
    clear hp
    have hWW:=(Ext.drew w2).trans hE
    have n1:=N1.out W hWW
    have n2:=N2.out W hWW
    have p1:=P1.out W hWW
    have p2:=P2.out W hWW
    simp only[putD,zC,zB,zE,zD,Act.put,zN,zP,zO]
    refine OpGoal.yes (by simp[yieldD,r12]) ?_
    clear n1 n2 p1 p2
    refine load_R rfl _ rfl bu 0 u.cells (HU.out.ext hWW).range rfl rfl ?_
    go_wp2_with fail
    exact⟨rfl,Ext.refl _,rfl⟩
   case o14=>
    intro xv W hE hp
    have r12:xv 12=_:=hp.1
    have r13:xv 13=_:=hp.2.1
    clear hp
    simp only[putD,zC,zB,zE,zD,Act.put,zN,zP,zO]
    refine OpGoal.yes (by simp[yieldD,r12]) ?_
    go_wp2_with fail
    refine(expressions_any u d W (HKU.out.ext (HE.out.trans ((Ext.drew w2).trans hE)))).mono ?_
    rintro r w' ⟨g,rfl,hg,hX,hE9⟩
    go_wp2_with fail
    exact⟨rfl,hE9,g,rfl,hX⟩
   case o15=>
    intro xv W hE hp
    have r12:xv 12=_:=hp.1
    clear hp
    have hWW:=(Ext.drew w2).trans hE
    have n1:=N1.out W hWW
    have n2:=N2.out W hWW
    have p1:=P1.out W hWW
    have p2:=P2.out W hWW
    simp only[putD,zC,zB,zE,zD,Act.put,zN,zP,zO]
    refine OpGoal.yes (by simp[yieldD,r12]) ?_
    clear n1 n2 p1 p2
    refine load_R rfl _ rfl bv 0 v.cells (HV.out.ext hWW).range rfl rfl ?_
    go_wp2_with fail
    exact⟨rfl,Ext.refl _,rfl⟩
   case o16=>
    intro xv W hE hp
    have r12:xv 12=_:=hp.1
    have r15:xv 15=_:=hp.2.1
    clear hp
    simp only[putD,zC,zB,zE,zD,Act.put,zN,zP,zO]
    refine OpGoal.yes (by simp[yieldD,r12]) ?_
    go_wp2_with fail
    refine(expressions_any v d W (HKV.out.ext (HE.out.trans ((Ext.drew w2).trans hE)))).mono ?_
    rintro r w' ⟨g,rfl,hg,hX,hE9⟩
    go_wp2_with fail
    exact⟨rfl,hE9,g,rfl,hX⟩
   case last=>
    intro xv W hE hp
    have r0:xv 0=_:=hp.1
    have r1:xv 1=_:=hp.2.1
    have r2:xv 2=_:=hp.2.2.1
    have r3:xv 3=_:=hp.2.2.2.1
    have r4:xv 4=_:=hp.2.2.2.2.1
    have r5:xv 5=_:=hp.2.2.2.2.2.1
    have r6:xv 6=_:=hp.2.2.2.2.2.2.1
    have r7:xv 7=_:=hp.2.2.2.2.2.2.2.1
    have r8:xv 8=_:=hp.2.2.2.2.2.2.2.2.1
    have r9:xv 9=_:=hp.2.2.2.2.2.2.2.2.2.1
    have r10:xv 10=_:=hp.2.2.2.2.2.2.2.2.2.2.1
    have r11:xv 11=_:=hp.2.2.2.2.2.2.2.2.2.2.2.1
    have r12:xv 12=_:=hp.2.2.2.2.2.2.2.2.2.2.2.2.1
    have r13:xv 13=_:=hp.2.2.2.2.2.2.2.2.2.2.2.2.2.1
    have r14:=hp.2.2.2.2.2.2.2.2.2.2.2.2.2.2.1
    have r15:xv 15=_:=hp.2.2.2.2.2.2.2.2.2.2.2.2.2.2.2.1
    have r16:=hp.2.2.2.2.2.2.2.2.2.2.2.2.2.2.2.2.1
    clear hp
    simp only[putD,zC,zB,zE,zD,Act.put,zH,zJ,zL,zM,zK,zA,zN,zP,zO]
    obtain⟨ga,q14,hXa⟩ :∃ga,xv 14=.slice (some ⟨ga,0,none⟩) 4 4∧ExB W W.heap.size (d+1) (some ⟨ga,0,none⟩) [u.r.e1,u.r.e2,u.r.e3,u.r.e4]:=r14
    obtain⟨gc,q16,hXc⟩ :∃ga,xv 16=.slice (some ⟨ga,0,none⟩) 4 4∧ExB W W.heap.size (d+1) (some ⟨ga,0,none⟩) [v.r.e1,v.r.e2,v.r.e3,v.r.e4]:=r16
    have HEW:=zV (HE.out.trans ((Ext.drew w2).trans hE))
    have EQ:=zV (equal_any (d+1) [u.r.e1,u.r.e2,u.r.e3,u.r.e4] [v.r.e1,v.r.e2,v.r.e3,v.r.e4] (some ⟨ga,0,none⟩) (some ⟨gc,0,none⟩) 4 4 W hXa hXc (small_sizes su) (small_sizes sv))
    obtain⟨R,hR⟩ :∃R,Ex.sames [u.r.e1,u.r.e2,u.r.e3,u.r.e4] [v.r.e1,v.r.e2,v.r.e3,v.r.e4]=R:=⟨_,rfl⟩
    rw[hR]at HS EQ
    have hr12:xv 12=.bool true:=r12
    rw[hr12,q14,q16]
    clear r0 r1 r2 r3 r4 r5 r6 r7 r8 r9 r10 r11 r12 r13 r15 q14 q16 hr12 hXa hXc hE hR
    go_wp2_with fail
    refine EQ.out.mono ?_
    rintro r w5 ⟨rfl,hE5⟩
    go_wp2_with fail
    go_ret
    exact⟨by rw[HS.out];rfl,HEW.out.trans hE5⟩
  ·have y2:(p == p')=false:=by rw[beq_eq_false_iff_ne];exact g2
   rw[decide_eq_false g2]at hS
   have HS:=zV hS
   clear hS g1 g2
   go_enter Tryz.func18,Tryz.ntmps18
   go_upto_region 1 with fail
   rw[HW1.out,HW2.out,HBV.out,HBU.out]
   apply wp_region_seq (l:=[_,_,_,_,_,_,_,_,_,_,_,_,_,_,_,_,_]) (t:=[_,_,_]) [some 5,some 6,some 7,some 8,some 9,some 10,some 11,some 12,some 13,some 14,some 15,some 16,some 17,some 18,some 19,some 20,some 21,some 22,some 23,some 4] [[],[0],[],[2],[1,3],[4],[5],[5,6],[5],[5,8],[5,7,9],[5,10],[11],[12],[12,13],[12],[12,15],[12,14,16],[12,17],[18]] [1,4,3,4,5,12,7,10,9,10,11,12,17,14,17,16,17] [eqv _,eqv _,eqv _,eqv _,eqv _,eqv _,eqv _,eqv _,eqv _,eqv _,eqv _,eqv _,eqv _,eqv _,eqv _,eqv _,eqv _] (by kernel_rfl) (by kernel_rfl) ⟨?o0,?o1,?o2,?o3,?o4,?o5,?o6,?o7,?o8,?o9,?o10,?o11,?o12,?o13,?o14,?o15,?o16,trivial⟩ ?last
   case o0|o2=>
    intro xv W hE hp
    try have q0:xv _=_:=hp.1
    try have q1:xv _=_:=hp.2.1
    clear hp
    simp only[putD,zC,zB,zE,zD,Act.put,zN,zP,zO]
    refine OpGoal.plain ?_
    go_wp2_with fail
    exact⟨rfl,Ext.refl _,rfl⟩
   case o1|o3=>
    intro xv W hE hp
    try have q0:xv _=_:=hp.1
    try have q1:xv _=_:=hp.2.1
    clear hp
    have hWW:=(Ext.drew w2).trans hE
    have n1:=N1.out W hWW
    have n2:=N2.out W hWW
    have p1:=P1.out W hWW
    have p2:=P2.out W hWW
    simp only[putD,zC,zB,zE,zD,Act.put,zN,zP,zO]
    refine OpGoal.plain ?_
    go_wp2_with fail
    exact⟨rfl,Ext.refl _,rfl⟩
   case o4|o5=>
    intro xv W hE hp
    try have q0:xv _=_:=hp.1
    try have q1:xv _=_:=hp.2.1
    clear hp
    simp only[putD,zC,zB,zE,zD,Act.put,zN,zP,zO]
    refine OpGoal.plain ?_
    go_wp2_with fail
    exact⟨rfl,Ext.refl _,rfl⟩
   case o6=>
    intro xv W hE hp
    have r5:xv 5=_:=hp.1
    clear hp
    simp only[putD,zC,zB,zE,zD,Act.put,zN,zP,zO]
    refine OpGoal.yes (by simp[yieldD,r5]) ?_
    go_wp2_with fail
    exact⟨rfl,Ext.refl _,rfl⟩
   case o7=>
    intro xv W hE hp
    have r5:xv 5=_:=hp.1
    have r6:xv 6=_:=hp.2.1
    clear hp
    have hWW:=(Ext.drew w2).trans hE
    have n1:=N1.out W hWW
    have n2:=N2.out W hWW
    have p1:=P1.out W hWW
    have p2:=P2.out W hWW
    simp only[putD,zC,zB,zE,zD,Act.put,zN,zP,zO]
    refine OpGoal.yes (by simp[yieldD,r5]) ?_
    go_wp2_with fail
    exact⟨rfl,Ext.refl _,rfl⟩
   case o8=>
    intro xv W hE hp
    have r5:xv 5=_:=hp.1
    clear hp
    simp only[putD,zC,zB,zE,zD,Act.put,zN,zP,zO]
    refine OpGoal.yes (by simp[yieldD,r5]) ?_
    go_wp2_with fail
    exact⟨rfl,Ext.refl _,rfl⟩
   case o9=>
    intro xv W hE hp
    have r5:xv 5=_:=hp.1
    have r8:xv 8=_:=hp.2.1
    clear hp
    have hWW:=(Ext.drew w2).trans hE
    have n1:=N1.out W hWW
    have n2:=N2.out W hWW
    have p1:=P1.out W hWW
    have p2:=P2.out W hWW
    simp only[putD,zC,zB,zE,zD,Act.put,zN,zP,zO]
    refine OpGoal.yes (by simp[yieldD,r5]) ?_
    go_wp2_with fail
    exact⟨rfl,Ext.refl _,rfl⟩
   case o10=>
    intro xv W hE hp
    have r5:xv 5=_:=hp.1
    have r7:xv 7=_:=hp.2.1
    have r9:xv 9=_:=hp.2.2.1
    clear hp
    simp only[putD,zC,zB,zE,zD,Act.put,zN,zP,zO]
    refine OpGoal.yes (by simp[yieldD,r5]) ?_
    go_wp2_with fail
    exact⟨rfl,Ext.refl _,rfl⟩
   case o11|o12=>
    intro xv W hE hp
    try have q0:xv _=_:=hp.1
    try have q1:xv _=_:=hp.2.1
    clear hp
    simp only[putD,zC,zB,zE,zD,Act.put,zN,zP,zO]
    refine OpGoal.plain ?_
    go_wp2_with fail
    exact⟨rfl,Ext.refl _,rfl⟩
   case o13=>
    intro xv W hE hp
    have r12:xv 12=_:=hp.1
    clear hp
    have hWW:=(Ext.drew w2).trans hE
    have n1:=N1.out W hWW
    have n2:=N2.out W hWW
    have p1:=P1.out W hWW
    have p2:=P2.out W hWW
    simp only[putD,zC,zB,zE,zD,Act.put,zN,zP,zO]
    exact OpGoal.off (by simp[yieldD,r12,undef]) ⟨Ext.refl _,rfl⟩
   case o14=>
    intro xv W hE hp
    have r12:xv 12=_:=hp.1
    have r13:xv 13=_:=hp.2.1
    clear hp
    simp only[putD,zC,zB,zE,zD,Act.put,zN,zP,zO]
    exact OpGoal.off (by simp[yieldD,r12,undef]) ⟨Ext.refl _,rfl⟩
   case o15=>
    intro xv W hE hp
    have r12:xv 12=_:=hp.1
    clear hp
    have hWW:=(Ext.drew w2).trans hE
    have n1:=N1.out W hWW
    have n2:=N2.out W hWW
    have p1:=P1.out W hWW
    have p2:=P2.out W hWW
    simp only[putD,zC,zB,zE,zD,Act.put,zN,zP,zO]
    exact OpGoal.off (by simp[yieldD,r12,undef]) ⟨Ext.refl _,rfl⟩
   case o16=>
    intro xv W hE hp
    have r12:xv 12=_:=hp.1
    have r15:xv 15=_:=hp.2.1
    clear hp
    simp only[putD,zC,zB,zE,zD,Act.put,zN,zP,zO]
    exact OpGoal.off (by simp[yieldD,r12,undef]) ⟨Ext.refl _,rfl⟩
   case last=>
    intro xv W hE hp
    have r0:xv 0=_:=hp.1
    have r1:xv 1=_:=hp.2.1
    have r2:xv 2=_:=hp.2.2.1
    have r3:xv 3=_:=hp.2.2.2.1
    have r4:xv 4=_:=hp.2.2.2.2.1
    have r5:xv 5=_:=hp.2.2.2.2.2.1
    have r6:xv 6=_:=hp.2.2.2.2.2.2.1
    have r7:xv 7=_:=hp.2.2.2.2.2.2.2.1
    have r8:xv 8=_:=hp.2.2.2.2.2.2.2.2.1
    have r9:xv 9=_:=hp.2.2.2.2.2.2.2.2.2.1
    have r10:xv 10=_:=hp.2.2.2.2.2.2.2.2.2.2.1
    have r11:xv 11=_:=hp.2.2.2.2.2.2.2.2.2.2.2.1
    have r12:xv 12=_:=hp.2.2.2.2.2.2.2.2.2.2.2.2.1
    have r13:xv 13=_:=hp.2.2.2.2.2.2.2.2.2.2.2.2.2.1
    have r14:xv 14=_:=hp.2.2.2.2.2.2.2.2.2.2.2.2.2.2.1
    have r15:xv 15=_:=hp.2.2.2.2.2.2.2.2.2.2.2.2.2.2.2.1
    have r16:xv 16=_:=hp.2.2.2.2.2.2.2.2.2.2.2.2.2.2.2.2.1
    clear hp
    simp only[putD,zC,zB,zE,zD,Act.put,zH,zJ,zL,zM,zK,zA,zN,zP,zO]
    have HEW:=zV (HE.out.trans ((Ext.drew w2).trans hE))
    clear hE
    go_wp2_with fail
    go_ret
    exact⟨by rw[HS.out];rfl,HEW.out⟩
 ·rw[decide_eq_false g1]at hq hS
  have HS:=zV hS
  clear hS g1
  go_enter Tryz.func18,Tryz.ntmps18
  go_upto_region 1 with fail
  rw[HW1.out,HW2.out,HBV.out,HBU.out]
  apply wp_region_seq (l:=[_,_,_,_,_,_,_,_,_,_,_,_,_,_,_,_,_]) (t:=[_,_,_]) [some 5,some 6,some 7,some 8,some 9,some 10,some 11,some 12,some 13,some 14,some 15,some 16,some 17,some 18,some 19,some 20,some 21,some 22,some 23,some 4] [[],[0],[],[2],[1,3],[4],[5],[5,6],[5],[5,8],[5,7,9],[5,10],[11],[12],[12,13],[12],[12,15],[12,14,16],[12,17],[18]] [1,4,3,4,5,12,7,10,9,10,11,12,17,14,17,16,17] [eqv _,eqv _,eqv _,eqv _,eqv _,eqv _,eqv _,eqv _,eqv _,eqv _,eqv _,eqv _,eqv _,eqv _,eqv _,eqv _,eqv _] (by kernel_rfl) (by kernel_rfl) ⟨?o0,?o1,?o2,?o3,?o4,?o5,?o6,?o7,?o8,?o9,?o10,?o11,?o12,?o13,?o14,?o15,?o16,trivial⟩ ?last
  case o0|o2=>
   intro xv W hE hp
   try have q0:xv _=_:=hp.1
   try have q1:xv _=_:=hp.2.1
   clear hp
   simp only[putD,zC,zB,zE,zD,Act.put,zN,zP,zO]
   refine OpGoal.plain ?_
   go_wp2_with fail
   exact⟨rfl,Ext.refl _,rfl⟩
  case o1|o3=>
   intro xv W hE hp
   try have q0:xv _=_:=hp.1
   try have q1:xv _=_:=hp.2.1
   clear hp
   have hWW:=(Ext.drew w2).trans hE
   have n1:=N1.out W hWW
   have n2:=N2.out W hWW
   have p1:=P1.out W hWW
   have p2:=P2.out W hWW
   simp only[putD,zC,zB,zE,zD,Act.put,zN,zP,zO]
   refine OpGoal.plain ?_
   go_wp2_with fail
   exact⟨rfl,Ext.refl _,rfl⟩
  case o4|o5=>
   intro xv W hE hp
   try have q0:xv _=_:=hp.1
   try have q1:xv _=_:=hp.2.1
   clear hp
   simp only[putD,zC,zB,zE,zD,Act.put,zN,zP,zO]
   refine OpGoal.plain ?_
   go_wp2_with fail
   exact⟨rfl,Ext.refl _,rfl⟩
  case o6=>
   intro xv W hE hp
   have r5:xv 5=_:=hp.1
   clear hp
   simp only[putD,zC,zB,zE,zD,Act.put,zN,zP,zO]
   exact OpGoal.off (by simp[yieldD,r5,undef]) ⟨Ext.refl _,rfl⟩
  case o7=>
   intro xv W hE hp
   have r5:xv 5=_:=hp.1
   have r6:xv 6=_:=hp.2.1
   clear hp
   have hWW:=(Ext.drew w2).trans hE
   have n1:=N1.out W hWW
   have n2:=N2.out W hWW
   have p1:=P1.out W hWW
   have p2:=P2.out W hWW
   simp only[putD,zC,zB,zE,zD,Act.put,zN,zP,zO]
   exact OpGoal.off (by simp[yieldD,r5,undef]) ⟨Ext.refl _,rfl⟩
  case o8=>
   intro xv W hE hp
   have r5:xv 5=_:=hp.1
   clear hp
   simp only[putD,zC,zB,zE,zD,Act.put,zN,zP,zO]
   exact OpGoal.off (by simp[yieldD,r5,undef]) ⟨Ext.refl _,rfl⟩
  case o9=>
   intro xv W hE hp
   have r5:xv 5=_:=hp.1
   have r8:xv 8=_:=hp.2.1
   clear hp
   have hWW:=(Ext.drew w2).trans hE
   have n1:=N1.out W hWW
   have n2:=N2.out W hWW
   have p1:=P1.out W hWW
   have p2:=P2.out W hWW
   simp only[putD,zC,zB,zE,zD,Act.put,zN,zP,zO]
   exact OpGoal.off (by simp[yieldD,r5,undef]) ⟨Ext.refl _,rfl⟩
  case o10=>
   intro xv W hE hp
   have r5:xv 5=_:=hp.1
   have r7:xv 7=_:=hp.2.1
   have r9:xv 9=_:=hp.2.2.1
   clear hp
   simp only[putD,zC,zB,zE,zD,Act.put,zN,zP,zO]
   exact OpGoal.off (by simp[yieldD,r5,undef]) ⟨Ext.refl _,rfl⟩
  case o11|o12=>
   intro xv W hE hp
   try have q0:xv _=_:=hp.1
   try have q1:xv _=_:=hp.2.1
   clear hp
   simp only[putD,zC,zB,zE,zD,Act.put,zN,zP,zO]
   refine OpGoal.plain ?_
   go_wp2_with fail
   exact⟨rfl,Ext.refl _,rfl⟩
  case o13=>
   intro xv W hE hp
   have r12:xv 12=_:=hp.1
   clear hp
   have hWW:=(Ext.drew w2).trans hE
   have n1:=N1.out W hWW
   have n2:=N2.out W hWW
   have p1:=P1.out W hWW
   have p2:=P2.out W hWW
   simp only[putD,zC,zB,zE,zD,Act.put,zN,zP,zO]
   exact OpGoal.off (by simp[yieldD,r12,undef]) ⟨Ext.refl _,rfl⟩
  case o14=>
   intro xv W hE hp
   have r12:xv 12=_:=hp.1
   have r13:xv 13=_:=hp.2.1
   clear hp
   simp only[putD,zC,zB,zE,zD,Act.put,zN,zP,zO]
   exact OpGoal.off (by simp[yieldD,r12,undef]) ⟨Ext.refl _,rfl⟩
  case o15=>
   intro xv W hE hp
   have r12:xv 12=_:=hp.1
   clear hp
   have hWW:=(Ext.drew w2).trans hE
   have n1:=N1.out W hWW
   have n2:=N2.out W hWW
   have p1:=P1.out W hWW
   have p2:=P2.out W hWW
   simp only[putD,zC,zB,zE,zD,Act.put,zN,zP,zO]
   exact OpGoal.off (by simp[yieldD,r12,undef]) ⟨Ext.refl _,rfl⟩
  case o16=>
   intro xv W hE hp
   have r12:xv 12=_:=hp.1
   have r15:xv 15=_:=hp.2.1
   clear hp
   simp only[putD,zC,zB,zE,zD,Act.put,zN,zP,zO]
   exact OpGoal.off (by simp[yieldD,r12,undef]) ⟨Ext.refl _,rfl⟩
  case last=>
   intro xv W hE hp
   have r0:xv 0=_:=hp.1
   have r1:xv 1=_:=hp.2.1
   have r2:xv 2=_:=hp.2.2.1
   have r3:xv 3=_:=hp.2.2.2.1
   have r4:xv 4=_:=hp.2.2.2.2.1
   have r5:xv 5=_:=hp.2.2.2.2.2.1
   have r6:xv 6=_:=hp.2.2.2.2.2.2.1
   have r7:xv 7=_:=hp.2.2.2.2.2.2.2.1
   have r8:xv 8=_:=hp.2.2.2.2.2.2.2.2.1
   have r9:xv 9=_:=hp.2.2.2.2.2.2.2.2.2.1
   have r10:xv 10=_:=hp.2.2.2.2.2.2.2.2.2.2.1
   have r11:xv 11=_:=hp.2.2.2.2.2.2.2.2.2.2.2.1
   have r12:xv 12=_:=hp.2.2.2.2.2.2.2.2.2.2.2.2.1
   have r13:xv 13=_:=hp.2.2.2.2.2.2.2.2.2.2.2.2.2.1
   have r14:xv 14=_:=hp.2.2.2.2.2.2.2.2.2.2.2.2.2.2.1
   have r15:xv 15=_:=hp.2.2.2.2.2.2.2.2.2.2.2.2.2.2.2.1
   have r16:xv 16=_:=hp.2.2.2.2.2.2.2.2.2.2.2.2.2.2.2.2.1
   clear hp
   simp only[putD,zC,zB,zE,zD,Act.put,zH,zJ,zL,zM,zK,zA,zN,zP,zO]
   have HEW:=zV (HE.out.trans ((Ext.drew w2).trans hE))
   clear hE
   go_wp2_with fail
   go_ret
   exact⟨by rw[HS.out];rfl,HEW.out⟩
set_option maxRecDepth 100000 in
set_option maxHeartbeats 8000000 in
theorem rRSame_any (u v:Rn) (d:Nat) (w:World) (hu:u.kidsB w w.heap.size d) (hv:v.kidsB w w.heap.size d) (su:u.r.small) (sv:v.r.small) :
  Calls Tryz.prog 19 #[.agg u.cells.toArray,.agg v.cells.toArray] w fun r w'=>r=.returned (.bool (u.r.same v.r))∧Ext w w':=by
 obtain⟨w1,hw1⟩ :∃w1,w.alloc (.cells u.cells.toArray 49)=w1:=⟨_,rfl⟩
 have hU:=RnB.new w u
 rw[hw1]at hU
 have hE1:Ext w w1:=by rw[←hw1];exact Ext.alloc _ _
 have hs1:w1.heap.size=w.heap.size+1:=by rw[←hw1];simp
 obtain⟨w2,hw2⟩ :∃w2,w1.alloc (.cells v.cells.toArray 49)=w2:=⟨_,rfl⟩
 have hV:=RnB.new w1 v
 rw[hw2,hs1]at hV
 have hE2:Ext w1 w2:=by rw[←hw2];exact Ext.alloc _ _
 have HU:=zV (hU.ext hE2)
 have HV:=zV hV
 have HE:=zV (hE1.trans hE2)
 have HKU:=zV (hu.ext HE.out)
 have HKV:=zV (hv.ext HE.out)
 have HW1:=zV hw1
 have HW2:=zV hw2
 obtain⟨bu,hbu⟩ :∃b,w.heap.size=b:=⟨_,rfl⟩
 obtain⟨bv,hbv⟩ :∃b,w.heap.size+1=b:=⟨_,rfl⟩
 rw[hbu]at HU
 rw[hbv]at HV
 have S1:=zV (fun(W:World) (h:Ext w2 W)=>rSame_any d u.r.e1 v.r.e1 u.A1 v.A1 u.c1 v.c1 W (HKU.out.ext h).k1 (HKV.out.ext h).k1 (zR su.s1 (by decide)) (zR sv.s1 (by decide)))
 have S2:=zV (fun(W:World) (h:Ext w2 W)=>rSame_any d u.r.e2 v.r.e2 u.A2 v.A2 u.c2 v.c2 W (HKU.out.ext h).k2 (HKV.out.ext h).k2 (zR su.s2 (by decide)) (zR sv.s2 (by decide)))
 have S3:=zV (fun(W:World) (h:Ext w2 W)=>rSame_any d u.r.e3 v.r.e3 u.A3 v.A3 u.c3 v.c3 W (HKU.out.ext h).k3 (HKV.out.ext h).k3 (zR su.s3 (by decide)) (zR sv.s3 (by decide)))
 have S4:=zV (fun(W:World) (h:Ext w2 W)=>rSame_any d u.r.e4 v.r.e4 u.A4 v.A4 u.c4 v.c4 W (HKU.out.ext h).k4 (HKV.out.ext h).k4 (zR su.s4 (by decide)) (zR sv.s4 (by decide)))
 obtain⟨D,hD⟩ :∃D:ByteArray,⟨u.r.nm.toArray⟩=D:=⟨_,rfl⟩
 obtain⟨F,hF⟩ :∃F:ByteArray,⟨v.r.nm.toArray⟩=F:=⟨_,rfl⟩
 obtain⟨p,hp⟩ :∃p,u.r.pr=p:=⟨_,rfl⟩
 obtain⟨p',hp'⟩ :∃p,v.r.pr=p:=⟨_,rfl⟩
 have hq:=bs_eq2 u.r.nm v.r.nm D F hD hF
 have hS:u.r.same v.r=(decide (u.r.nm=v.r.nm)&&(decide (p=p')&&(u.r.e1.same v.r.e1&&(u.r.e2.same v.r.e2&&(u.r.e3.same v.r.e3&&u.r.e4.same v.r.e4))))):=by
  unfold Rl.same;rw[hp,hp']
 obtain⟨b1,hb1⟩ :∃b,u.r.e1.same v.r.e1=b:=⟨_,rfl⟩
 obtain⟨b2,hb2⟩ :∃b,u.r.e2.same v.r.e2=b:=⟨_,rfl⟩
 obtain⟨b3,hb3⟩ :∃b,u.r.e3.same v.r.e3=b:=⟨_,rfl⟩
 obtain⟨b4,hb4⟩ :∃b,u.r.e4.same v.r.e4=b:=⟨_,rfl⟩
 rw[hb1,hb2,hb3,hb4]at hS
 rw[hb1]at S1
 rw[hb2]at S2
 rw[hb3]at S3
 rw[hb4]at S4
 obtain⟨q,hqq⟩ :∃q,decide (u.r.nm=v.r.nm)=q:=⟨_,rfl⟩
 rw[hqq]at hq hS
 have hy:(p == p')=decide (p=p'):=by
  by_cases g:p=p'
  ·rw[decide_eq_true g,beq_iff_eq];exact g
  ·rw[decide_eq_false g,beq_eq_false_iff_ne];exact g
 obtain⟨q2,hq2⟩ :∃q,decide (p=p')=q:=⟨_,rfl⟩
 rw[hq2]at hy hS
 have HS:=zV hS
 have N1:Hid (∀W,Ext w2 W→W.cell? ⟨bu,0,none⟩=some (.string D)):=zV (fun W h=>by rw[←hD];exact(HU.out.ext h).range 0 _ rfl)
 have N2:Hid (∀W,Ext w2 W→W.cell? ⟨bv,0,none⟩=some (.string F)):=zV (fun W h=>by rw[←hF];exact(HV.out.ext h).range 0 _ rfl)
 have P1:Hid (∀W,Ext w2 W→W.cell? ⟨bu,1,none⟩=some (.int .i64 p)):=zV (fun W h=>by rw[←hp];exact(HU.out.ext h).range 1 _ rfl)
 have P2:Hid (∀W,Ext w2 W→W.cell? ⟨bv,1,none⟩=some (.int .i64 p')):=zV (fun W h=>by rw[←hp'];exact(HV.out.ext h).range 1 _ rfl)
 have HBU:=zV hbu
 have HBV:=zV hbv
 clear hw1 hw2 hU hV hE1 hE2 hs1 hu hv hD hF hp hp' hS hb1 hb2 hb3 hb4 hqq hq2 hbu hbv
 go_enter Tryz.func19,Tryz.ntmps19
 go_upto_region 1 with fail
 rw[HW1.out,HW2.out,HBV.out,HBU.out]
 have l1:=range1 HU.out.range
 have m1:=range1 HV.out.range
 rw[zS]at l1 m1
 go_wp2_with (first|(refine load_E rfl _ rfl bu 2 _ l1 rfl rfl ?_)|(refine load_E rfl _ rfl bv 2 _ m1 rfl rfl ?_))
 refine(S1.out w2 (Ext.refl _)).mono ?_
 rintro r w3 ⟨rfl,hE3⟩
 have HE3:=zV hE3
 have l2:=range2 (HU.out.ext hE3).range
 have m2:=range2 (HV.out.ext hE3).range
 rw[zS]at l2 m2
 clear l1 m1 hE3
 go_wp2_with (first|(refine load_E rfl _ rfl bu 9 _ l2 rfl rfl ?_)|(refine load_E rfl _ rfl bv 9 _ m2 rfl rfl ?_))
 refine(S2.out w3 HE3.out).mono ?_
 rintro r w4 ⟨rfl,hE4⟩
 have HE4:=zV (HE3.out.trans hE4)
 have l3:=range3 (HU.out.ext HE4.out).range
 have m3:=range3 (HV.out.ext HE4.out).range
 rw[zS]at l3 m3
 clear l2 m2 hE4
 go_wp2_with (first|(refine load_E rfl _ rfl bu 16 _ l3 rfl rfl ?_)|(refine load_E rfl _ rfl bv 16 _ m3 rfl rfl ?_))
 refine(S3.out w4 HE4.out).mono ?_
 rintro r w5 ⟨rfl,hE5⟩
 have HE5:=zV (HE4.out.trans hE5)
 have l4:=range4 (HU.out.ext HE5.out).range
 have m4:=range4 (HV.out.ext HE5.out).range
 rw[zS]at l4 m4
 clear l3 m3 hE5
 go_wp2_with (first|(refine load_E rfl _ rfl bu 23 _ l4 rfl rfl ?_)|(refine load_E rfl _ rfl bv 23 _ m4 rfl rfl ?_))
 refine(S4.out w5 HE5.out).mono ?_
 rintro r w6 ⟨rfl,hE6⟩
 have HE6:=zV (HE5.out.trans hE6)
 have n1:=N1.out w6 HE6.out
 have n2:=N2.out w6 HE6.out
 have p1:=P1.out w6 HE6.out
 have p2:=P2.out w6 HE6.out
 clear l4 m4 hE6
 rcases q with _|_
 ·go_wp2_with fail
  go_ret
  exact⟨by rw[HS.out];rfl,HE.out.trans HE6.out⟩
 rcases q2 with _|_
 ·go_wp2_with fail
  go_ret
  exact⟨by rw[HS.out];rfl,HE.out.trans HE6.out⟩
 rcases b1 with _|_
 ·go_wp2_with fail
  go_ret
  exact⟨by rw[HS.out];rfl,HE.out.trans HE6.out⟩
 rcases b2 with _|_
 ·go_wp2_with fail
  go_ret
  exact⟨by rw[HS.out];rfl,HE.out.trans HE6.out⟩
 rcases b3 with _|_
 ·go_wp2_with fail
  go_ret
  exact⟨by rw[HS.out];rfl,HE.out.trans HE6.out⟩
 ·go_wp2_with fail
  go_ret
  exact⟨by rw[HS.out];rfl,HE.out.trans HE6.out⟩
end Go.Proofs.YtmiencglfhpmeaaGreatDoor
namespace Go.Proofs.YtmiencglfhpmeaaGreatDoor
open Go.RowKit Hach
def sameL:List Rl→List Rl→Bool
 | [],[]=>true
 | r::l,r'::l'=>r.same r'&&sameL l l'
 | [],_::_=>false
 | _::_,[]=>false
theorem sameL_iff :∀l l':List Rl,sameL l l'=true↔l=l'
 | [],[]=>by simp[sameL]
 | r::l,r'::l'=>by
  rw[sameL,Bool.and_eq_true,Rl.same_iff,sameL_iff l l'];simp
 | [],_::_=>by simp[sameL]
 | _::_,[]=>by simp[sameL]
theorem sameL_at {l l':List Rl}(h:l.length=l'.length) (ha :∀j (h1:j<l.length) (h2:j<l'.length),(l[j]).same (l'[j])=true):sameL l l'=true:=
 (sameL_iff l l').2 (List.ext_getElem h fun j h1 h2=>(Rl.same_iff _ _).1 (ha j h1 h2))
theorem sameL_not {l l':List Rl}{j:Nat}(h1:j<l.length) (h2:j<l'.length) (h:(l[j]).same (l'[j])=false):sameL l l'=false:=by
 rw[←zU,sameL_iff]
 rintro rfl
 have:=(Rl.same_iff l[j] l[j]).2 rfl
 rw[this]at h;cases h
theorem sameL_len {l l':List Rl}(h:l.length≠l'.length):sameL l l'=false:=by
 rw[←zU,sameL_iff]
 rintro rfl
 exact h rfl
set_option maxRecDepth 100000 in
set_option maxHeartbeats 4000000 in
theorem rSameAll_any (l l':List Rl) (A A':Option Addr) (c c' d:Nat) (w:World) (hX:RlB w w.heap.size d A l) (hX':RlB w w.heap.size d A' l') (hl:l.length<4294967296) (hl':l'.length<4294967296) (hs :∀r∈l,r.small) (hs' :∀r∈l',r.small) :
  Calls Tryz.prog 24 #[.slice A l.length c,.slice A' l'.length c'] w fun r w'=>r=.returned (.bool (sameL l l'))∧Ext w w':=by
 have HX:=zV hX
 have HX':=zV hX'
 have HS:=zV hs
 have HS':=zV hs'
 clear hX hX' hs hs'
 by_cases hne:l.length=l'.length
 ·have tn:((l.length:Int) != (l'.length:Int))=false:=by simp[hne]
  have HNE:=zV hne
  clear hne
  go_enter Tryz.func24,Tryz.ntmps24
  go_wp2_with fail
  go_loopw [5] (fun kv wr =>∃k:Nat,k≤l.length∧kv=.int .i64 k∧Hid (∀j (h1:j<l.length) (h2:j<l'.length),j<k→(l[j]).same (l'[j])=true)∧Ext w wr) (fun kv _=>l.length-(intOf kv).toNat)
  case atStart=>exact⟨0,Nat.zero_le _,rfl,zV (fun j _ _ h=>absurd h (Nat.not_lt_zero _)),Ext.refl _⟩
  case round=>
   obtain⟨k,hk,rfl,HA,hE⟩:=hrel
   have HE:=zV hE
   by_cases hlt:k<l.length
   ·have hlt':k<l'.length:=by have:=HNE.out;omega
    have tk:decide (k<l.length)=true:=by simp;omega
    obtain⟨g,o,u,rfl,hg,hu,hku,hr⟩:=(HX.out.ext hE).at_ hlt
    obtain⟨g',o',v,rfl,hg',hv,hkv,hr'⟩:=(HX'.out.ext hE).at_ hlt'
    have hsu:=HS.out u.r (by rw[hu];exact zF hlt)
    have hsv:=HS'.out v.r (by rw[hv];exact zF hlt')
    have CS:=zV (fun(W:World) (h:Ext wr W)=>rRSame_any u v d W (hku.ext h) (hkv.ext h) hsu hsv)
    obtain⟨q,hq⟩ :∃q,u.r.same v.r=q:=⟨_,rfl⟩
    have HQ:Hid ((l[k]).same (l'[k])=q):=zV (by rw[←hu,←hv];exact hq)
    rw[hq]at CS
    have HR:=zV (fun(W:World) (h:Ext wr W)=>range_ext hr hg h)
    have HR':=zV (fun(W:World) (h:Ext wr W)=>range_ext hr' hg' h)
    clear hq hu hv hku hkv hr hr' hsu hsv hE
    go_upto_region 6 with fail
    apply wp_region_seq (l:=[_,_,_,_,_,_,_,_]) (t:=[_,_]) [some 17,some 18,some 19,some 20,some 21,some 22,some 23,some 24,some 25,some 26] [[],[],[0,1],[2],[],[],[4,5],[6],[3,7],[8]] [2,2,3,8,6,6,7,8] [eqv _,eqv _,eqv _,(eqv (.agg u.cells.toArray)),eqv _,eqv _,eqv _,(eqv (.agg v.cells.toArray))] (by kernel_rfl) (by kernel_rfl) ⟨?o0,?o1,?o2,?o3,?o4,?o5,?o6,?o7,trivial⟩ ?last
    case o0|o1|o2|o4|o5|o6=>
     intro xv W hE hp
     try have q0:xv _=_:=hp.1
     try have q1:xv _=_:=hp.2.1
     clear hp
     simp only[putD,zC,zB,zE,zD,Act.put,zN,zP,zO]
     refine OpGoal.plain ?_
     go_wp2_with fail
     exact⟨rfl,Ext.refl _,rfl⟩
    case o3=>
     intro xv W hE hp
     have r2:xv 2=_:=hp.1
     clear hp
     simp only[putD,zC,zB,zE,zD,Act.put,zN,zP,zO]
     refine OpGoal.plain ?_
     refine load_R rfl _ rfl g (o+k*30) u.cells (HR.out W ((Ext.drew wr).trans hE)) rfl r2 ?_
     go_wp2_with fail
     exact⟨rfl,Ext.refl _,rfl⟩
    case o7=>
     intro xv W hE hp
     have r6:xv 6=_:=hp.1
     clear hp
     simp only[putD,zC,zB,zE,zD,Act.put,zN,zP,zO]
     refine OpGoal.plain ?_
     refine load_R rfl _ rfl g' (o'+k*30) v.cells (HR'.out W ((Ext.drew wr).trans hE)) rfl r6 ?_
     go_wp2_with fail
     exact⟨rfl,Ext.refl _,rfl⟩
    case last=>
     intro xv W hE hp
     have r0:xv 0=_:=hp.1
     have r1:xv 1=_:=hp.2.1
     have r2:xv 2=_:=hp.2.2.1
     have r3:xv 3=_:=hp.2.2.2.1
     have r4:xv 4=_:=hp.2.2.2.2.1
     have r5:xv 5=_:=hp.2.2.2.2.2.1
     have r6:xv 6=_:=hp.2.2.2.2.2.2.1
     have r7:xv 7=_:=hp.2.2.2.2.2.2.2.1
     clear hp
     simp only[putD,zC,zB,zE,zD,Act.put,zH,zJ,zL,zM,zK,zA,zN,zP,zO]
     have HEW:=zV ((Ext.drew wr).trans hE)
     clear hE
     go_wp2_with fail
     refine(CS.out W HEW.out).mono ?_
     rintro e w' ⟨rfl,hE'⟩
     have HE':=zV (HE.out.trans (HEW.out.trans hE'))
     clear hE'
     cases q with
     | true=>
      have HN:Hid (∀j (h1:j<l.length) (h2:j<l'.length),j<k+1→(l[j]).same (l'[j])=true):=zV (fun j h1 h2 hj=>by
       by_cases e:j=k
       ·subst e;exact HQ.out
       ·exact HA.out j h1 h2 (by omega))
      go_wp2_with fail
      go_roundw
      case rel=>exact⟨k+1,by omega,by go_num,HN,HE'.out⟩
      case measure=>simp[intOf];omega
     | false=>
      have HZ:=zV (sameL_not hlt hlt' HQ.out)
      go_wp2_with fail
      go_ret
      exact⟨by rw[HZ.out];rfl,HE'.out⟩
   ·have HZ:=zV (sameL_at HNE.out fun j h1 h2=>HA.out j h1 h2 (by omega))
    have tk:decide (k<l.length)=false:=by simp;omega
    go_wp2_with fail
    go_ret
    exact⟨by rw[HZ.out];rfl,HE.out⟩
 ·have tn:((l.length:Int) != (l'.length:Int))=true:=by rw[bne_iff_ne];omega
  have HZ:=zV (sameL_len hne)
  clear hne
  go_enter Tryz.func24,Tryz.ntmps24
  go_wp2_with fail
  go_ret
  exact⟨by rw[HZ.out];rfl,Ext.refl _⟩
end Go.Proofs.YtmiencglfhpmeaaGreatDoor
namespace Go.Proofs.YtmiencglfhpmeaaGreatDoor
open Go.RowKit Hach Num
theorem rdE_none {l:Option (List UInt8)}(h:l.bind rdText=none):l.bind rdE=none:=by
 cases l with
 | none=>rfl
 | some l=>
  have h:rdText l=none:=h
  show rdE l=none
  unfold rdE;rw[h]
theorem rdE_some {l:Option (List UInt8)}{s r:List UInt8}(h:l.bind rdText=some (s,r)):l.bind rdE=if (parseE s).2=0∧chkE (parseE s).1=0∧txT (parseE s).1=s then some ((parseE s).1,r) else none:=by
 cases l with
 | none=>cases h
 | some l=>
  have h:rdText l=some (s,r):=h
  show rdE l=_
  unfold rdE;rw[h]
theorem rdText_len {l s r:List UInt8}(h:rdText l=some (s,r)):s.length≤l.length∧r.length≤l.length:=by
 obtain⟨_,h2⟩:=twinText.sole l s r h
 have:=congrArg List.length h2
 unfold wrText at this
 simp only[zG,zH]at this
 omega
theorem parse_chk {s:List UInt8}(h:(parseE s).2=0):chkE (parseE s).1=0:=by
 unfold parseE at h ⊢
 by_cases h1:4096<s.length
 ·rw[if_pos h1]at h;cases h
 ·rw[if_neg h1]at h ⊢
  cases hr:readT s with
  | none=>rw[hr]at h;cases h
  | some e=>
   rw[hr]at h
   by_cases hc:chkE e=0
   ·show chkE (if chkE e=0 then(e,0) else(zeroE,chkE e)).1=0
    rw[if_pos hc];exact hc
   ·have h:(if chkE e=0 then(e,0) else(zeroE,chkE e)).2=0:=h
    rw[if_neg hc]at h;exact absurd h hc
theorem parse_zero {s:List UInt8}(h:(parseE s).2=0):(parseE s).1.ok∧(parseE s).1.size<1099511627776:=by
 obtain⟨h1,h2⟩:=chk_rt (parse_chk h)
 exact⟨rt_ok h1,by omega⟩
theorem exl_grow {w w':World}{lo d b:Nat}{A:Option Addr}{l:List Ex}(h:ExL w (fun k=>lo≤k∧k<w.heap.size) d A l) (hg:w.grownBy w' (some b)) (hb:b<lo):ExL w' (fun k=>lo≤k∧k<w'.heap.size) d A l:=
 (h.keep fun k hk o=>grown_cell hg hk.2 (by simp;omega) o).more fun k hk=>⟨hk.1,zQ hk.2 hg.size⟩
theorem exl_low {w:World}{lo lo' d:Nat}{A:Option Addr}{l:List Ex}(h:ExL w (fun k=>lo≤k∧k<w.heap.size) d A l) (hl:lo'≤lo):ExL w (fun k=>lo'≤k∧k<w.heap.size) d A l:=h.more fun k hk=>⟨by omega,hk.2⟩
theorem exl_ext {w w':World}{lo d:Nat}{A:Option Addr}{l:List Ex}(h:ExL w (fun k=>lo≤k∧k<w.heap.size) d A l) (hE:Ext w w'):ExL w' (fun k=>lo≤k∧k<w'.heap.size) d A l:=
 (h.keep fun k hk o=>hE.old (p:=⟨k,o,none⟩) hk.2).more fun k hk=>⟨hk.1,zQ hk.2 hE.sz⟩
end Go.Proofs.YtmiencglfhpmeaaGreatDoor
namespace Go.Proofs.YtmiencglfhpmeaaGreatDoor
open Go.RowKit Hach Num
theorem rdText_less {l s r:List UInt8}(h:rdText l=some (s,r)):r.length<l.length:=twinText.less h
theorem rdInt_less {l r:List UInt8}{v:Int}(h:rdInt l=some (v,r)):r.length<l.length:=twinInt.less h
theorem rdE_less {l r:List UInt8}{x:Ex}(h:rdE l=some (x,r)):r.length<l.length:=by
 unfold rdE at h
 cases ht:rdText l with
 | none=>rw[ht]at h;cases h
 | some p=>
  rw[ht]at h
  simp only at h
  split at h
  ·have:=rdText_less (s:=p.1) (r:=p.2) ht
   simp only[zT,Prod.mk.injEq]at h
   rw[←h.2];exact this
  ·cases h
structure RdParts (l:List UInt8) (u:Rl) (r:List UInt8) (l1 l2 l3 l4 l5:List UInt8):Prop where
 p1:rdText l=some (u.nm,l1)
 p2:rdInt l1=some (u.pr,l2)
 p3:rdE l2=some (u.e1,l3)
 p4:rdE l3=some (u.e2,l4)
 p5:rdE l4=some (u.e3,l5)
 p6:rdE l5=some (u.e4,r)
theorem rdR_parts {l r:List UInt8}{u:Rl}(h:rdR l=some (u,r)) :∃l1 l2 l3 l4 l5,RdParts l u r l1 l2 l3 l4 l5:=by
 unfold rdR at h
 cases h1:rdText l with
 | none=>rw[h1]at h;cases h
 | some a=>
  rw[h1]at h;simp only at h
  cases h2:rdInt a.2 with
  | none=>rw[h2]at h;cases h
  | some b=>
   rw[h2]at h;simp only at h
   cases h3:rdE b.2 with
   | none=>rw[h3]at h;cases h
   | some c=>
    rw[h3]at h;simp only at h
    cases h4:rdE c.2 with
    | none=>rw[h4]at h;cases h
    | some d=>
     rw[h4]at h;simp only at h
     cases h5:rdE d.2 with
     | none=>rw[h5]at h;cases h
     | some e=>
      rw[h5]at h;simp only at h
      cases h6:rdE e.2 with
      | none=>rw[h6]at h;cases h
      | some f=>
       rw[h6]at h
       simp only[zT,Prod.mk.injEq]at h
       obtain⟨rfl,rfl⟩:=h
       exact⟨_,_,_,_,_,h1,h2,h3,h4,h5,h6⟩
theorem rdR_less {l r:List UInt8}{u:Rl}(h:rdR l=some (u,r)):r.length<l.length:=by
 obtain⟨l1,l2,l3,l4,l5,h1,h2,h3,h4,h5,h6⟩:=rdR_parts h
 have:=rdText_less h1
 have:=rdInt_less h2
 have:=rdE_less h3
 have:=rdE_less h4
 have:=rdE_less h5
 have:=rdE_less h6
 omega
theorem rdRs_fuel :∀(n:Nat) (l:List UInt8) (k:Nat) (acc:List Rl),l.length≤n→l.length≤k→rdRs k acc l=rdRs l.length acc l
 | 0,l,k,acc,hn,_=>by
  obtain rfl:l=[]:=zI.1 (by omega)
  cases k<;>rfl
 | n+1,[],k,acc,_,_=>by cases k<;>rfl
 | n+1,c::q,k,acc,hn,hk=>by
  rw[zH]at hn hk
  obtain⟨k',rfl⟩ :∃k',k=k'+1:=⟨k-1,by omega⟩
  rw[zH,rdRs,rdRs]
  cases h:rdR (c::q) with
  | none=>rfl
  | some p=>
   have:=rdR_less (u:=p.1) (r:=p.2) h
   rw[zH]at this
   show rdRs k' (acc++[p.1]) p.2=rdRs q.length (acc++[p.1]) p.2
   rw[rdRs_fuel n p.2 k' _ (by omega) (by omega),rdRs_fuel n p.2 q.length _ (by omega) (by omega)]
def goRs (acc:List Rl) (l:List UInt8):Got:=rdRs l.length acc l
theorem goRs_nil (acc:List Rl):goRs acc []=.all acc:=rfl
theorem goRs_some {acc:List Rl}{l r:List UInt8}{u:Rl}(h:rdR l=some (u,r)):goRs acc l=goRs (acc++[u]) r:=by
 unfold goRs
 have hl:=rdR_less h
 cases l with
 | nil=>simp at hl
 | cons c q=>
  rw[zH]at hl
  rw[zH,rdRs,h]
  exact rdRs_fuel q.length r q.length _ (by omega) (by omega)
theorem goRs_none {acc:List Rl}{l:List UInt8}(hl:l≠[]) (h:rdR l=none):goRs acc l=.bad (acc.length+1):=by
 unfold goRs
 cases l with
 | nil=>exact absurd rfl hl
 | cons c q=>rw[zH,rdRs,h]
theorem parse_go {s:List UInt8}(h:s.length≤262144):parseL s=parseG (goRs [] s):=by
 unfold parseL goRs;rw[if_neg (by omega)]
theorem put_mid {T:TypeId}{b:Nat}:∀(new old pre post:List Value) (w:World),w.heap[b]?=some (.cells (pre++(old++post)).toArray T (0,0))→old.length=new.length →
  (w.setCells b pre.length new).heap[b]?=some (.cells (pre++(new++post)).toArray T (0,0))∧w.grownBy (w.setCells b pre.length new) (some b)
 | [],old,pre,post,w,h,hl=>by
  obtain rfl:old=[]:=zI.1 (by simpa using hl)
  exact⟨h,grown_of (Ext.refl _) _⟩
 | v::new,[],pre,post,w,h,hl=>by simp at hl
 | v::new,o::old,pre,post,w,h,hl=>by
  have h1:(w.setCell ⟨b,pre.length,none⟩ v).heap[b]?=some (.cells ((pre++[v])++(old++post)).toArray T (0,0)):=by
   simp only[World.setCell,Array.getElem?_modify,if_pos,h,Option.map_some]
   simp
  have ih:=put_mid new old (pre++[v]) post (w.setCell ⟨b,pre.length,none⟩ v) h1 (by simpa using hl)
  rw[zG,List.length_singleton]at ih
  rw[World.setCells]
  refine⟨?_,grown_trans (grown_set w b pre.length v) ih.2⟩
  have:=ih.1
  simpa using this
theorem store_E {ops:Array Oper}{rest:List Oper}{op:Oper}{a:Act}{w:World}{Q:Exit→Act→World→Prop}(b o:Nat) (pre old post cs:List Value) (T:TypeId) (h:w.heap[b]?=some (.cells (pre++(old++post)).toArray T (0,0))) (ho:pre.length=o) (h7:old.length=7) (hc:cs.length=7) (h1 :∀v∈cs,v.oneCell'=true)
  (hgd:op.guard=none) (x y:Operand) (hop:op.op=.store 47 x y) (hx:a.eval x=.pointer (some ⟨b,o,none⟩)) (hy:a.eval y=.agg cs.toArray)
  (hk:wpList Tryz.prog ops Q rest (a.put op.dst undef) (w.setCells b o cs)):wpList Tryz.prog ops Q (op::rest) a w:=by
 subst ho
 obtain⟨i0,hi,_,hz1,_⟩:=info_parts infoE
 refine wpList_store_mid hgd 47 x y hop b pre.length cs.toArray hx hy (fun j hj=>?_) (by rw[hi];simp[hz1,hc]) (all_oneCell_toArray h1) hk
 have hj7:j<7:=by rw[←hc];simpa using hj
 refine⟨?_,by simp[World.frozen?,h]⟩
 have:(pre++(old++post))[pre.length+j]?=some old[j]:=by
  rw[List.getElem?_append_right (by omega),Nat.add_sub_cancel_left,List.getElem?_append_left (by omega),List.getElem?_eq_getElem (by omega)]
 simp[World.cell?,h,this]
end Go.Proofs.YtmiencglfhpmeaaGreatDoor
namespace Go.Proofs.YtmiencglfhpmeaaGreatDoor
open Go.RowKit Hach Num
def Rn.zero (nm:List UInt8):Rn:=⟨⟨nm,0,zeroE,zeroE,zeroE,zeroE⟩,none,none,none,none,0,0,0,0⟩
def Rn.setP (u:Rn) (v:Int):Rn:=⟨⟨u.r.nm,v,u.r.e1,u.r.e2,u.r.e3,u.r.e4⟩,u.A1,u.A2,u.A3,u.A4,u.c1,u.c2,u.c3,u.c4⟩
def Rn.set1 (u:Rn) (x:Ex) (A:Option Addr) (c:Nat):Rn:=⟨⟨u.r.nm,u.r.pr,x,u.r.e2,u.r.e3,u.r.e4⟩,A,u.A2,u.A3,u.A4,c,u.c2,u.c3,u.c4⟩
def Rn.set2 (u:Rn) (x:Ex) (A:Option Addr) (c:Nat):Rn:=⟨⟨u.r.nm,u.r.pr,u.r.e1,x,u.r.e3,u.r.e4⟩,u.A1,A,u.A3,u.A4,u.c1,c,u.c3,u.c4⟩
def Rn.set3 (u:Rn) (x:Ex) (A:Option Addr) (c:Nat):Rn:=⟨⟨u.r.nm,u.r.pr,u.r.e1,u.r.e2,x,u.r.e4⟩,u.A1,u.A2,A,u.A4,u.c1,u.c2,c,u.c4⟩
def Rn.set4 (u:Rn) (x:Ex) (A:Option Addr) (c:Nat):Rn:=⟨⟨u.r.nm,u.r.pr,u.r.e1,u.r.e2,u.r.e3,x⟩,u.A1,u.A2,u.A3,A,u.c1,u.c2,u.c3,c⟩
theorem ex_one (x:Ex) (A:Option Addr) (c:Nat) :∀v∈x.cells A c,v.oneCell'=true:=by
 intro v hv
 simp only[Ex.cells,List.mem_cons,List.mem_nil_iff,or_false]at hv
 rcases hv with rfl|rfl|rfl|rfl|rfl|rfl|rfl<;>rfl
variable {ops:Array Oper}{rest:List Oper}{op:Oper}{a:Act}{w:World}{Q:Exit→Act→World→Prop}
end Go.Proofs.YtmiencglfhpmeaaGreatDoor
