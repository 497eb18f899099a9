/- Environments that numbers make: the contract of the reference's Env (printed by gen_uf.py). -/
import Derived.Test.YtmiencglfhpmeaaGreatDoorKQOa
import Derived.Test.YtmiencglfhpmeaaGreatDoorKQXp
import Derived.Test.YtmiencglfhpmeaaGreatDoorKQOb
import Derived.Test.YtmiencglfhpmeaaGreatDoorKQSl
open List renaming cons_append → zA, exists_cons_of_ne_nil → zB, foldl_cons → zC, foldl_nil → zD, getD_cons_succ → zE, getD_cons_zero → zF, length_cons → zG, length_nil → zH, nil_append → zI, range_succ → zJ, range_zero → zK, setIfInBounds_toArray → zL, set_cons_succ → zM, set_cons_zero → zN
open Nat renaming lt_of_lt_of_le → zO, zero_add → zP
open Option renaming some.injEq → zQ
open Go.Lib renaming hid → zR
set_option linter.unusedSimpArgs false
set_option linter.unusedVariables false
namespace Go.Proofs.YtmiencglfhpmeaaGreatDoor
open Go.RowKit Hach
def boolP (b:Nat):SPr (DrS b):=⟨fun v _ =>∃q:Bool,v=.bool q,fun h _=>h⟩
def evVP (b:Nat):SPr (DrS b):=⟨fun v _ =>∃x:En,v=.agg #[.int .i64 x.kind,.string ⟨x.cls.toArray⟩,.string ⟨x.name.toArray⟩,.int .i64 x.weight,.int .i64 x.level,.bool x.stairs,.int .i64 x.scale,.int .i64 x.hour,.int .i64 x.reader],fun h _=>h⟩
def EvR (w:World) (e:Ending) (w':World):Prop :=∃x:En,e=.returned x.v∧Ext w w'
set_option maxRecDepth 100000 in
set_option maxHeartbeats 4000000 in
theorem rEnv_any (A:Option Addr) (n c:Nat) (w:World) (hL:LI w A n):Calls Tryz.prog 12 #[.slice A n c] w (EvR w):=by
 have hz:=EvZ.new w
 obtain⟨w0,hw0⟩ :∃w0,w.alloc (.cells Ev_zero 28)=w0:=⟨_,rfl⟩
 have hE0:Ext w w0:=by rw[←hw0];exact Ext.alloc _ _
 have hs0:w0.heap.size=w.heap.size+1:=by rw[←hw0];simp
 rw[hw0]at hz
 have HW:=zR hw0
 have hs0':w.heap.size+1≤w0.heap.size:=by omega
 have hs0'':w0.heap.size≤w.heap.size+1:=by omega
 have hD1:=DrA.new c (hL.ext hE0)
 have hE1:Ext w0 (w0.alloc (.cells #[.slice A n c,.int .i64 0] 86)):=Ext.alloc _ _
 have hz1:=hz.ext hE1
 unfold Ev_zero at HW
 clear hw0 hs0 hL
 go_enter Tryz.func12,Tryz.ntmps12
 go_upto_region 1 with fail
 rw[HW.out]
 go_upto_region 2 with fail
 obtain⟨b,hb⟩ :∃b,w0.heap.size=b:=⟨_,rfl⟩
 obtain⟨w1,hw1⟩ :∃w1,w0.alloc (.cells #[.slice A n c,.int .i64 0] 86)=w1:=⟨_,rfl⟩
 have hs1:w1.heap.size=w0.heap.size+1:=by rw[←hw1];simp
 rw[hw1]at hE1 hz1 hD1 ⊢
 rw[hb]at hD1 hs1 hs0' hs0'' ⊢
 have HE01:=zR (hE0.trans hE1)
 have hs1':b<w1.heap.size:=by omega
 clear hw1 hE1 hE0 hz hb hs1
 have DN:=zR (fun(m:Int) (W:World) (h:DrA W b) (h1:0<m) (h2:m<4294967296)=>draw_any m b W h h1 h2)
 have HD:=zR (fun(V:World) (h:DrS b w1.drew V)=>h.2 (hD1.ext (Ext.drew _)))
 have HSZ:=zR (fun(V:World) (h:DrS b w1.drew V)=>(zO hs1' h.1.size:b<V.heap.size))
 unfold dp at DN
 apply wp_region_rel (E:=DrS b) (DrS.refl b) (@DrS.trans b) (l:=[_,_,_,_,_,_,_,_,_,_,_,_,_,_,_,_,_,_,_,_,_,_,_,_,_,_,_,_,_,_]) (t:=[_]) [some 7,some 8,some 9,some 10,some 11,some 12,some 13,some 14,some 15,some 16,some 17,some 18,some 19,some 20,some 21,some 22,some 23,some 24,some 25,some 26,some 27,some 28,some 29,some 30,some 31,some 32,some 33,some 34,some 35,some 36,none] [[],[0],[1],[],[],[4],[3,5],[6],[],[],[9],[8,10],[11],[],[13],[14],[],[16],[17],[],[19],[20],[],[22],[],[24],[],[26],[27],[2,7,12,15,18,21,23,25,28],[29]] [30,30,30,30,30,30,30,30,30,30,30,30,30,30,30,30,30,30,30,30,30,30,30,30,30,30,30,30,30,30] [eqr _,(numP b 0 3),(numP b 1 4),(strsP b [[112,97,114,107],[112,97,116,104],[116,114,101,101],[112,111,110,100]] 4),eqr _,(numP b 0 4),(atSP b (fun _=>True)),(strP b (fun _=>True)),(strsP b [[],[71,114,101,101,110]] 2),eqr _,(numP b 0 2),(atSP b (fun _=>True)),(strP b (fun _=>True)),eqr _,(numP b 0 25),(numP b 1 26),eqr _,(numP b 0 3),(numP b (-1) 2),eqr _,(numP b 0 2),(boolP b),eqr _,(numP b 0 120),eqr _,(numP b 0 24),eqr _,(numP b 0 3),(numP b 1 4),(evVP b)] (by kernel_rfl) (by kernel_rfl) ⟨?o0,?o1,?o2,?o3,?o4,?o5,?o6,?o7,?o8,?o9,?o10,?o11,?o12,?o13,?o14,?o15,?o16,?o17,?o18,?o19,?o20,?o21,?o22,?o23,?o24,?o25,?o26,?o27,?o28,?o29,trivial⟩ ?last
 case o0|o4|o9|o13|o16|o19|o22|o24|o26=>
  intro xv W hE hp
  try have q0:xv _=_:=hp.1
  clear hp
  simp only[putD,zD,zC,zF,zE,Act.put,zL,zN,zM]
  refine OpGoal.plain ?_
  go_wp2_with fail
  exact⟨rfl,(DrS.refl b) _,rfl⟩
 case o1=>
  intro xv W hE hp
  have r0:xv 0=_:=hp.1
  clear hp
  simp only[putD,zD,zC,zF,zE,Act.put,zL,zN,zM]
  refine OpGoal.plain ?_
  go_wp2_with fail
  refine(DN.out 3 W (HD.out W hE) (by decide) (by decide)).mono ?_
  rintro e w' ⟨k,ka,kb,rfl,hD',hg⟩
  go_wp2_with fail
  exact⟨rfl,⟨hg,fun _=>hD'⟩,k,rfl,ka,kb⟩
 case o2=>
  intro xv W hE hp
  obtain⟨k1,r1,lo1,hi1⟩:=hp.1
  clear hp
  simp only[putD,zD,zC,zF,zE,Act.put,zL,zN,zM]
  refine OpGoal.plain ?_
  go_wp2_with fail
  exact⟨rfl,DrS.refl b _,1+k1,rfl,by omega,by omega⟩
 case o3=>
  intro xv W hE _
  simp only[putD,zD,zF,zE]
  refine OpGoal.plain ?_
  go_wp2_with fail
  exact⟨rfl,DrS.ext (Ext.alloc _ _),W.heap.size,rfl,HSZ.out W hE,by simp,fun j hj=>by rw[World.cell?_alloc_new];rcases(by omega:j=0∨j=1∨j=2∨j=3) with rfl|rfl|rfl|rfl<;>rfl⟩
 case o5=>
  intro xv W hE hp
  have r4:xv 4=_:=hp.1
  clear hp
  simp only[putD,zD,zC,zF,zE,Act.put,zL,zN,zM]
  refine OpGoal.plain ?_
  go_wp2_with fail
  refine(DN.out 4 W (HD.out W hE) (by decide) (by decide)).mono ?_
  rintro e w' ⟨k,ka,kb,rfl,hD',hg⟩
  go_wp2_with fail
  exact⟨rfl,⟨hg,fun _=>hD'⟩,k,rfl,ka,kb⟩
 case o6=>
  intro xv W hE hp
  obtain⟨g3,r3,lb3,lt3,hc3⟩:=hp.1
  obtain⟨k5,r5,lo5,hi5⟩:=hp.2.1
  clear hp
  obtain⟨jj,rfl⟩ :∃jj:Nat,k5=(jj:Int):=⟨k5.toNat,by omega⟩
  simp only[putD,zD,zC,zF,zE,Act.put,zL,zN,zM]
  refine OpGoal.plain ?_
  go_wp2_with fail
  exact⟨rfl,DrS.refl b _,g3,jj,_,rfl,lb3,lt3,trivial,hc3 jj (by omega)⟩
 case o7=>
  intro xv W hE hp
  obtain⟨g6,j6,s6,r6,lb6,lt6,hQ6,hc6⟩:=hp.1
  clear hp
  simp only[putD,zD,zC,zF,zE,Act.put,zL,zN,zM]
  refine OpGoal.plain ?_
  go_wp2_with fail
  exact⟨rfl,DrS.refl b _,s6,rfl,trivial⟩
 case o8=>
  intro xv W hE _
  simp only[putD,zD,zF,zE]
  refine OpGoal.plain ?_
  go_wp2_with fail
  exact⟨rfl,DrS.ext (Ext.alloc _ _),W.heap.size,rfl,HSZ.out W hE,by simp,fun j hj=>by rw[World.cell?_alloc_new];rcases(by omega:j=0∨j=1) with rfl|rfl<;>rfl⟩
 case o10=>
  intro xv W hE hp
  have r9:xv 9=_:=hp.1
  clear hp
  simp only[putD,zD,zC,zF,zE,Act.put,zL,zN,zM]
  refine OpGoal.plain ?_
  go_wp2_with fail
  refine(DN.out 2 W (HD.out W hE) (by decide) (by decide)).mono ?_
  rintro e w' ⟨k,ka,kb,rfl,hD',hg⟩
  go_wp2_with fail
  exact⟨rfl,⟨hg,fun _=>hD'⟩,k,rfl,ka,kb⟩
 case o11=>
  intro xv W hE hp
  obtain⟨g8,r8,lb8,lt8,hc8⟩:=hp.1
  obtain⟨k10,r10,lo10,hi10⟩:=hp.2.1
  clear hp
  obtain⟨jj,rfl⟩ :∃jj:Nat,k10=(jj:Int):=⟨k10.toNat,by omega⟩
  simp only[putD,zD,zC,zF,zE,Act.put,zL,zN,zM]
  refine OpGoal.plain ?_
  go_wp2_with fail
  exact⟨rfl,DrS.refl b _,g8,jj,_,rfl,lb8,lt8,trivial,hc8 jj (by omega)⟩
 case o12=>
  intro xv W hE hp
  obtain⟨g11,j11,s11,r11,lb11,lt11,hQ11,hc11⟩:=hp.1
  clear hp
  simp only[putD,zD,zC,zF,zE,Act.put,zL,zN,zM]
  refine OpGoal.plain ?_
  go_wp2_with fail
  exact⟨rfl,DrS.refl b _,s11,rfl,trivial⟩
 case o14=>
  intro xv W hE hp
  have r13:xv 13=_:=hp.1
  clear hp
  simp only[putD,zD,zC,zF,zE,Act.put,zL,zN,zM]
  refine OpGoal.plain ?_
  go_wp2_with fail
  refine(DN.out 25 W (HD.out W hE) (by decide) (by decide)).mono ?_
  rintro e w' ⟨k,ka,kb,rfl,hD',hg⟩
  go_wp2_with fail
  exact⟨rfl,⟨hg,fun _=>hD'⟩,k,rfl,ka,kb⟩
 case o15=>
  intro xv W hE hp
  obtain⟨k14,r14,lo14,hi14⟩:=hp.1
  clear hp
  simp only[putD,zD,zC,zF,zE,Act.put,zL,zN,zM]
  refine OpGoal.plain ?_
  go_wp2_with fail
  exact⟨rfl,DrS.refl b _,1+k14,rfl,by omega,by omega⟩
 case o17=>
  intro xv W hE hp
  have r16:xv 16=_:=hp.1
  clear hp
  simp only[putD,zD,zC,zF,zE,Act.put,zL,zN,zM]
  refine OpGoal.plain ?_
  go_wp2_with fail
  refine(DN.out 3 W (HD.out W hE) (by decide) (by decide)).mono ?_
  rintro e w' ⟨k,ka,kb,rfl,hD',hg⟩
  go_wp2_with fail
  exact⟨rfl,⟨hg,fun _=>hD'⟩,k,rfl,ka,kb⟩
 case o18=>
  intro xv W hE hp
  obtain⟨k17,r17,lo17,hi17⟩:=hp.1
  clear hp
  simp only[putD,zD,zC,zF,zE,Act.put,zL,zN,zM]
  refine OpGoal.plain ?_
  go_wp2_with fail
  exact⟨rfl,DrS.refl b _,k17-1,rfl,by omega,by omega⟩
 case o20=>
  intro xv W hE hp
  have r19:xv 19=_:=hp.1
  clear hp
  simp only[putD,zD,zC,zF,zE,Act.put,zL,zN,zM]
  refine OpGoal.plain ?_
  go_wp2_with fail
  refine(DN.out 2 W (HD.out W hE) (by decide) (by decide)).mono ?_
  rintro e w' ⟨k,ka,kb,rfl,hD',hg⟩
  go_wp2_with fail
  exact⟨rfl,⟨hg,fun _=>hD'⟩,k,rfl,ka,kb⟩
 case o21=>
  intro xv W hE hp
  obtain⟨k20,r20,lo20,hi20⟩:=hp.1
  clear hp
  simp only[putD,zD,zC,zF,zE,Act.put,zL,zN,zM]
  refine OpGoal.plain ?_
  go_wp2_with fail
  exact⟨rfl,DrS.refl b _,_,rfl⟩
 case o23=>
  intro xv W hE hp
  have r22:xv 22=_:=hp.1
  clear hp
  simp only[putD,zD,zC,zF,zE,Act.put,zL,zN,zM]
  refine OpGoal.plain ?_
  go_wp2_with fail
  refine(DN.out 120 W (HD.out W hE) (by decide) (by decide)).mono ?_
  rintro e w' ⟨k,ka,kb,rfl,hD',hg⟩
  go_wp2_with fail
  exact⟨rfl,⟨hg,fun _=>hD'⟩,k,rfl,ka,kb⟩
 case o25=>
  intro xv W hE hp
  have r24:xv 24=_:=hp.1
  clear hp
  simp only[putD,zD,zC,zF,zE,Act.put,zL,zN,zM]
  refine OpGoal.plain ?_
  go_wp2_with fail
  refine(DN.out 24 W (HD.out W hE) (by decide) (by decide)).mono ?_
  rintro e w' ⟨k,ka,kb,rfl,hD',hg⟩
  go_wp2_with fail
  exact⟨rfl,⟨hg,fun _=>hD'⟩,k,rfl,ka,kb⟩
 case o27=>
  intro xv W hE hp
  have r26:xv 26=_:=hp.1
  clear hp
  simp only[putD,zD,zC,zF,zE,Act.put,zL,zN,zM]
  refine OpGoal.plain ?_
  go_wp2_with fail
  refine(DN.out 3 W (HD.out W hE) (by decide) (by decide)).mono ?_
  rintro e w' ⟨k,ka,kb,rfl,hD',hg⟩
  go_wp2_with fail
  exact⟨rfl,⟨hg,fun _=>hD'⟩,k,rfl,ka,kb⟩
 case o28=>
  intro xv W hE hp
  obtain⟨k27,r27,lo27,hi27⟩:=hp.1
  clear hp
  simp only[putD,zD,zC,zF,zE,Act.put,zL,zN,zM]
  refine OpGoal.plain ?_
  go_wp2_with fail
  exact⟨rfl,DrS.refl b _,1+k27,rfl,by omega,by omega⟩
 case o29=>
  intro xv W hE hp
  obtain⟨k2,r2,lo2,hi2⟩:=hp.1
  obtain⟨s7,r7,hQ7⟩:=hp.2.1
  obtain⟨s12,r12,hQ12⟩:=hp.2.2.1
  obtain⟨k15,r15,lo15,hi15⟩:=hp.2.2.2.1
  obtain⟨k18,r18,lo18,hi18⟩:=hp.2.2.2.2.1
  obtain⟨q21,r21⟩:=hp.2.2.2.2.2.1
  obtain⟨k23,r23,lo23,hi23⟩:=hp.2.2.2.2.2.2.1
  obtain⟨k25,r25,lo25,hi25⟩:=hp.2.2.2.2.2.2.2.1
  obtain⟨k28,r28,lo28,hi28⟩:=hp.2.2.2.2.2.2.2.2.1
  clear hp
  simp only[putD,zD,zC,zF,zE,Act.put,zL,zN,zM]
  refine OpGoal.plain ?_
  go_wp2_with fail
  exact⟨rfl,DrS.refl b _,⟨k2,s7,s12,k15,k18,q21,k23,k25,k28⟩,rfl⟩
 case last=>
  intro xv W hE hp
  have r0:xv 0=_:=hp.1
  obtain⟨k1,r1,lo1,hi1⟩:=hp.2.1
  obtain⟨k2,r2,lo2,hi2⟩:=hp.2.2.1
  obtain⟨g3,r3,lb3,lt3,hc3⟩:=hp.2.2.2.1
  have r4:xv 4=_:=hp.2.2.2.2.1
  obtain⟨k5,r5,lo5,hi5⟩:=hp.2.2.2.2.2.1
  obtain⟨g6,j6,s6,r6,lb6,lt6,hQ6,hc6⟩:=hp.2.2.2.2.2.2.1
  obtain⟨s7,r7,hQ7⟩:=hp.2.2.2.2.2.2.2.1
  obtain⟨g8,r8,lb8,lt8,hc8⟩:=hp.2.2.2.2.2.2.2.2.1
  have r9:xv 9=_:=hp.2.2.2.2.2.2.2.2.2.1
  obtain⟨k10,r10,lo10,hi10⟩:=hp.2.2.2.2.2.2.2.2.2.2.1
  obtain⟨g11,j11,s11,r11,lb11,lt11,hQ11,hc11⟩:=hp.2.2.2.2.2.2.2.2.2.2.2.1
  obtain⟨s12,r12,hQ12⟩:=hp.2.2.2.2.2.2.2.2.2.2.2.2.1
  have r13:xv 13=_:=hp.2.2.2.2.2.2.2.2.2.2.2.2.2.1
  obtain⟨k14,r14,lo14,hi14⟩:=hp.2.2.2.2.2.2.2.2.2.2.2.2.2.2.1
  obtain⟨k15,r15,lo15,hi15⟩:=hp.2.2.2.2.2.2.2.2.2.2.2.2.2.2.2.1
  have r16:xv 16=_:=hp.2.2.2.2.2.2.2.2.2.2.2.2.2.2.2.2.1
  obtain⟨k17,r17,lo17,hi17⟩:=hp.2.2.2.2.2.2.2.2.2.2.2.2.2.2.2.2.2.1
  obtain⟨k18,r18,lo18,hi18⟩:=hp.2.2.2.2.2.2.2.2.2.2.2.2.2.2.2.2.2.2.1
  have r19:xv 19=_:=hp.2.2.2.2.2.2.2.2.2.2.2.2.2.2.2.2.2.2.2.1
  obtain⟨k20,r20,lo20,hi20⟩:=hp.2.2.2.2.2.2.2.2.2.2.2.2.2.2.2.2.2.2.2.2.1
  obtain⟨q21,r21⟩:=hp.2.2.2.2.2.2.2.2.2.2.2.2.2.2.2.2.2.2.2.2.2.1
  have r22:xv 22=_:=hp.2.2.2.2.2.2.2.2.2.2.2.2.2.2.2.2.2.2.2.2.2.2.1
  obtain⟨k23,r23,lo23,hi23⟩:=hp.2.2.2.2.2.2.2.2.2.2.2.2.2.2.2.2.2.2.2.2.2.2.2.1
  have r24:xv 24=_:=hp.2.2.2.2.2.2.2.2.2.2.2.2.2.2.2.2.2.2.2.2.2.2.2.2.1
  obtain⟨k25,r25,lo25,hi25⟩:=hp.2.2.2.2.2.2.2.2.2.2.2.2.2.2.2.2.2.2.2.2.2.2.2.2.2.1
  have r26:xv 26=_:=hp.2.2.2.2.2.2.2.2.2.2.2.2.2.2.2.2.2.2.2.2.2.2.2.2.2.2.1
  obtain⟨k27,r27,lo27,hi27⟩:=hp.2.2.2.2.2.2.2.2.2.2.2.2.2.2.2.2.2.2.2.2.2.2.2.2.2.2.2.1
  obtain⟨k28,r28,lo28,hi28⟩:=hp.2.2.2.2.2.2.2.2.2.2.2.2.2.2.2.2.2.2.2.2.2.2.2.2.2.2.2.2.1
  obtain⟨x,r29⟩:=hp.2.2.2.2.2.2.2.2.2.2.2.2.2.2.2.2.2.2.2.2.2.2.2.2.2.2.2.2.2.1
  clear hp
  simp only[putD,zD,zC,zF,zE,Act.put,zG,zH,zJ,zK,zI,zA,zL,zN,zM]
  have hE2:Ext w W:=ext_fresh (HE01.out.trans (Ext.drew w1)) hE.1 (by omega)
  have hzW:EvZ W w.heap.size:=(hz1.ext (Ext.drew w1)).own hE.1 (by simp;omega)
  rw[r29]
  have hGf:=setEv_grown W w.heap.size x
  have hEf:Ext w (setEv W w.heap.size x):=Below.trans hE2 (below_row' hGf hE2.sz (fun g e=>by simp only[zQ]at e;omega))
  have HEf:=zR hEf
  have HZb:=zR hzW
  obtain⟨u0,u1,u2,u3,u4,u5,u6,u7,u8⟩:=hzW.cells
  obtain⟨f0,f1,f2,f3,f4,f5,f6,f7,f8⟩:=hzW.free
  clear hGf hEf hE2 hE hzW HD HSZ hD1 hz1 HE01
  go_wp2_with fail
  exact finEvZ rfl x HZb.out rfl ⟨x,rfl,HEf.out⟩
end Go.Proofs.YtmiencglfhpmeaaGreatDoor
namespace Go.Proofs.YtmiencglfhpmeaaGreatDoor
open Go.RowKit Hach
set_option maxRecDepth 100000 in
theorem lawCut_any (x:En) (hx:x.raw) (w:World):Calls Tryz.prog 13 #[x.v] w fun e w'=>e=.returned (x.cut 40).v∧Ext w w':=by
 have h1:=take_cut x.cls 40
 have h2:=take_cut x.name 40
 have hs1:=toArr_size x.cls
 have hs2:=toArr_size x.name
 have hx1:=hx.2.1
 have hx2:=hx.2.2.1
 obtain⟨w0,hw0⟩ :∃w0,w.alloc (.cells (Ev_row x) 28)=w0:=⟨_,rfl⟩
 have hB0:=EvB.new w x
 rw[hw0]at hB0
 have hE0:Ext w w0:=by rw[←hw0];exact Ext.alloc _ _
 have hs0:w0.heap.size=w.heap.size+1:=by rw[←hw0];simp
 obtain⟨w1,hw1⟩ :∃w1,w0.alloc (.cells Ev_zero 28)=w1:=⟨_,rfl⟩
 have hZ1:=EvZ.new w0
 have hE1:Ext w0 w1:=by rw[←hw1];exact Ext.alloc _ _
 rw[hw1,hs0]at hZ1
 have hB1:=hB0.ext hE1
 have hs1':w1.heap.size=w.heap.size+2:=by rw[←hw1];simp;omega
 unfold Ev_row at hw0
 unfold Ev_zero at hw1
 have HW0:=zR hw0
 have HW1:=zR hw1
 have HB1:=zR hB1
 obtain⟨sn,hsn⟩ :∃v:ByteArray,(⟨x.name.toArray⟩:ByteArray)=v:=⟨_,rfl⟩
 obtain⟨sc,hsc⟩ :∃v:ByteArray,(⟨x.cls.toArray⟩:ByteArray)=v:=⟨_,rfl⟩
 have hb1:sc.size<9223372036854775808:=by rw[←hsc,hs1];omega
 have hb2:sn.size<9223372036854775808:=by rw[←hsn,hs2];omega
 have HN:=zR hsn
 have HC:=zR hsc
 rw[hsc]at h1
 rw[hsn]at h2
 have H1:=zR h1
 have H2:=zR h2
 have hE01:=hE0.trans hE1
 obtain⟨_,p1,p2,_⟩:=hB1.cells
 rw[hsc]at p1
 rw[hsn]at p2
 obtain⟨_,f1,f2,_⟩:=hB1.free
 unfold En.v
 clear hw0 hw1 hs1 hs2 hx hx1 hx2 hB0 hB1 hs0 hsn hsc h1 h2 hE0 hE1
 go_enter Tryz.func13,Tryz.ntmps13
 go_upto_region 1 with fail
 rw[HW0.out,HW1.out]
 go_upto_region 3 with fail
 have ec:sc.extract 0 (min (sc.size:Int) 40).toNat=⟨(x.cls.take 40).toArray⟩:=by rw[←H1.out];congr 1;omega
 have en:sn.extract 0 (min (sn.size:Int) 40).toNat=⟨(x.name.take 40).toArray⟩:=by rw[←H2.out];congr 1;omega
 rw[ec,en]
 have hB3:=(HB1.out.set1 (x.cls.take 40)).set2 (x.name.take 40)
 have hG:=grown_trans (grown_set w1 w.heap.size 1 (.string ⟨(x.cls.take 40).toArray⟩)) (grown_set (w1.setCell ⟨w.heap.size,1,none⟩ (.string ⟨(x.cls.take 40).toArray⟩)) w.heap.size 2 (.string ⟨(x.name.take 40).toArray⟩))
 have hZ3:=hZ1.own hG (by simp)
 have hE3:Ext w ((w1.setCell ⟨w.heap.size,1,none⟩ (.string ⟨(x.cls.take 40).toArray⟩)).setCell ⟨w.heap.size,2,none⟩ (.string ⟨(x.name.take 40).toArray⟩)):=Below.trans hE01 (below_row' hG (by have:=hE01.sz;simpa using this) (fun g e=>by simp only[zQ]at e;omega))
 generalize (w1.setCell ⟨w.heap.size,1,none⟩ (.string ⟨(x.cls.take 40).toArray⟩)).setCell ⟨w.heap.size,2,none⟩ (.string ⟨(x.name.take 40).toArray⟩)=w3 at hB3 hZ3 hE3 ⊢
 clear hG hZ1 HB1 p1 p2 f1 f2 ec en H1 H2 HN HC HW0 HW1 hE01 hs1' hb1 hb2
 obtain⟨p0,p1,p2,p3,p4,p5,p6,p7,p8⟩:=hB3.cells
 obtain⟨u0,u1,u2,u3,u4,u5,u6,u7,u8⟩:=hZ3.cells
 obtain⟨f0,f1,f2,f3,f4,f5,f6,f7,f8⟩:=hZ3.free
 have hGf:=setEv_grown w3 (w.heap.size+1) (x.cut 40)
 have hEf:Ext w (setEv w3 (w.heap.size+1) (x.cut 40)):=Below.trans hE3 (below_row' hGf hE3.sz (fun g e=>by simp only[zQ]at e;omega))
 have HEf:=zR hEf
 clear hGf hEf hE3
 go_wp2_with fail
 exact finEvZ rfl (x.cut 40) hZ3 rfl ⟨rfl,HEf.out⟩
structure RowT (W:World) (A:Option Addr) (c d:Nat) (l:List Rl):Prop where
 x:RlB W W.heap.size d A l
 c1:l.length≤c
 c2:c<9223372036854775808
 le:l.length≤100
 ne:l≠[]
 ok :∀r∈l,r.ok∧r.small
theorem RowT.ext {W W':World}{A:Option Addr}{c d:Nat}{l:List Rl}(h:RowT W A c d l) (hE:Ext W W'):RowT W' A c d l:=⟨RlL.ext h.x hE,h.c1,h.c2,h.le,h.ne,h.ok⟩
def AllR (w:World) (e:Ending) (w':World):Prop :=∃(A0 A1 A2:Option Addr) (c0 c1 c2 d0 d1 d2:Nat) (l0 l1 l2:List Rl),e=.returned (.agg #[.slice A0 l0.length c0,.slice A1 l1.length c1,.slice A2 l2.length c2])∧RowT w' A0 c0 d0 l0∧RowT w' A1 c1 d1 l1∧RowT w' A2 c2 d2 l2∧Ext w w'
theorem infoT3:(Tryz.prog.info? 23).map (fun i=>(i.zero,i.size,i.bytes))=some (some (.agg #[.int .i64 0,.int .i64 0,.int .i64 0]),3,24):=by kernel_rfl
theorem load_3 {ops:Array Oper}{rest:List Oper}{op:Oper}{a:Act}{w:World}{Q:Exit→Act→World→Prop}(hgd:op.guard=none) (x:Operand) (ho:op.op=.load 23 x) (b o:Nat) (cs:List Value) (hr:w.rangeAt b o cs) (h7:cs.length=3)
  (hx:a.eval x=.pointer (some ⟨b,o,none⟩)) (h:wpList Tryz.prog ops Q rest (a.put op.dst (.agg cs.toArray)) w):wpList Tryz.prog ops Q (op::rest) a w:=by
 obtain⟨i0,hi,_,hz1,_⟩:=info_parts infoT3
 exact wpList_load_mid hgd _ x ho b o hx cs _ hr Tryz.underlying23 rfl (by rw[hi];simp[hz1,h7]) h
def ca7 (A:Option Addr) (n c:Nat) (p0 p1 p2 q0 q1 q2:Int):Array Value:=#[.slice A n c,.int .i64 p0,.int .i64 p1,.int .i64 p2,.int .i64 q0,.int .i64 q1,.int .i64 q2]
theorem zero_boxes (w:World) (C0 C1:Array Value) (T0 T1:TypeId) :∃W,(w.alloc (.cells C0 T0)).alloc (.cells C1 T1)=W∧Ext w W∧W.heap.size=w.heap.size+2 ∧
  (∀(V:World),Ext W V →∀(i:Nat) (v:Value),C0[i]?=some v→V.cell? ⟨w.heap.size,i,none⟩=some v)∧(∀(V:World),Ext W V→V.heap[w.heap.size+1]?=some (.cells C1 T1 (0,0))):=by
 have h0:=Ext.alloc w (.cells C0 T0)
 have h1:=Ext.alloc (w.alloc (.cells C0 T0)) (.cells C1 T1)
 refine⟨_,rfl,h0.trans h1,by simp,fun V h i v hi=>?_,fun V h=>?_⟩
 ·rw[(h1.trans h).old (p:=⟨w.heap.size,i,none⟩) (by simp),World.cell?_alloc_new];exact hi
 ·rw[h.below.block (w.heap.size+1) (by simp)]
  have:=Go.heap_alloc_new (w.alloc (.cells C0 T0)) (.cells C1 T1)
  simp only[World.size_alloc]at this
  exact this
theorem ExL.off {w:World}{S:Nat→Prop}{B:Nat}(hB :∀o,3≤o→w.cell? ⟨B,o,none⟩=none) :∀ {d:Nat}{A:Option Addr}{l:List Ex},ExL w S d A l→ExL w (fun b=>S b∧b≠B) d A l
 | 0,_,_,h=>h
 | d+1,A,l,h=>fun hl=>by
  obtain⟨b,o,e,hb,hx⟩:=h hl
  refine⟨b,o,e,⟨hb,fun e2=>?_⟩,fun j x hj=>?_⟩
  ·subst e2
   obtain⟨x,u,rfl⟩:=zB hl
   obtain⟨A',c',_,h2⟩:=hx 0 x rfl
   have:=h2 6 (.slice A' x.l.length c') rfl
   rw[hB _ (by omega)]at this
   cases this
  ·obtain⟨A',c',h1,h2⟩:=hx j x hj
   exact⟨A',c',ExL.off hB h1,h2⟩
theorem RlL.off {w:World}{S:Nat→Prop}{B d:Nat}{A:Option Addr}{l:List Rl}(h:RlL w S d A l) (hB :∀o,3≤o→w.cell? ⟨B,o,none⟩=none):RlL w (fun b=>S b∧b≠B) d A l:=fun hl=>by
 obtain⟨b,o,e,hb,hx⟩:=h hl
 refine⟨b,o,e,⟨hb,fun e2=>?_⟩,fun j r hj=>?_⟩
 ·subst e2
  obtain⟨r,u,rfl⟩:=zB hl
  obtain⟨v,_,_,h3⟩:=hx 0 r rfl
  have:=h3 8 (.slice v.A1 v.r.e1.l.length v.c1) rfl
  rw[hB _ (by omega)]at this
  cases this
 ·obtain⟨u,h1,h2,h3⟩:=hx j r hj
  exact⟨u,h1,⟨ExL.off hB h2.k1,ExL.off hB h2.k2,ExL.off hB h2.k3,ExL.off hB h2.k4⟩,h3⟩
theorem few {w:World}{B:Nat}{a b c:Value}{T:TypeId}(h:w.heap[B]?=some (.cells #[a,b,c] T (0,0))) :∀o,3≤o→w.cell? ⟨B,o,none⟩=none:=fun o ho=>by
 simp only[World.cell?,h]
 exact Array.getElem?_eq_none (by simpa using ho)
theorem RowT.put {W W':World}{B:Nat}{A:Option Addr}{c d:Nat}{l:List Rl}(h:RowT W A c d l) (hB :∀o,3≤o→W.cell? ⟨B,o,none⟩=none) (hg:W.grownBy W' (some B)):RowT W' A c d l:=by
 refine⟨?_,h.c1,h.c2,h.le,h.ne,h.ok⟩
 have h1:=RlL.off h.x hB
 have h2:=RlL.keep h1 (w':=W') fun b hb o=>grown_cell hg hb.1 (fun e=>hb.2 (Option.some.inj e).symm) o
 exact RlL.more h2 fun b hb=>zO hb.1 hg.size
theorem one3 (a b c:Value) (ha:a.oneCell'=true) (hb:b.oneCell'=true) (hc:c.oneCell'=true) :∀v∈[a,b,c],v.oneCell'=true:=by
 intro v hv
 simp only[List.mem_cons,List.mem_nil_iff,or_false]at hv
 rcases hv with rfl|rfl|rfl
 ·exact ha
 ·exact hb
 ·exact hc
theorem info3R:(Tryz.prog.info? 31).map (·.size)=some 3:=by kernel_rfl
theorem res3 {fn:Func}{t:Tmp}(hr:fn.results=#[.cell t 31]) {W:World}{b:Nat}{a0 a1 a2:Option Addr}{n0 n1 n2 c0 c1 c2:Nat}(h:W.heap[b]?=some (.cells #[.slice a0 n0 c0,.slice a1 n1 c1,.slice a2 n2 c2] 31 (0,0))) (tmps:Array Value) (ht:tmps.getD t undef=.pointer (some ⟨b,0,none⟩)) :
  (results fn tmps).run Tryz.prog W=.ok (.agg #[.slice a0 n0 c0,.slice a1 n1 c1,.slice a2 n2 c2]) W:=by
 have p0:W.cell? ⟨b,0,none⟩=some (.slice a0 n0 c0):=cells_of h 0 _ rfl
 have p1:W.cell? ⟨b,1,none⟩=some (.slice a1 n1 c1):=cells_of h 1 _ rfl
 have p2:W.cell? ⟨b,2,none⟩=some (.slice a2 n2 c2):=cells_of h 2 _ rfl
 clear h
 rw[Array.getD_eq_getD_getElem?]at ht
 simp only[results,hr]
 go_simp
set_option maxRecDepth 100000 in
set_option maxHeartbeats 4000000 in
theorem all_any (A:Option Addr) (n c:Nat) (p0 p1 p2 q0 q1 q2:Int) (w:World) (hL:LI w A n) :
  Calls Tryz.prog 11 #[.agg (ca7 A n c p0 p1 p2 q0 q1 q2)] w (AllR w):=by
 obtain⟨w1,hw1,hE1,hs1,hC,hZ⟩:=zero_boxes w (ca7 A n c p0 p1 p2 q0 q1 q2) #[.slice none 0 0,.slice none 0 0,.slice none 0 0] 26 31
 have hQ :∀V:World,Ext w1 V→V.cell? ⟨w.heap.size,0,none⟩=some (.slice A n c)∧V.rangeAt w.heap.size 1 [.int .i64 p0,.int .i64 p1,.int .i64 p2]∧V.rangeAt w.heap.size 4 [.int .i64 q0,.int .i64 q1,.int .i64 q2]:=fun V h=>by
  refine⟨hC V h 0 _ rfl,?_,?_⟩
  ·intro j v hj
   match j,hj with
   | 0,hj=>exact hC V h 1 v hj
   | 1,hj=>exact hC V h 2 v hj
   | 2,hj=>exact hC V h 3 v hj
  ·intro j v hj
   match j,hj with
   | 0,hj=>exact hC V h 4 v hj
   | 1,hj=>exact hC V h 5 v hj
   | 2,hj=>exact hC V h 6 v hj
 have HQ:=zR hQ
 have HZ:=zR hZ
 have HW1:=zR hw1
 have HL:=zR (hL.ext hE1)
 have HE:=zR hE1
 have HS:=zR hs1
 unfold ca7 at HW1 ⊢
 clear hQ hC hZ hw1 hL hE1 hs1
 go_enter Tryz.func11,Tryz.ntmps11
 go_upto_region 1 with fail
 rw[HW1.out]
 obtain⟨z0,_⟩:=HQ.out w1 (Ext.refl _)
 go_wp2_with fail
 refine(rMade_any A n c w1 HL.out).mono ?_
 rintro e w2 ⟨l0,us,g0,c0,d0,hM,rfl,hB,hE2⟩
 have hM4:=hM.le
 have HR0:=zR (⟨hB.rlb,hB.cap.1,hB.cap.2,by omega,List.length_pos_iff.1 hM.pos,hM.ok⟩:RowT w2 (some ⟨g0,0,none⟩) c0 d0 l0)
 have HE2:=zR hE2
 obtain⟨N,hN⟩ :∃q,l0.length=q:=⟨_,rfl⟩
 have hl4:N≤4:=by rw[←hN];exact hM4
 have O1:=zR (fun(V:World) (h:Ext w2 V)=>Odd_any l0 (some ⟨g0,0,none⟩) c0 d0 p0 p1 p2 V (HR0.out.ext h).x HR0.out.ne (by omega) HR0.out.ok)
 rw[hN]at O1 ⊢
 have HN:=zR hN
 obtain⟨_,z1,_⟩:=HQ.out w2 HE2.out
 clear z0 hN hM hB hE2 hM4
 go_wp2_with (refine load_3 rfl _ rfl w.heap.size 1 _ z1 rfl rfl ?_)
 refine(O1.out w2 (Ext.refl _)).mono ?_
 rintro e w3 ⟨v1,l1,rfl,⟨A1,c1,d1,rfl,hX1,hc1⟩,hne1,hlen1,hok1,hE3⟩
 have HR1:=zR (⟨hX1,hc1.1,hc1.2,by omega,hne1,hok1⟩:RowT w3 A1 c1 d1 l1)
 have HE3:=zR (HE2.out.trans hE3)
 have HR03:=zR (HR0.out.ext hE3)
 obtain⟨N1,hN1⟩ :∃q,l1.length=q:=⟨_,rfl⟩
 have O2:=zR (fun(V:World) (h:Ext w3 V)=>Odd_any l1 A1 c1 d1 q0 q1 q2 V (HR1.out.ext h).x HR1.out.ne (by omega) HR1.out.ok)
 rw[hN1]at O2 hlen1 ⊢
 have HN1:=zR hN1
 obtain⟨_,_,z2⟩:=HQ.out w3 HE3.out
 clear z1 hN1 hX1 hc1 hne1 hok1 hE3 O1 HR0
 go_wp2_with (refine load_3 rfl _ rfl w.heap.size 4 _ z2 rfl rfl ?_)
 refine(O2.out w3 (Ext.refl _)).mono ?_
 rintro e w4 ⟨v2,l2,rfl,⟨A2,c2,d2,rfl,hX2,hc2⟩,hne2,hlen2,hok2,hE4⟩
 have HR2:=zR (⟨hX2,hc2.1,hc2.2,by omega,hne2,hok2⟩:RowT w4 A2 c2 d2 l2)
 have HE4:=zR (HE3.out.trans hE4)
 have HR04:=zR (HR03.out.ext hE4)
 have HR14:=zR (HR1.out.ext hE4)
 have hz:=HZ.out w4 HE4.out
 have hz2:w4.heap[w.heap.size+1]?=some (.cells [Value.slice none 0 0,.slice none 0 0,.slice none 0 0].toArray 31 (0,0)):=hz
 clear z2 hz hX2 hc2 hne2 hok2 hE4 O2 HR03 HR1 HQ HZ
 go_wp2_with (refine store_T 31 (w.heap.size+1) [.slice none 0 0,.slice none 0 0,.slice none 0 0] [.slice (some ⟨g0,0,none⟩) N c0,.slice A1 N1 c1,.slice A2 l2.length c2] hz2 rfl info3R (one3 _ _ _ rfl rfl rfl) rfl _ _ rfl rfl rfl ?_;intro wA hA hgA)
 have hEA:Ext w wA:=Below.trans (HE.out.trans HE4.out) (below_row' hgA (HE.out.trans HE4.out).sz (fun g e=>by simp only[zQ]at e;omega))
 have hkp :∀(A:Option Addr) (c d:Nat) (l:List Rl),RowT w4 A c d l→RowT wA A c d l:=fun A c d l h=>h.put (few hz2) hgA
 exact bodyPost_ret (res3 rfl hA _ rfl) rfl ⟨_,_,_,_,_,_,_,_,_,_,_,_,by rw[HN.out,HN1.out],hkp _ _ _ _ HR04.out,hkp _ _ _ _ HR14.out,hkp _ _ _ _ HR2.out,hEA⟩
theorem infoC7:(Tryz.prog.info? 26).map (·.size)=some 7:=by kernel_rfl
theorem info_siz {P:Program}{T:TypeId}{n:Nat}(h:(P.info? T).map (·.size)=some n) :∃i,P.info? T=some i∧i.size=n:=by
 cases e:P.info? T with
 | none=>rw[e]at h;cases h
 | some i=>rw[e]at h;exact⟨i,rfl,by simpa using h⟩
theorem load_C {ops:Array Oper}{rest:List Oper}{op:Oper}{a:Act}{w:World}{Q:Exit→Act→World→Prop}(hgd:op.guard=none) (x:Operand) (ho:op.op=.load 26 x) (b o:Nat) (cs:List Value) (hr:w.rangeAt b o cs) (h7:cs.length=7)
  (hx:a.eval x=.pointer (some ⟨b,o,none⟩)) (h:wpList Tryz.prog ops Q rest (a.put op.dst (.agg cs.toArray)) w):wpList Tryz.prog ops Q (op::rest) a w:=by
 obtain⟨i0,hi,hz1⟩:=info_siz infoC7
 exact wpList_load_mid hgd _ x ho b o hx cs _ hr Tryz.underlying26 rfl (by rw[hi];simp[hz1,h7]) h
def newV (B:Nat) (T:TypeId) (Z:Array Value):SP:=⟨fun v W =>∃g,v=.pointer (some ⟨g,0,none⟩)∧B≤g∧W.heap[g]?=some (.cells Z T (0,0)),fun h hE=>by
 obtain⟨g,e,h1,h2⟩:=h
 exact⟨g,e,h1,(hE.below.block g (Array.getElem?_eq_some_iff.1 h2).1).trans h2⟩⟩
end Go.Proofs.YtmiencglfhpmeaaGreatDoor
namespace Go.Proofs.YtmiencglfhpmeaaGreatDoor
open Go.RowKit Hach
theorem rname_len (x:En) (l:List Rl) (h :∀r∈l,r.ok):(rname (cnt x l)).length<4294967296:=by
 cases hc:cnt x l with
 | nil=>decide
 | cons c cs=>exact(h c (cnt_sub x l (by rw[hc];exact List.mem_cons_self))).1
theorem cstep_low {x:En}{acc:List Rl}{r:Rl}(h:holds x r=true) (hp:0≤r.pr) (hl:r.pr<rbest acc):cstep x acc r=acc:=by
 cases acc with
 | nil=>exact absurd hl (by show ¬r.pr < -1;omega)
 | cons c cs=>rw[cstep_cons h,if_pos (show r.pr<c.pr from hl)]
theorem cstep_eq {x:En}{acc:List Rl}{r:Rl}(h:holds x r=true) (hp:0≤r.pr) (hl:r.pr=rbest acc):cstep x acc r=acc++[r]∧acc≠[]:=by
 cases acc with
 | nil=>exact absurd hl (by show ¬r.pr = -1;omega)
 | cons c cs=>exact⟨by rw[cstep_cons h,if_neg (show ¬r.pr<c.pr by have:r.pr=c.pr:=hl;omega),if_pos (show r.pr=c.pr from hl)],by simp⟩
theorem cstep_more {x:En}{acc:List Rl}{r:Rl}(h:holds x r=true) (h1 :¬r.pr<rbest acc) (h2 :¬r.pr=rbest acc):cstep x acc r=[r]:=by
 cases acc with
 | nil=>exact cstep_nil h
 | cons c cs=>rw[cstep_cons h,if_neg (show ¬r.pr<c.pr from h1),if_neg (show ¬r.pr=c.pr from h2)]
theorem rbest_app {acc:List Rl}{r:Rl}(h:acc≠[]):rbest (acc++[r])=rbest acc∧rname (acc++[r])=rname acc ∧∀x,rlook x (acc++[r])=rlook x acc:=by
 cases acc with
 | nil=>exact absurd rfl h
 | cons c cs=>exact⟨rfl,rfl,fun _=>rfl⟩
theorem rclash_app {acc:List Rl}{r:Rl}(h:acc≠[]):rclash (acc++[r])=if rclash acc=[] then rname acc++47::r.nm else rclash acc:=by
 match acc,h with
 | [c],_=>rfl
 | c::e::cs,_=>
  show clashT c e=if clashT c e=[] then _ else clashT c e
  rw[if_neg (clash_ne c e)]
structure RlSt (w3 wr:World) (bl:Nat) (x:En) (l:List Rl) (k:Nat) (bv nv cv:Value) (acc:List Rl):Prop where
 m:acc=cnt x (l.take k)
 b:bv=.int .i64 (rbest acc)
 n:nv=.string ⟨(rname acc).toArray⟩
 c:cv=.string ⟨(rclash acc).toArray⟩
 l:LkB wr bl (rlook x acc)
 g:w3.grownBy wr (some bl)
theorem RlSt.ext {w w4 wr:World}{bl k:Nat}{x:En}{l:List Rl}{bv nv cv:Value}{acc:List Rl}(h:RlSt w4 wr bl x l k bv nv cv acc) (hE:Ext w w4) (hb:w.heap.size≤bl):Ext w wr:=
 Below.trans hE (below_row' h.g hE.sz fun g e=>by simp only[zQ]at e;omega)
theorem RlSt.keep {w4 wr W:World}{bl k:Nat}{x:En}{l:List Rl}{bv nv cv:Value}{acc:List Rl}(h:RlSt w4 wr bl x l k bv nv cv acc) (hE:Ext wr W) (hc:cnt x (l.take (k+1))=acc):RlSt w4 W bl x l (k+1) bv nv cv acc:=
 ⟨hc.symm,h.b,h.n,h.c,h.l.ext hE,grown_trans h.g (grown_of hE _)⟩
theorem RlSt.clash {w4 wr W:World}{bl k:Nat}{x:En}{l:List Rl}{bv nv cv cv':Value}{acc:List Rl}{r:Rl}(h:RlSt w4 wr bl x l k bv nv cv acc) (hE:Ext wr W) (hc:cnt x (l.take (k+1))=acc++[r]) (hne:acc≠[]) (hv:cv'=.string ⟨(if rclash acc=[] then rname acc++47::r.nm else rclash acc).toArray⟩):RlSt w4 W bl x l (k+1) bv nv cv' (acc++[r]):=by
 obtain⟨h1,h2,h3⟩:=rbest_app (r:=r) hne
 exact⟨hc.symm,by rw[h1];exact h.b,by rw[h2];exact h.n,by rw[rclash_app hne];exact hv,by rw[h3];exact h.l.ext hE,grown_trans h.g (grown_of hE _)⟩
theorem RlSt.new {w4 wr W:World}{bl k:Nat}{x:En}{l:List Rl}{bv nv cv:Value}{acc:List Rl}{r:Rl}(h:RlSt w4 wr bl x l k bv nv cv acc) (hE:Ext wr W) (hc:cnt x (l.take (k+1))=[r]):RlSt w4 (setLk W bl (lookR x r)) bl x l (k+1) (.int .i64 r.pr) (.string ⟨r.nm.toArray⟩) (.string ⟨#[]⟩) [r]:=
 ⟨hc.symm,rfl,rfl,rfl,setLk_in (h.l.ext hE) _,grown_trans (grown_trans h.g (grown_of hE _)) (setLk_grown W bl _)⟩
theorem nil_eq (t:List UInt8) (D:ByteArray) (hD:⟨t.toArray⟩=D):(D.toList == ([]:List UInt8))=decide (t=[]):=by
 subst hD
 rw[ByteArray.toList_eq]
 show(t == [])=_
 by_cases h:t=[]
 ·subst h;simp
 ·rw[decide_eq_false h];simpa using h
set_option maxRecDepth 100000 in
set_option maxHeartbeats 20000000 in
theorem rLook_any (l:List Rl) (x:En) (A:Option Addr) (c d:Nat) (w:World) (hX:RlB w w.heap.size d A l) (hl:l.length<4294967296) (hc:l.length≤c) (hc2:c<9223372036854775808) (hok :∀r∈l,r.ok) :
  Calls Tryz.prog 17 #[.slice A l.length c,x.v] w (LookR l x w):=by
 obtain⟨w1,hw1⟩ :∃w1,w.alloc (.cells (Ev_row x) 28)=w1:=⟨_,rfl⟩
 have hB:=EvB.new w x
 rw[hw1]at hB
 have hE1:Ext w w1:=by rw[←hw1];exact Ext.alloc _ _
 have hs1:w1.heap.size=w.heap.size+1:=by rw[←hw1];simp
 obtain⟨w2,hw2⟩ :∃w2,w1.alloc (.cells Lk_zero 39)=w2:=⟨_,rfl⟩
 have hZ:=LkZ.new w1
 rw[hw2,hs1]at hZ
 have hE2:Ext w1 w2:=by rw[←hw2];exact Ext.alloc _ _
 have hE12:=hE1.trans hE2
 have HE:=zR hE12
 have HX:=zR hX
 have HOK:=zR hok
 have HB:=zR (hB.ext hE2)
 have HZ:=zR hZ
 have CK:=zR (rCheckL_any l A c d w2 (hX.ext hE12) hl hc hc2 hok)
 unfold Ev_row at hw1
 unfold Lk_zero at hw2
 have HW1:=zR hw1
 have HW2:=zR hw2
 clear hw1 hw2 hB hE1 hZ hE2 hE12 hX hok hs1
 unfold En.v
 go_enter Tryz.func17,Tryz.ntmps17
 go_upto_region 1 with fail
 rw[HW1.out,HW2.out]
 go_wp2_with fail
 refine CK.out.mono ?_
 rintro e w3 ⟨rfl,hE3⟩
 have HE3:=zR (HE.out.trans hE3)
 have HZ3:=zR (HZ.out.ext hE3)
 have HB3:=zR (HB.out.ext hE3)
 obtain⟨E,hEE⟩ :∃E,chkL l=E:=⟨_,rfl⟩
 have HCE:=zR hEE
 rw[hEE]
 clear hEE hE3
 by_cases e0:E=0
 ·subst e0
  have HL:Hid (lookL l x=lookC x (cnt x l)):=zR (by unfold lookL;rw[HCE.out,if_neg (by simp)])
  have HPR:Hid (∀r∈l,0≤r.pr):=zR (fun r hr=>by
   obtain⟨b,hb⟩:=chk_mem HCE.out hr
   exact(err_zero hb).2.2.1.1)
  go_upto_region 8 with fail
  obtain⟨w4,hw4⟩ :∃w4,w3.alloc (.cells Lk_zero 39)=w4:=⟨_,rfl⟩
  have hZl:=LkB.new w3 (0,0,0)
  rw[show w3.alloc (.cells (Lk_row (0,0,0)) 39)=w4 from hw4]at hZl
  have hE4:Ext w3 w4:=by rw[←hw4];exact Ext.alloc _ _
  unfold Lk_zero at hw4
  rw[hw4]
  have hb3:w.heap.size+1<w3.heap.size:=HZ3.out.lt
  obtain⟨bl,hbl⟩ :∃b,w3.heap.size=b:=⟨_,rfl⟩
  obtain⟨bk,hbk⟩ :∃b,w.heap.size+1=b:=⟨_,rfl⟩
  obtain⟨bx,hbx⟩ :∃b,w.heap.size=b:=⟨_,rfl⟩
  rw[hbl]at hZl hb3 ⊢
  rw[hbk]at hb3 ⊢
  rw[hbx]at ⊢
  have HZ4:Hid (LkZ w4 bk):=zR (by rw[←hbk];exact HZ3.out.ext hE4)
  have HB4:Hid (EvB w4 bx x):=zR (by rw[←hbx];exact HB3.out.ext hE4)
  have HE4:=zR (HE3.out.trans hE4)
  have HZl:=zR hZl
  have hne1:bk≠bl:=by omega
  have hne2:bx≠bl:=by omega
  have hbk2:bx<bk:=by omega
  have hwb:w.heap.size≤bl:=by omega
  have HBX:=zR hbx
  clear hw4 hZl hE4 hbl hbk hbx
  go_wp2_with fail
  go_loopw [8,9,10,12] (fun bv nv cv kv wr =>∃(k:Nat) (acc:List Rl),k≤l.length∧kv=.int .i64 k∧Hid (RlSt w4 wr bl x l k bv nv cv acc)) (fun _ _ _ kv _=>l.length-(intOf kv).toNat)
  case atStart=>exact⟨0,[],by omega,rfl,zR ⟨rfl,rfl,rfl,rfl,HZl.out,grown_of (Ext.refl _) _⟩⟩
  case round=>
   obtain⟨k,acc,hk,rfl,HS⟩:=hrel
   obtain⟨B,hBB⟩ :∃B,rbest acc=B:=⟨_,rfl⟩
   obtain⟨N,hN⟩ :∃N:ByteArray,⟨(rname acc).toArray⟩=N:=⟨_,rfl⟩
   obtain⟨C,hC⟩ :∃C:ByteArray,⟨(rclash acc).toArray⟩=C:=⟨_,rfl⟩
   have e1:=HS.out.b
   have e2:=HS.out.n
   have e3:=HS.out.c
   rw[hBB]at e1
   rw[hN]at e2
   rw[hC]at e3
   subst e1 e2 e3
   have hcq:=nil_eq (rclash acc) C hC
   have hNs:N.size<4294967296:=by
    have h1:=rname_len x (l.take k) fun r hr=>HOK.out r (List.mem_of_mem_take hr)
    rw[←HS.out.m]at h1
    rw[←hN];simpa[ByteArray.size]using h1
   have HEr:=zR (HS.out.ext HE4.out hwb)
   have HBr:=zR (HB4.out.own HS.out.g (by simp;omega))
   have HZr:=zR (HZ4.out.own HS.out.g (by simp;omega))
   have HBB:=zR hBB
   have HN:=zR hN
   have HC:=zR hC
   clear hBB hN hC
   by_cases hlt:k<l.length
   ·have tk:decide (k<l.length)=true:=by simp;omega
    obtain⟨g,o,u,rfl,hg,hu,hku,hr0⟩:=HX.out.at_ hlt
    have hr:=range_ext hr0 hg HEr.out
    have HKU:=zR hku
    have hul:u.r∈l:=by rw[hu];exact List.getElem_mem hlt
    have HOKU:=zR (HOK.out u.r hul)
    have HPU:=zR (HPR.out u.r hul)
    have HST:=zR (show cnt x (l.take (k+1))=cstep x acc u.r by rw[hu,HS.out.m];exact cnt_take x l k hlt)
    clear hku hu hr0 hul
    go_upto_region 12 with(first|(refine load_R rfl _ rfl _ _ _ hr rfl rfl ?_)|(refine store_R u rfl _ _ rfl rfl rfl ?_))
    obtain⟨wa,hwa⟩ :∃wa,wr.alloc (.cells u.cells.toArray 49)=wa:=⟨_,rfl⟩
    have hB:=RnB.new wr u
    rw[hwa]at hB ⊢
    have hEa:Ext wr wa:=by rw[←hwa];exact Ext.alloc _ _
    obtain⟨br,hbr⟩ :∃b,wr.heap.size=b:=⟨_,rfl⟩
    rw[hbr]at hB ⊢
    have HBR:=zR hB
    have HEa:=zR hEa
    have hra:=hB.range
    obtain⟨p0,p1,p2,p3,p4,p5,p6,p7,p8⟩:=(HBr.out.ext hEa).cells
    have HO:=zR (Holds_any u d x wa (HKU.out.ext (HEr.out.trans hEa)) HOKU.out)
    unfold En.v at HO
    clear hwa hB hEa hbr hr hg
    go_wp2_with (first|(refine load_R rfl _ rfl _ _ _ hra rfl rfl ?_))
    refine HO.out.mono ?_
    rintro e wb ⟨rfl,hEb⟩
    have HEb:=zR (HEa.out.trans hEb)
    have HBRb:=zR (HBR.out.ext hEb)
    obtain⟨q,hq⟩ :∃q,holds x u.r=q:=⟨_,rfl⟩
    have HV:=zR hq
    rw[hq]
    clear p0 p1 p2 p3 p4 p5 p6 p7 p8 hra hq hEb
    have hp1:=HBRb.out.range 1 _ rfl
    rw[zP]at hp1
    obtain⟨p,hp⟩ :∃p,u.r.pr=p:=⟨_,rfl⟩
    rw[hp]at hp1
    have HP:=zR hp
    clear hp
    cases q with
    | false=>
     have HC2:=zR (HST.out.trans (cstep_off HV.out))
     go_wp2_with fail
     go_roundw
     case rel=>exact⟨k+1,acc,by omega,by go_num,zR (by have:=HS.out.keep HEb.out HC2.out;rw[HBB.out]at *;exact this)⟩
     case measure=>simp[intOf];omega
    | true=>
     by_cases g1:p<B
     ·have y1:decide (p<B)=true:=by simpa using g1
      have HC2:=zR (HST.out.trans (cstep_low HV.out HPU.out (by rw[HP.out,HBB.out];exact g1)))
      clear g1
      go_wp2_with fail
      go_roundw
      case rel=>exact⟨k+1,acc,by omega,by go_num,zR (HS.out.keep HEb.out HC2.out)⟩
      case measure=>simp[intOf];omega
     ·have y1:decide (p<B)=false:=by simpa using g1
      by_cases g2:p=B
      ·have y2:(p == B)=true:=by rw[beq_iff_eq];exact g2
       have hce:=cstep_eq HV.out HPU.out (show u.r.pr=rbest acc by rw[HP.out,HBB.out];exact g2)
       have HC2:=zR (HST.out.trans hce.1)
       have HNE:=zR hce.2
       clear g1 g2 hce
       by_cases g3:rclash acc=[]
       ·rw[decide_eq_true g3]at hcq
        have G3:=zR g3
        clear g3
        have hn1:=HBRb.out.range 0 _ rfl
        rw[zP]at hn1
        obtain⟨D,hD⟩ :∃D:ByteArray,⟨u.r.nm.toArray⟩=D:=⟨_,rfl⟩
        have hDs:D.size<4294967296:=by rw[←hD];simpa[ByteArray.size]using HOKU.out.1
        have HDD:Hid (N++⟨#[47]⟩++D=⟨(rname acc++47::u.r.nm).toArray⟩):=zR (by
         rw[←hD,←HN.out,show(⟨#[47]⟩:ByteArray)=⟨([47]:List UInt8).toArray⟩ from rfl,ba_append,ba_append];simp)
        have hsz:(N++⟨#[47]⟩).size=N.size+1:=by rw[ByteArray.size_append];rfl
        rw[hD]at hn1
        clear hD
        go_wp2_with fail
        go_roundw
        case rel=>exact⟨k+1,acc++[u.r],by omega,by go_num,zR (HS.out.clash HEb.out HC2.out HNE.out (by rw[if_pos G3.out,←HDD.out]))⟩
        case measure=>simp[intOf];omega
       ·rw[decide_eq_false g3]at hcq
        have G3:=zR g3
        clear g3
        go_wp2_with fail
        go_roundw
        case rel=>exact⟨k+1,acc++[u.r],by omega,by go_num,zR (HS.out.clash HEb.out HC2.out HNE.out (by rw[if_neg G3.out,HC.out]))⟩
        case measure=>simp[intOf];omega
      ·have y2:(p == B)=false:=by rw[beq_eq_false_iff_ne];exact g2
       have HC2:=zR (HST.out.trans (cstep_more HV.out (by rw[HP.out,HBB.out];exact g1) (by rw[HP.out,HBB.out];exact g2)))
       clear g1 g2
       obtain⟨D,hD⟩ :∃D:ByteArray,⟨u.r.nm.toArray⟩=D:=⟨_,rfl⟩
       have HD:=zR hD
       have hn1:=HBRb.out.range 0 _ rfl
       rw[zP,hD]at hn1
       obtain⟨n1,hn1'⟩ :∃n,numb u.r.e2 x 255=n:=⟨_,rfl⟩
       obtain⟨n2,hn2⟩ :∃n,numb u.r.e3 x 16=n:=⟨_,rfl⟩
       obtain⟨n3,hn3⟩ :∃n,numb u.r.e4 x 8=n:=⟨_,rfl⟩
       have HLX:Hid (lookR x u.r=(n1,n2,n3)):=zR (by unfold lookR;rw[hn1',hn2,hn3])
       have NM2:=zR (fun(W:World) (h:Ext wb W)=>number_any u.r.e2 255 u.A2 u.c2 d x W (HKU.out.ext (HEr.out.trans (HEb.out.trans h))).k2 HOKU.out.2.2.2.1.2 HOKU.out.2.2.2.1.1)
       have NM3:=zR (fun(W:World) (h:Ext wb W)=>number_any u.r.e3 16 u.A3 u.c3 d x W (HKU.out.ext (HEr.out.trans (HEb.out.trans h))).k3 HOKU.out.2.2.2.2.1.2 HOKU.out.2.2.2.2.1.1)
       have NM4:=zR (fun(W:World) (h:Ext wb W)=>number_any u.r.e4 8 u.A4 u.c4 d x W (HKU.out.ext (HEr.out.trans (HEb.out.trans h))).k4 HOKU.out.2.2.2.2.2.2 HOKU.out.2.2.2.2.2.1)
       rw[hn1']at NM2
       rw[hn2]at NM3
       rw[hn3]at NM4
       unfold En.v at NM2 NM3 NM4
       clear hD hn1' hn2 hn3 hcq
       go_upto_region 19 with fail
       apply wp_region_seq (l:=[_,_,_,_,_,_,_,_,_,_,_,_,_]) (t:=[_]) [some 55,some 56,some 57,some 58,some 59,some 60,some 61,some 62,some 63,some 64,some 65,some 66,some 67,none] [[],[0],[],[1,2],[],[4],[],[5,6],[],[8],[],[9,10],[3,7,11],[12]] [13,13,13,13,13,13,13,13,13,13,13,13,13] [eqv _,(eqv (.agg (u.r.e2.cells u.A2 u.c2).toArray)),eqv _,(eqv (.int .i64 n1)),eqv _,(eqv (.agg (u.r.e3.cells u.A3 u.c3).toArray)),eqv _,(eqv (.int .i64 n2)),eqv _,(eqv (.agg (u.r.e4.cells u.A4 u.c4).toArray)),eqv _,(eqv (.int .i64 n3)),eqv _] (by kernel_rfl) (by kernel_rfl) ⟨?o0,?o1,?o2,?o3,?o4,?o5,?o6,?o7,?o8,?o9,?o10,?o11,?o12,trivial⟩ ?last
       case o0|o4|o8=>
        intro xv W hE hp
        try have q0:xv _=_:=hp.1
        try have q1:xv _=_:=hp.2.1
        try have q2:xv _=_:=hp.2.2.1
        clear hp
        simp only[putD,zD,zC,zF,zE,Act.put,zL,zN,zM]
        refine OpGoal.plain ?_
        go_wp2_with fail
        exact⟨rfl,Ext.refl _,rfl⟩
       case o2|o6|o10=>
        intro xv W hE hp
        try have q0:xv _=_:=hp.1
        try have q1:xv _=_:=hp.2.1
        try have q2:xv _=_:=hp.2.2.1
        clear hp
        obtain⟨p0,p1,p2,p3,p4,p5,p6,p7,p8⟩:=(HBr.out.ext (HEb.out.trans ((Ext.drew wb).trans hE))).cells
        simp only[putD,zD,zC,zF,zE,Act.put,zL,zN,zM]
        refine OpGoal.plain ?_
        go_wp2_with fail
        exact⟨rfl,Ext.refl _,rfl⟩
       case o1=>
        intro xv W hE hp
        have r0:xv 0=_:=hp.1
        clear hp
        obtain⟨p0,p1,p2,p3,p4,p5,p6,p7,p8⟩:=(HBr.out.ext (HEb.out.trans ((Ext.drew wb).trans hE))).cells
        simp only[putD,zD,zC,zF,zE,Act.put,zL,zN,zM]
        refine OpGoal.plain ?_
        clear p0 p1 p2 p3 p4 p5 p6 p7 p8
        have l2:=range2 (HBRb.out.ext ((Ext.drew wb).trans hE)).range
        rw[zP]at l2
        refine load_E rfl _ rfl br 9 _ l2 rfl r0 ?_
        go_wp2_with fail
        exact⟨rfl,Ext.refl _,rfl⟩
       case o3=>
        intro xv W hE hp
        have r1:xv 1=_:=hp.1
        have r2:xv 2=_:=hp.2.1
        clear hp
        simp only[putD,zD,zC,zF,zE,Act.put,zL,zN,zM]
        refine OpGoal.plain ?_
        go_wp2_with fail
        refine(NM2.out W ((Ext.drew wb).trans hE)).mono ?_
        rintro r w' ⟨rfl,hE9⟩
        go_wp2_with fail
        exact⟨rfl,hE9,rfl⟩
       case o5=>
        intro xv W hE hp
        have r4:xv 4=_:=hp.1
        clear hp
        obtain⟨p0,p1,p2,p3,p4,p5,p6,p7,p8⟩:=(HBr.out.ext (HEb.out.trans ((Ext.drew wb).trans hE))).cells
        simp only[putD,zD,zC,zF,zE,Act.put,zL,zN,zM]
        refine OpGoal.plain ?_
        clear p0 p1 p2 p3 p4 p5 p6 p7 p8
        have l3:=range3 (HBRb.out.ext ((Ext.drew wb).trans hE)).range
        rw[zP]at l3
        refine load_E rfl _ rfl br 16 _ l3 rfl r4 ?_
        go_wp2_with fail
        exact⟨rfl,Ext.refl _,rfl⟩
       case o7=>
        intro xv W hE hp
        have r5:xv 5=_:=hp.1
        have r6:xv 6=_:=hp.2.1
        clear hp
        simp only[putD,zD,zC,zF,zE,Act.put,zL,zN,zM]
        refine OpGoal.plain ?_
        go_wp2_with fail
        refine(NM3.out W ((Ext.drew wb).trans hE)).mono ?_
        rintro r w' ⟨rfl,hE9⟩
        go_wp2_with fail
        exact⟨rfl,hE9,rfl⟩
       case o9=>
        intro xv W hE hp
        have r8:xv 8=_:=hp.1
        clear hp
        obtain⟨p0,p1,p2,p3,p4,p5,p6,p7,p8⟩:=(HBr.out.ext (HEb.out.trans ((Ext.drew wb).trans hE))).cells
        simp only[putD,zD,zC,zF,zE,Act.put,zL,zN,zM]
        refine OpGoal.plain ?_
        clear p0 p1 p2 p3 p4 p5 p6 p7 p8
        have l4:=range4 (HBRb.out.ext ((Ext.drew wb).trans hE)).range
        rw[zP]at l4
        refine load_E rfl _ rfl br 23 _ l4 rfl r8 ?_
        go_wp2_with fail
        exact⟨rfl,Ext.refl _,rfl⟩
       case o11=>
        intro xv W hE hp
        have r9:xv 9=_:=hp.1
        have r10:xv 10=_:=hp.2.1
        clear hp
        simp only[putD,zD,zC,zF,zE,Act.put,zL,zN,zM]
        refine OpGoal.plain ?_
        go_wp2_with fail
        refine(NM4.out W ((Ext.drew wb).trans hE)).mono ?_
        rintro r w' ⟨rfl,hE9⟩
        go_wp2_with fail
        exact⟨rfl,hE9,rfl⟩
       case o12=>
        intro xv W hE hp
        have r3:xv 3=_:=hp.1
        have r7:xv 7=_:=hp.2.1
        have r11:xv 11=_:=hp.2.2.1
        clear hp
        simp only[putD,zD,zC,zF,zE,Act.put,zL,zN,zM]
        refine OpGoal.plain ?_
        go_wp2_with fail
        exact⟨rfl,Ext.refl _,rfl⟩
       case last=>
        intro xv W hE hp
        have r0:xv 0=_:=hp.1
        have r1:xv 1=_:=hp.2.1
        have r2:xv 2=_:=hp.2.2.1
        have r3:xv 3=_:=hp.2.2.2.1
        have r4:xv 4=_:=hp.2.2.2.2.1
        have r5:xv 5=_:=hp.2.2.2.2.2.1
        have r6:xv 6=_:=hp.2.2.2.2.2.2.1
        have r7:xv 7=_:=hp.2.2.2.2.2.2.2.1
        have r8:xv 8=_:=hp.2.2.2.2.2.2.2.2.1
        have r9:xv 9=_:=hp.2.2.2.2.2.2.2.2.2.1
        have r10:xv 10=_:=hp.2.2.2.2.2.2.2.2.2.2.1
        have r11:xv 11=_:=hp.2.2.2.2.2.2.2.2.2.2.2.1
        have r12:xv 12=_:=hp.2.2.2.2.2.2.2.2.2.2.2.2.1
        clear hp
        simp only[putD,zD,zC,zF,zE,Act.put,zG,zH,zJ,zK,zI,zA,zL,zN,zM]
        have HEe:=zR (HEb.out.trans ((Ext.drew wb).trans hE))
        clear r0 r1 r2 r3 r4 r5 r6 r7 r8 r9 r10 r11 hE
        have hLe:=HS.out.l.ext HEe.out
        obtain⟨z0,z1,z2⟩:=hLe.cells
        obtain⟨f0,f1,f2⟩:=hLe.free
        have hr12:xv 12=.agg #[.int .i64 n1,.int .i64 n2,.int .i64 n3]:=r12
        rw[hr12]
        clear hLe r12 hr12
        go_wp2_with fail
        go_roundw
        case rel=>exact⟨k+1,[u.r],by omega,by go_num,zR (by have h:=HS.out.new HEe.out HC2.out;rw[HLX.out,HP.out,HD.out]at h;exact h)⟩
        case measure=>simp[intOf];omega
   ·obtain rfl:k=l.length:=by omega
    have tk:decide (l.length<l.length)=false:=by simp
    have HA:Hid (acc=cnt x l):=zR (by rw[HS.out.m,List.take_length])
    have HL2:=zR (show lookL l x=_ from by rw[HL.out,←HA.out,look_ref x acc])
    obtain⟨z0,z1,z2⟩:=HZr.out.cells
    obtain⟨f0,f1,f2⟩:=HZr.out.free
    obtain⟨y0,y1,y2⟩:=HS.out.l.cells
    by_cases g3:rclash acc=[]
    ·rw[decide_eq_true g3]at hcq
     have HL3:=zR (HL2.out.trans (by rw[if_neg (by rw[g3];simp)]))
     clear g3
     go_wp2_with fail
     exact look_fin (W:=setLk wr bk (rlook x acc)) rfl (rlook x acc) _ _ (setLk_z HZr.out _) rfl rfl rfl (LookR.of (setLk_ext HEr.out (by have:=HBX.out;omega) _) (rname acc) HL3.out HN.out.symm)
    ·rw[decide_eq_false g3]at hcq
     have HL3:=zR (HL2.out.trans (by rw[if_pos g3]))
     clear g3
     go_wp2_with fail
     exact look_fin (W:=setLk wr bk (0,0,0)) rfl (0,0,0) _ _ (setLk_z HZr.out _) rfl rfl rfl (LookR.of (setLk_ext HEr.out (by have:=HBX.out;omega) _) (rclash acc) HL3.out HC.out.symm)
 ·have ye:(E == 0)=false:=by rw[beq_eq_false_iff_ne];exact e0
  have HL:Hid (lookL l x=((0,0,0),[],E)):=zR (by unfold lookL;rw[HCE.out,if_pos e0])
  clear e0
  obtain⟨z0,z1,z2⟩:=HZ3.out.cells
  obtain⟨f0,f1,f2⟩:=HZ3.out.free
  go_wp2_with fail
  exact look_fin (W:=setLk w3 (w.heap.size+1) (0,0,0)) rfl (0,0,0) _ _ (setLk_z HZ3.out _) rfl rfl rfl (LookR.of (setLk_ext HE3.out (by omega) _) [] HL.out rfl)
end Go.Proofs.YtmiencglfhpmeaaGreatDoor
