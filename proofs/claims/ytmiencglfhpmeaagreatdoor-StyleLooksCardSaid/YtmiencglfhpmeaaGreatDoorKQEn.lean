/- The contract of the reference's typeOf (printed by gen_en.py). -/
import Derived.Test.YtmiencglfhpmeaaGreatDoorKQXe
open List renaming cons_append → zA, foldl_cons → zB, foldl_nil → zC, getD → zD, getD_cons_succ → zE, getD_cons_zero → zF, getElem_mem → zG, length_cons → zH, length_nil → zI, nil_append → zJ, range_succ → zK, range_zero → zL, setIfInBounds_toArray → zM, set_cons_succ → zN, set_cons_zero → zO
open Nat renaming lt_of_lt_of_le → zP
open Go.Lib renaming hid → zQ
set_option linter.unusedSimpArgs false
set_option linter.unusedVariables false
namespace Go.Proofs.YtmiencglfhpmeaaGreatDoor
open Go.RowKit Hach
set_option maxRecDepth 100000 in
set_option maxHeartbeats 4000000 in
theorem typeOf_any (d:Nat) :∀(e:Ex) (A:Option Addr) (c:Nat) (w:World),ExB w w.heap.size d A e.l→e.size<1099511627776→e.ok →
  Calls Tryz.prog 123 #[.agg (e.cells A c).toArray] w fun r w'=>r=.returned (.int .i64 e.typed)∧Ext w w':=by
 induction d using Nat.strongRecOn with
 | _ d ih=>
  intro e A c w hX hsz hok
  have HOK:=zQ hok
  clear hok
  have hse:=e.size_eq
  have hll:=Ex.len_le e.l
  have hlen:e.l.length<1099511627776:=by omega
  have hty:=e.typed_eq
  have HTY:=zQ hty
  have HSE:=zQ hse
  have hBx:=Box.new w e A c 47
  obtain⟨w0,hw0⟩ :∃w0,w.alloc (.cells (e.cells A c).toArray 47)=w0:=⟨_,rfl⟩
  have hE0:Ext w w0:=by rw[←hw0];exact Ext.alloc _ _
  rw[hw0]at hBx
  have HW:=zQ hw0
  have hlt0:=hBx.lt
  have HBx:=zQ hBx
  have HY:=zQ (fun(W:World) (h:Ext w0 W)=>And.intro ((h.old (p:=⟨w.heap.size,0,none⟩) hlt0).trans HBx.out.c0) (And.intro ((h.old (p:=⟨w.heap.size,1,none⟩) hlt0).trans HBx.out.c1) (And.intro ((h.old (p:=⟨w.heap.size,2,none⟩) hlt0).trans HBx.out.c2) (And.intro ((h.old (p:=⟨w.heap.size,3,none⟩) hlt0).trans HBx.out.c3) (And.intro ((h.old (p:=⟨w.heap.size,4,none⟩) hlt0).trans HBx.out.c4) (And.intro ((h.old (p:=⟨w.heap.size,5,none⟩) hlt0).trans HBx.out.c5) ((h.old (p:=⟨w.heap.size,6,none⟩) hlt0).trans HBx.out.c6)))))))
  unfold Ex.cells
  unfold Ex.cells at HW
  clear hse hty hw0 hBx
  go_enter Tryz.func123,Tryz.ntmps123
  go_upto_region 1 with fail
  rw[HW.out]
  go_cut [32] from 5 (fun gv wx=>gv=.bool (!good e.op e.var e.vl e.l.length)∧Ext w0 wx)
  case first=>
   have hv :∀w,(binOp .neq 44 (.agg #[.int .i64 e.ty,.int .i64 e.n,.bool e.b,.string ⟨e.s.toArray⟩]) (.agg #[.int .i64 0,.int .i64 0,.bool false,.string ⟨([]:List UInt8).toArray⟩])).run Tryz.prog w=.ok (.bool (!(valB e.ty e.n e.b e.s 0 0 false []))) w:=fun w=>val_neq ..
   by_cases h1:manyOf e.op=(e.l.length:Int)
   ·have t1:(manyOf e.op != (e.l.length:Int))=false:=by simpa using h1
    by_cases h2:e.op=1
    ·have t2:(e.op != 1)=false:=by simpa using h2
     have t4:(e.op != 2)=true:=by simp[h2]
     by_cases h5:e.var=0
     ·have t5:(e.var != 0)=false:=by simpa using h5
      have HG:Hid (good e.op e.var e.vl e.l.length=true):=zQ (by unfold good;rw[decide_eq_true h1,decide_eq_true h2,decide_eq_true h5];simp)
      clear h1 h2 h5
      go_wp2_with fail
      apply wp_region_seq (l:=[_,_,_,_,_,_,_,_,_,_,_,_,_,_,_,_,_,_,_,_,_,_,_,_,_,_,_]) (t:=[_]) [some 5,some 6,some 7,some 8,some 9,some 10,some 11,some 12,some 13,some 14,some 15,some 16,some 17,some 18,some 19,some 20,some 21,some 22,some 23,some 24,some 25,some 26,some 27,some 28,some 29,some 30,some 31,some 32] [[],[0],[1],[],[3],[4],[2,5],[6],[7],[7,8],[7,9],[7,10],[11],[11,12],[11],[11,13,14],[7,11,15],[7,16],[17],[18],[18,19],[18,20],[18,21],[22],[22,23],[22,24],[18,22,25],[18,26]] [1,2,7,4,5,6,7,17,9,10,11,18,13,15,15,16,17,18,27,20,21,22,26,24,25,26,27] [eqv _,eqv _,(eqv (.int .i64 (manyOf e.op))),eqv _,eqv _,eqv _,eqv _,eqv _,eqv _,eqv _,eqv _,eqv _,eqv _,eqv _,eqv _,eqv _,eqv _,eqv _,eqv _,eqv _,eqv _,eqv _,eqv _,eqv _,eqv _,eqv _,eqv _] (by kernel_rfl) (by kernel_rfl) ⟨?o0,?o1,?o2,?o3,?o4,?o5,?o6,?o7,?o8,?o9,?o10,?o11,?o12,?o13,?o14,?o15,?o16,?o17,?o18,?o19,?o20,?o21,?o22,?o23,?o24,?o25,?o26,trivial⟩ ?last
      case o0|o3=>
       intro xv W hE hp
       try have q0:xv _=_:=hp.1
       try have q1:xv _=_:=hp.2.1
       clear hp
       simp only[putD,zC,zB,zF,zE,Act.put,zM,zO,zN]
       refine OpGoal.plain ?_
       go_wp2_with fail
       exact⟨rfl,Ext.refl _,rfl⟩
      case o1|o4=>
       intro xv W hE hp
       try have q0:xv _=_:=hp.1
       try have q1:xv _=_:=hp.2.1
       clear hp
       have hEw:Ext w0 W:=(Ext.drew _).trans hE
       obtain⟨y0,y1,y2,y3,y4,y5,y6⟩:=HY.out W hEw
       simp only[putD,zC,zB,zF,zE,Act.put,zM,zO,zN]
       refine OpGoal.plain ?_
       go_wp2_with fail
       exact⟨rfl,Ext.refl _,rfl⟩
      case o2=>
       intro xv W hE hp
       have r1:xv 1=_:=hp.1
       clear hp
       simp only[putD,zC,zB,zF,zE,Act.put,zM,zO,zN]
       refine OpGoal.plain ?_
       go_wp2_with fail
       refine(many_any e.op _).mono ?_
       rintro r w' ⟨rfl,rfl⟩
       go_wp2_with fail
       exact⟨rfl,Ext.refl _,rfl⟩
      case o5|o6|o7=>
       intro xv W hE hp
       try have q0:xv _=_:=hp.1
       try have q1:xv _=_:=hp.2.1
       clear hp
       simp only[putD,zC,zB,zF,zE,Act.put,zM,zO,zN]
       refine OpGoal.plain ?_
       go_wp2_with fail
       exact⟨rfl,Ext.refl _,rfl⟩
      case o8=>
       intro xv W hE hp
       have r7:xv 7=_:=hp.1
       clear hp
       simp only[putD,zC,zB,zF,zE,Act.put,zM,zO,zN]
       refine OpGoal.yes (by simp[yieldD,r7]) ?_
       go_wp2_with fail
       exact⟨rfl,Ext.refl _,rfl⟩
      case o9=>
       intro xv W hE hp
       have r7:xv 7=_:=hp.1
       have r8:xv 8=_:=hp.2.1
       clear hp
       have hEw:Ext w0 W:=(Ext.drew _).trans hE
       obtain⟨y0,y1,y2,y3,y4,y5,y6⟩:=HY.out W hEw
       simp only[putD,zC,zB,zF,zE,Act.put,zM,zO,zN]
       refine OpGoal.yes (by simp[yieldD,r7]) ?_
       go_wp2_with fail
       exact⟨rfl,Ext.refl _,rfl⟩
      case o10=>
       intro xv W hE hp
       have r7:xv 7=_:=hp.1
       have r9:xv 9=_:=hp.2.1
       clear hp
       simp only[putD,zC,zB,zF,zE,Act.put,zM,zO,zN]
       refine OpGoal.yes (by simp[yieldD,r7]) ?_
       go_wp2_with fail
       exact⟨rfl,Ext.refl _,rfl⟩
      case o11=>
       intro xv W hE hp
       have r7:xv 7=_:=hp.1
       have r10:xv 10=_:=hp.2.1
       clear hp
       simp only[putD,zC,zB,zF,zE,Act.put,zM,zO,zN]
       refine OpGoal.yes (by simp[yieldD,r7]) ?_
       go_wp2_with fail
       exact⟨rfl,Ext.refl _,rfl⟩
      case o12=>
       intro xv W hE hp
       have r11:xv 11=_:=hp.1
       clear hp
       simp only[putD,zC,zB,zF,zE,Act.put,zM,zO,zN]
       exact OpGoal.off (by simp[yieldD,r11,undef]) ⟨Ext.refl _,rfl⟩
      case o13=>
       intro xv W hE hp
       have r11:xv 11=_:=hp.1
       have r12:xv 12=_:=hp.2.1
       clear hp
       have hEw:Ext w0 W:=(Ext.drew _).trans hE
       obtain⟨y0,y1,y2,y3,y4,y5,y6⟩:=HY.out W hEw
       simp only[putD,zC,zB,zF,zE,Act.put,zM,zO,zN]
       exact OpGoal.off (by simp[yieldD,r11,undef]) ⟨Ext.refl _,rfl⟩
      case o14=>
       intro xv W hE hp
       have r11:xv 11=_:=hp.1
       clear hp
       simp only[putD,zC,zB,zF,zE,Act.put,zM,zO,zN]
       exact OpGoal.off (by simp[yieldD,r11,undef]) ⟨Ext.refl _,rfl⟩
      case o15=>
       intro xv W hE hp
       have r11:xv 11=_:=hp.1
       have r13:xv 13=_:=hp.2.1
       have r14:xv 14=_:=hp.2.2.1
       clear hp
       simp only[putD,zC,zB,zF,zE,Act.put,zM,zO,zN]
       exact OpGoal.off (by simp[yieldD,r11,undef]) ⟨Ext.refl _,rfl⟩
      case o16=>
       intro xv W hE hp
       have r7:xv 7=_:=hp.1
       have r11:xv 11=_:=hp.2.1
       have r15:xv 15=_:=hp.2.2.1
       clear hp
       simp only[putD,zC,zB,zF,zE,Act.put,zM,zO,zN]
       refine OpGoal.yes (by simp[yieldD,r7]) ?_
       go_wp2_with fail
       exact⟨rfl,Ext.refl _,rfl⟩
      case o17|o18=>
       intro xv W hE hp
       try have q0:xv _=_:=hp.1
       try have q1:xv _=_:=hp.2.1
       clear hp
       simp only[putD,zC,zB,zF,zE,Act.put,zM,zO,zN]
       refine OpGoal.plain ?_
       go_wp2_with fail
       exact⟨rfl,Ext.refl _,rfl⟩
      case o19=>
       intro xv W hE hp
       have r18:xv 18=_:=hp.1
       clear hp
       simp only[putD,zC,zB,zF,zE,Act.put,zM,zO,zN]
       refine OpGoal.yes (by simp[yieldD,r18]) ?_
       go_wp2_with fail
       exact⟨rfl,Ext.refl _,rfl⟩
      case o20=>
       intro xv W hE hp
       have r18:xv 18=_:=hp.1
       have r19:xv 19=_:=hp.2.1
       clear hp
       have hEw:Ext w0 W:=(Ext.drew _).trans hE
       obtain⟨y0,y1,y2,y3,y4,y5,y6⟩:=HY.out W hEw
       simp only[putD,zC,zB,zF,zE,Act.put,zM,zO,zN]
       refine OpGoal.yes (by simp[yieldD,r18]) ?_
       go_wp2_with fail
       exact⟨rfl,Ext.refl _,rfl⟩
      case o21=>
       intro xv W hE hp
       have r18:xv 18=_:=hp.1
       have r20:xv 20=_:=hp.2.1
       clear hp
       simp only[putD,zC,zB,zF,zE,Act.put,zM,zO,zN]
       refine OpGoal.yes (by simp[yieldD,r18]) ?_
       go_wp2_with fail
       exact⟨rfl,Ext.refl _,rfl⟩
      case o22=>
       intro xv W hE hp
       have r18:xv 18=_:=hp.1
       have r21:xv 21=_:=hp.2.1
       clear hp
       simp only[putD,zC,zB,zF,zE,Act.put,zM,zO,zN]
       refine OpGoal.yes (by simp[yieldD,r18]) ?_
       go_wp2_with fail
       exact⟨rfl,Ext.refl _,rfl⟩
      case o23=>
       intro xv W hE hp
       have r22:xv 22=_:=hp.1
       clear hp
       simp only[putD,zC,zB,zF,zE,Act.put,zM,zO,zN]
       refine OpGoal.yes (by simp[yieldD,r22]) ?_
       go_wp2_with fail
       exact⟨rfl,Ext.refl _,rfl⟩
      case o24=>
       intro xv W hE hp
       have r22:xv 22=_:=hp.1
       have r23:xv 23=_:=hp.2.1
       clear hp
       have hEw:Ext w0 W:=(Ext.drew _).trans hE
       obtain⟨y0,y1,y2,y3,y4,y5,y6⟩:=HY.out W hEw
       simp only[putD,zC,zB,zF,zE,Act.put,zM,zO,zN]
       refine OpGoal.yes (by simp[yieldD,r22]) ?_
       go_wp2_with fail
       exact⟨rfl,Ext.refl _,rfl⟩
      case o25=>
       intro xv W hE hp
       have r22:xv 22=_:=hp.1
       have r24:xv 24=_:=hp.2.1
       clear hp
       simp only[putD,zC,zB,zF,zE,Act.put,zM,zO,zN]
       refine OpGoal.yes (by simp[yieldD,r22]) ?_
       go_wp2_with fail
       exact⟨rfl,Ext.refl _,rfl⟩
      case o26=>
       intro xv W hE hp
       have r18:xv 18=_:=hp.1
       have r22:xv 22=_:=hp.2.1
       have r25:xv 25=_:=hp.2.2.1
       clear hp
       simp only[putD,zC,zB,zF,zE,Act.put,zM,zO,zN]
       refine OpGoal.yes (by simp[yieldD,r18]) ?_
       go_wp2_with fail
       exact⟨rfl,Ext.refl _,rfl⟩
      case last=>
       intro xv W hE hp
       have r0:xv 0=_:=hp.1
       have r1:xv 1=_:=hp.2.1
       have r2:xv 2=_:=hp.2.2.1
       have r3:xv 3=_:=hp.2.2.2.1
       have r4:xv 4=_:=hp.2.2.2.2.1
       have r5:xv 5=_:=hp.2.2.2.2.2.1
       have r6:xv 6=_:=hp.2.2.2.2.2.2.1
       have r7:xv 7=_:=hp.2.2.2.2.2.2.2.1
       have r8:xv 8=_:=hp.2.2.2.2.2.2.2.2.1
       have r9:xv 9=_:=hp.2.2.2.2.2.2.2.2.2.1
       have r10:xv 10=_:=hp.2.2.2.2.2.2.2.2.2.2.1
       have r11:xv 11=_:=hp.2.2.2.2.2.2.2.2.2.2.2.1
       have r12:xv 12=_:=hp.2.2.2.2.2.2.2.2.2.2.2.2.1
       have r13:xv 13=_:=hp.2.2.2.2.2.2.2.2.2.2.2.2.2.1
       have r14:xv 14=_:=hp.2.2.2.2.2.2.2.2.2.2.2.2.2.2.1
       have r15:xv 15=_:=hp.2.2.2.2.2.2.2.2.2.2.2.2.2.2.2.1
       have r16:xv 16=_:=hp.2.2.2.2.2.2.2.2.2.2.2.2.2.2.2.2.1
       have r17:xv 17=_:=hp.2.2.2.2.2.2.2.2.2.2.2.2.2.2.2.2.2.1
       have r18:xv 18=_:=hp.2.2.2.2.2.2.2.2.2.2.2.2.2.2.2.2.2.2.1
       have r19:xv 19=_:=hp.2.2.2.2.2.2.2.2.2.2.2.2.2.2.2.2.2.2.2.1
       have r20:xv 20=_:=hp.2.2.2.2.2.2.2.2.2.2.2.2.2.2.2.2.2.2.2.2.1
       have r21:xv 21=_:=hp.2.2.2.2.2.2.2.2.2.2.2.2.2.2.2.2.2.2.2.2.2.1
       have r22:xv 22=_:=hp.2.2.2.2.2.2.2.2.2.2.2.2.2.2.2.2.2.2.2.2.2.2.1
       have r23:xv 23=_:=hp.2.2.2.2.2.2.2.2.2.2.2.2.2.2.2.2.2.2.2.2.2.2.2.1
       have r24:xv 24=_:=hp.2.2.2.2.2.2.2.2.2.2.2.2.2.2.2.2.2.2.2.2.2.2.2.2.1
       have r25:xv 25=_:=hp.2.2.2.2.2.2.2.2.2.2.2.2.2.2.2.2.2.2.2.2.2.2.2.2.2.1
       have r26:xv 26=_:=hp.2.2.2.2.2.2.2.2.2.2.2.2.2.2.2.2.2.2.2.2.2.2.2.2.2.2.1
       clear hp
       simp only[putD,zC,zB,zF,zE,Act.put,zH,zI,zK,zL,zJ,zA,zM,zO,zN]
       have hEw:Ext w0 W:=(Ext.drew w0).trans hE
       have e18:xv 18=.bool false:=r18
       have e26:xv 26=.bool false:=r26
       simp only[e18,e26]
       clear r0 r1 r2 r3 r4 r5 r6 r7 r8 r9 r10 r11 r12 r13 r14 r15 r16 r17 r18 r19 r20 r21 r22 r23 r24 r25 r26 hE e18 e26
       go_wp2_with fail
       go_meet
       case rel=>exact⟨by rw[HG.out];rfl,hEw⟩
     ·have t5:(e.var != 0)=true:=by simpa using h5
      have HG:Hid (good e.op e.var e.vl e.l.length=false):=zQ (by unfold good;rw[decide_eq_false h5,decide_eq_false (show ¬e.op=2 by omega)];simp)
      clear h1 h2 h5
      go_wp2_with fail
      apply wp_region_seq (l:=[_,_,_,_,_,_,_,_,_,_,_,_,_,_,_,_,_,_,_,_,_,_,_,_,_,_,_]) (t:=[_]) [some 5,some 6,some 7,some 8,some 9,some 10,some 11,some 12,some 13,some 14,some 15,some 16,some 17,some 18,some 19,some 20,some 21,some 22,some 23,some 24,some 25,some 26,some 27,some 28,some 29,some 30,some 31,some 32] [[],[0],[1],[],[3],[4],[2,5],[6],[7],[7,8],[7,9],[7,10],[11],[11,12],[11],[11,13,14],[7,11,15],[7,16],[17],[18],[18,19],[18,20],[18,21],[22],[22,23],[22,24],[18,22,25],[18,26]] [1,2,7,4,5,6,7,17,9,10,11,18,13,15,15,16,17,18,27,20,21,22,26,24,25,26,27] [eqv _,eqv _,(eqv (.int .i64 (manyOf e.op))),eqv _,eqv _,eqv _,eqv _,eqv _,eqv _,eqv _,eqv _,eqv _,eqv _,eqv _,eqv _,eqv _,eqv _,eqv _,eqv _,eqv _,eqv _,eqv _,eqv _,eqv _,eqv _,eqv _,eqv _] (by kernel_rfl) (by kernel_rfl) ⟨?o0,?o1,?o2,?o3,?o4,?o5,?o6,?o7,?o8,?o9,?o10,?o11,?o12,?o13,?o14,?o15,?o16,?o17,?o18,?o19,?o20,?o21,?o22,?o23,?o24,?o25,?o26,trivial⟩ ?last
      case o0|o3=>
       intro xv W hE hp
       try have q0:xv _=_:=hp.1
       try have q1:xv _=_:=hp.2.1
       clear hp
       simp only[putD,zC,zB,zF,zE,Act.put,zM,zO,zN]
       refine OpGoal.plain ?_
       go_wp2_with fail
       exact⟨rfl,Ext.refl _,rfl⟩
      case o1|o4=>
       intro xv W hE hp
       try have q0:xv _=_:=hp.1
       try have q1:xv _=_:=hp.2.1
       clear hp
       have hEw:Ext w0 W:=(Ext.drew _).trans hE
       obtain⟨y0,y1,y2,y3,y4,y5,y6⟩:=HY.out W hEw
       simp only[putD,zC,zB,zF,zE,Act.put,zM,zO,zN]
       refine OpGoal.plain ?_
       go_wp2_with fail
       exact⟨rfl,Ext.refl _,rfl⟩
      case o2=>
       intro xv W hE hp
       have r1:xv 1=_:=hp.1
       clear hp
       simp only[putD,zC,zB,zF,zE,Act.put,zM,zO,zN]
       refine OpGoal.plain ?_
       go_wp2_with fail
       refine(many_any e.op _).mono ?_
       rintro r w' ⟨rfl,rfl⟩
       go_wp2_with fail
       exact⟨rfl,Ext.refl _,rfl⟩
      case o5|o6|o7=>
       intro xv W hE hp
       try have q0:xv _=_:=hp.1
       try have q1:xv _=_:=hp.2.1
       clear hp
       simp only[putD,zC,zB,zF,zE,Act.put,zM,zO,zN]
       refine OpGoal.plain ?_
       go_wp2_with fail
       exact⟨rfl,Ext.refl _,rfl⟩
      case o8=>
       intro xv W hE hp
       have r7:xv 7=_:=hp.1
       clear hp
       simp only[putD,zC,zB,zF,zE,Act.put,zM,zO,zN]
       refine OpGoal.yes (by simp[yieldD,r7]) ?_
       go_wp2_with fail
       exact⟨rfl,Ext.refl _,rfl⟩
      case o9=>
       intro xv W hE hp
       have r7:xv 7=_:=hp.1
       have r8:xv 8=_:=hp.2.1
       clear hp
       have hEw:Ext w0 W:=(Ext.drew _).trans hE
       obtain⟨y0,y1,y2,y3,y4,y5,y6⟩:=HY.out W hEw
       simp only[putD,zC,zB,zF,zE,Act.put,zM,zO,zN]
       refine OpGoal.yes (by simp[yieldD,r7]) ?_
       go_wp2_with fail
       exact⟨rfl,Ext.refl _,rfl⟩
      case o10=>
       intro xv W hE hp
       have r7:xv 7=_:=hp.1
       have r9:xv 9=_:=hp.2.1
       clear hp
       simp only[putD,zC,zB,zF,zE,Act.put,zM,zO,zN]
       refine OpGoal.yes (by simp[yieldD,r7]) ?_
       go_wp2_with fail
       exact⟨rfl,Ext.refl _,rfl⟩
      case o11=>
       intro xv W hE hp
       have r7:xv 7=_:=hp.1
       have r10:xv 10=_:=hp.2.1
       clear hp
       simp only[putD,zC,zB,zF,zE,Act.put,zM,zO,zN]
       refine OpGoal.yes (by simp[yieldD,r7]) ?_
       go_wp2_with fail
       exact⟨rfl,Ext.refl _,rfl⟩
      case o12=>
       intro xv W hE hp
       have r11:xv 11=_:=hp.1
       clear hp
       simp only[putD,zC,zB,zF,zE,Act.put,zM,zO,zN]
       exact OpGoal.off (by simp[yieldD,r11,undef]) ⟨Ext.refl _,rfl⟩
      case o13=>
       intro xv W hE hp
       have r11:xv 11=_:=hp.1
       have r12:xv 12=_:=hp.2.1
       clear hp
       have hEw:Ext w0 W:=(Ext.drew _).trans hE
       obtain⟨y0,y1,y2,y3,y4,y5,y6⟩:=HY.out W hEw
       simp only[putD,zC,zB,zF,zE,Act.put,zM,zO,zN]
       exact OpGoal.off (by simp[yieldD,r11,undef]) ⟨Ext.refl _,rfl⟩
      case o14=>
       intro xv W hE hp
       have r11:xv 11=_:=hp.1
       clear hp
       simp only[putD,zC,zB,zF,zE,Act.put,zM,zO,zN]
       exact OpGoal.off (by simp[yieldD,r11,undef]) ⟨Ext.refl _,rfl⟩
      case o15=>
       intro xv W hE hp
       have r11:xv 11=_:=hp.1
       have r13:xv 13=_:=hp.2.1
       have r14:xv 14=_:=hp.2.2.1
       clear hp
       simp only[putD,zC,zB,zF,zE,Act.put,zM,zO,zN]
       exact OpGoal.off (by simp[yieldD,r11,undef]) ⟨Ext.refl _,rfl⟩
      case o16=>
       intro xv W hE hp
       have r7:xv 7=_:=hp.1
       have r11:xv 11=_:=hp.2.1
       have r15:xv 15=_:=hp.2.2.1
       clear hp
       simp only[putD,zC,zB,zF,zE,Act.put,zM,zO,zN]
       refine OpGoal.yes (by simp[yieldD,r7]) ?_
       go_wp2_with fail
       exact⟨rfl,Ext.refl _,rfl⟩
      case o17|o18=>
       intro xv W hE hp
       try have q0:xv _=_:=hp.1
       try have q1:xv _=_:=hp.2.1
       clear hp
       simp only[putD,zC,zB,zF,zE,Act.put,zM,zO,zN]
       refine OpGoal.plain ?_
       go_wp2_with fail
       exact⟨rfl,Ext.refl _,rfl⟩
      case o19=>
       intro xv W hE hp
       have r18:xv 18=_:=hp.1
       clear hp
       simp only[putD,zC,zB,zF,zE,Act.put,zM,zO,zN]
       refine OpGoal.yes (by simp[yieldD,r18]) ?_
       go_wp2_with fail
       exact⟨rfl,Ext.refl _,rfl⟩
      case o20=>
       intro xv W hE hp
       have r18:xv 18=_:=hp.1
       have r19:xv 19=_:=hp.2.1
       clear hp
       have hEw:Ext w0 W:=(Ext.drew _).trans hE
       obtain⟨y0,y1,y2,y3,y4,y5,y6⟩:=HY.out W hEw
       simp only[putD,zC,zB,zF,zE,Act.put,zM,zO,zN]
       refine OpGoal.yes (by simp[yieldD,r18]) ?_
       go_wp2_with fail
       exact⟨rfl,Ext.refl _,rfl⟩
      case o21=>
       intro xv W hE hp
       have r18:xv 18=_:=hp.1
       have r20:xv 20=_:=hp.2.1
       clear hp
       simp only[putD,zC,zB,zF,zE,Act.put,zM,zO,zN]
       refine OpGoal.yes (by simp[yieldD,r18]) ?_
       go_wp2_with fail
       exact⟨rfl,Ext.refl _,rfl⟩
      case o22=>
       intro xv W hE hp
       have r18:xv 18=_:=hp.1
       have r21:xv 21=_:=hp.2.1
       clear hp
       simp only[putD,zC,zB,zF,zE,Act.put,zM,zO,zN]
       refine OpGoal.yes (by simp[yieldD,r18]) ?_
       go_wp2_with fail
       exact⟨rfl,Ext.refl _,rfl⟩
      case o23=>
       intro xv W hE hp
       have r22:xv 22=_:=hp.1
       clear hp
       simp only[putD,zC,zB,zF,zE,Act.put,zM,zO,zN]
       refine OpGoal.yes (by simp[yieldD,r22]) ?_
       go_wp2_with fail
       exact⟨rfl,Ext.refl _,rfl⟩
      case o24=>
       intro xv W hE hp
       have r22:xv 22=_:=hp.1
       have r23:xv 23=_:=hp.2.1
       clear hp
       have hEw:Ext w0 W:=(Ext.drew _).trans hE
       obtain⟨y0,y1,y2,y3,y4,y5,y6⟩:=HY.out W hEw
       simp only[putD,zC,zB,zF,zE,Act.put,zM,zO,zN]
       refine OpGoal.yes (by simp[yieldD,r22]) ?_
       go_wp2_with fail
       exact⟨rfl,Ext.refl _,rfl⟩
      case o25=>
       intro xv W hE hp
       have r22:xv 22=_:=hp.1
       have r24:xv 24=_:=hp.2.1
       clear hp
       simp only[putD,zC,zB,zF,zE,Act.put,zM,zO,zN]
       refine OpGoal.yes (by simp[yieldD,r22]) ?_
       go_wp2_with fail
       exact⟨rfl,Ext.refl _,rfl⟩
      case o26=>
       intro xv W hE hp
       have r18:xv 18=_:=hp.1
       have r22:xv 22=_:=hp.2.1
       have r25:xv 25=_:=hp.2.2.1
       clear hp
       simp only[putD,zC,zB,zF,zE,Act.put,zM,zO,zN]
       refine OpGoal.yes (by simp[yieldD,r18]) ?_
       go_wp2_with fail
       exact⟨rfl,Ext.refl _,rfl⟩
      case last=>
       intro xv W hE hp
       have r0:xv 0=_:=hp.1
       have r1:xv 1=_:=hp.2.1
       have r2:xv 2=_:=hp.2.2.1
       have r3:xv 3=_:=hp.2.2.2.1
       have r4:xv 4=_:=hp.2.2.2.2.1
       have r5:xv 5=_:=hp.2.2.2.2.2.1
       have r6:xv 6=_:=hp.2.2.2.2.2.2.1
       have r7:xv 7=_:=hp.2.2.2.2.2.2.2.1
       have r8:xv 8=_:=hp.2.2.2.2.2.2.2.2.1
       have r9:xv 9=_:=hp.2.2.2.2.2.2.2.2.2.1
       have r10:xv 10=_:=hp.2.2.2.2.2.2.2.2.2.2.1
       have r11:xv 11=_:=hp.2.2.2.2.2.2.2.2.2.2.2.1
       have r12:xv 12=_:=hp.2.2.2.2.2.2.2.2.2.2.2.2.1
       have r13:xv 13=_:=hp.2.2.2.2.2.2.2.2.2.2.2.2.2.1
       have r14:xv 14=_:=hp.2.2.2.2.2.2.2.2.2.2.2.2.2.2.1
       have r15:xv 15=_:=hp.2.2.2.2.2.2.2.2.2.2.2.2.2.2.2.1
       have r16:xv 16=_:=hp.2.2.2.2.2.2.2.2.2.2.2.2.2.2.2.2.1
       have r17:xv 17=_:=hp.2.2.2.2.2.2.2.2.2.2.2.2.2.2.2.2.2.1
       have r18:xv 18=_:=hp.2.2.2.2.2.2.2.2.2.2.2.2.2.2.2.2.2.2.1
       have r19:xv 19=_:=hp.2.2.2.2.2.2.2.2.2.2.2.2.2.2.2.2.2.2.2.1
       have r20:xv 20=_:=hp.2.2.2.2.2.2.2.2.2.2.2.2.2.2.2.2.2.2.2.2.1
       have r21:xv 21=_:=hp.2.2.2.2.2.2.2.2.2.2.2.2.2.2.2.2.2.2.2.2.2.1
       have r22:xv 22=_:=hp.2.2.2.2.2.2.2.2.2.2.2.2.2.2.2.2.2.2.2.2.2.2.1
       have r23:xv 23=_:=hp.2.2.2.2.2.2.2.2.2.2.2.2.2.2.2.2.2.2.2.2.2.2.2.1
       have r24:xv 24=_:=hp.2.2.2.2.2.2.2.2.2.2.2.2.2.2.2.2.2.2.2.2.2.2.2.2.1
       have r25:xv 25=_:=hp.2.2.2.2.2.2.2.2.2.2.2.2.2.2.2.2.2.2.2.2.2.2.2.2.2.1
       have r26:xv 26=_:=hp.2.2.2.2.2.2.2.2.2.2.2.2.2.2.2.2.2.2.2.2.2.2.2.2.2.2.1
       clear hp
       simp only[putD,zC,zB,zF,zE,Act.put,zH,zI,zK,zL,zJ,zA,zM,zO,zN]
       have hEw:Ext w0 W:=(Ext.drew w0).trans hE
       have e18:xv 18=.bool false:=r18
       have e26:xv 26=.bool true:=r26
       simp only[e18,e26]
       clear r0 r1 r2 r3 r4 r5 r6 r7 r8 r9 r10 r11 r12 r13 r14 r15 r16 r17 r18 r19 r20 r21 r22 r23 r24 r25 r26 hE e18 e26
       go_wp2_with fail
       go_meet
       case rel=>exact⟨by rw[HG.out];rfl,hEw⟩
    ·have t2:(e.op != 1)=true:=by simpa using h2
     have hvl:Vl.eq e.vl ⟨0,0,false,[]⟩=valB e.ty e.n e.b e.s 0 0 false []:=rfl
     cases hvb:valB e.ty e.n e.b e.s 0 0 false [] with
     | false=>
      rw[hvb]at hv
      have HG:Hid (good e.op e.var e.vl e.l.length=false):=zQ (by unfold good;rw[hvl,hvb,decide_eq_false h2];simp)
      clear h1 h2 hvl hvb
      go_wp2_with fail
      apply wp_region_seq (l:=[_,_,_,_,_,_,_,_,_,_,_,_,_,_,_,_,_,_,_,_,_,_,_,_,_,_,_]) (t:=[_]) [some 5,some 6,some 7,some 8,some 9,some 10,some 11,some 12,some 13,some 14,some 15,some 16,some 17,some 18,some 19,some 20,some 21,some 22,some 23,some 24,some 25,some 26,some 27,some 28,some 29,some 30,some 31,some 32] [[],[0],[1],[],[3],[4],[2,5],[6],[7],[7,8],[7,9],[7,10],[11],[11,12],[11],[11,13,14],[7,11,15],[7,16],[17],[18],[18,19],[18,20],[18,21],[22],[22,23],[22,24],[18,22,25],[18,26]] [1,2,7,4,5,6,7,17,9,10,11,18,13,15,15,16,17,18,27,20,21,22,26,24,25,26,27] [eqv _,eqv _,(eqv (.int .i64 (manyOf e.op))),eqv _,eqv _,eqv _,eqv _,eqv _,eqv _,eqv _,eqv _,eqv _,eqv _,eqv _,eqv _,eqv _,eqv _,eqv _,eqv _,eqv _,eqv _,eqv _,eqv _,eqv _,eqv _,eqv _,eqv _] (by kernel_rfl) (by kernel_rfl) ⟨?o0,?o1,?o2,?o3,?o4,?o5,?o6,?o7,?o8,?o9,?o10,?o11,?o12,?o13,?o14,?o15,?o16,?o17,?o18,?o19,?o20,?o21,?o22,?o23,?o24,?o25,?o26,trivial⟩ ?last
      case o0|o3=>
       intro xv W hE hp
       try have q0:xv _=_:=hp.1
       try have q1:xv _=_:=hp.2.1
       clear hp
       simp only[putD,zC,zB,zF,zE,Act.put,zM,zO,zN]
       refine OpGoal.plain ?_
       go_wp2_with fail
       exact⟨rfl,Ext.refl _,rfl⟩
      case o1|o4=>
       intro xv W hE hp
       try have q0:xv _=_:=hp.1
       try have q1:xv _=_:=hp.2.1
       clear hp
       have hEw:Ext w0 W:=(Ext.drew _).trans hE
       obtain⟨y0,y1,y2,y3,y4,y5,y6⟩:=HY.out W hEw
       simp only[putD,zC,zB,zF,zE,Act.put,zM,zO,zN]
       refine OpGoal.plain ?_
       go_wp2_with fail
       exact⟨rfl,Ext.refl _,rfl⟩
      case o2=>
       intro xv W hE hp
       have r1:xv 1=_:=hp.1
       clear hp
       simp only[putD,zC,zB,zF,zE,Act.put,zM,zO,zN]
       refine OpGoal.plain ?_
       go_wp2_with fail
       refine(many_any e.op _).mono ?_
       rintro r w' ⟨rfl,rfl⟩
       go_wp2_with fail
       exact⟨rfl,Ext.refl _,rfl⟩
      case o5|o6|o7=>
       intro xv W hE hp
       try have q0:xv _=_:=hp.1
       try have q1:xv _=_:=hp.2.1
       clear hp
       simp only[putD,zC,zB,zF,zE,Act.put,zM,zO,zN]
       refine OpGoal.plain ?_
       go_wp2_with fail
       exact⟨rfl,Ext.refl _,rfl⟩
      case o8=>
       intro xv W hE hp
       have r7:xv 7=_:=hp.1
       clear hp
       simp only[putD,zC,zB,zF,zE,Act.put,zM,zO,zN]
       refine OpGoal.yes (by simp[yieldD,r7]) ?_
       go_wp2_with fail
       exact⟨rfl,Ext.refl _,rfl⟩
      case o9=>
       intro xv W hE hp
       have r7:xv 7=_:=hp.1
       have r8:xv 8=_:=hp.2.1
       clear hp
       have hEw:Ext w0 W:=(Ext.drew _).trans hE
       obtain⟨y0,y1,y2,y3,y4,y5,y6⟩:=HY.out W hEw
       simp only[putD,zC,zB,zF,zE,Act.put,zM,zO,zN]
       refine OpGoal.yes (by simp[yieldD,r7]) ?_
       go_wp2_with fail
       exact⟨rfl,Ext.refl _,rfl⟩
      case o10=>
       intro xv W hE hp
       have r7:xv 7=_:=hp.1
       have r9:xv 9=_:=hp.2.1
       clear hp
       simp only[putD,zC,zB,zF,zE,Act.put,zM,zO,zN]
       refine OpGoal.yes (by simp[yieldD,r7]) ?_
       go_wp2_with fail
       exact⟨rfl,Ext.refl _,rfl⟩
      case o11=>
       intro xv W hE hp
       have r7:xv 7=_:=hp.1
       have r10:xv 10=_:=hp.2.1
       clear hp
       simp only[putD,zC,zB,zF,zE,Act.put,zM,zO,zN]
       refine OpGoal.yes (by simp[yieldD,r7]) ?_
       go_wp2_with fail
       exact⟨rfl,Ext.refl _,rfl⟩
      case o12=>
       intro xv W hE hp
       have r11:xv 11=_:=hp.1
       clear hp
       simp only[putD,zC,zB,zF,zE,Act.put,zM,zO,zN]
       refine OpGoal.yes (by simp[yieldD,r11]) ?_
       go_wp2_with fail
       exact⟨rfl,Ext.refl _,rfl⟩
      case o13=>
       intro xv W hE hp
       have r11:xv 11=_:=hp.1
       have r12:xv 12=_:=hp.2.1
       clear hp
       have hEw:Ext w0 W:=(Ext.drew _).trans hE
       obtain⟨y0,y1,y2,y3,y4,y5,y6⟩:=HY.out W hEw
       simp only[putD,zC,zB,zF,zE,Act.put,zM,zO,zN]
       refine OpGoal.yes (by simp[yieldD,r11]) ?_
       go_wp2_with fail
       exact⟨rfl,Ext.refl _,rfl⟩
      case o14=>
       intro xv W hE hp
       have r11:xv 11=_:=hp.1
       clear hp
       simp only[putD,zC,zB,zF,zE,Act.put,zM,zO,zN]
       refine OpGoal.yes (by simp[yieldD,r11]) ?_
       go_wp2_with fail
       exact⟨rfl,Ext.refl _,rfl⟩
      case o15=>
       intro xv W hE hp
       have r11:xv 11=_:=hp.1
       have r13:xv 13=_:=hp.2.1
       have r14:xv 14=_:=hp.2.2.1
       clear hp
       simp only[putD,zC,zB,zF,zE,Act.put,zM,zO,zN]
       refine OpGoal.yes (by simp[yieldD,r11]) ?_
       go_wp2_with fail
       exact⟨rfl,Ext.refl _,rfl⟩
      case o16=>
       intro xv W hE hp
       have r7:xv 7=_:=hp.1
       have r11:xv 11=_:=hp.2.1
       have r15:xv 15=_:=hp.2.2.1
       clear hp
       simp only[putD,zC,zB,zF,zE,Act.put,zM,zO,zN]
       refine OpGoal.yes (by simp[yieldD,r7]) ?_
       go_wp2_with fail
       exact⟨rfl,Ext.refl _,rfl⟩
      case o17|o18=>
       intro xv W hE hp
       try have q0:xv _=_:=hp.1
       try have q1:xv _=_:=hp.2.1
       clear hp
       simp only[putD,zC,zB,zF,zE,Act.put,zM,zO,zN]
       refine OpGoal.plain ?_
       go_wp2_with fail
       exact⟨rfl,Ext.refl _,rfl⟩
      case o19=>
       intro xv W hE hp
       have r18:xv 18=_:=hp.1
       clear hp
       simp only[putD,zC,zB,zF,zE,Act.put,zM,zO,zN]
       exact OpGoal.off (by simp[yieldD,r18,undef]) ⟨Ext.refl _,rfl⟩
      case o20=>
       intro xv W hE hp
       have r18:xv 18=_:=hp.1
       have r19:xv 19=_:=hp.2.1
       clear hp
       have hEw:Ext w0 W:=(Ext.drew _).trans hE
       obtain⟨y0,y1,y2,y3,y4,y5,y6⟩:=HY.out W hEw
       simp only[putD,zC,zB,zF,zE,Act.put,zM,zO,zN]
       exact OpGoal.off (by simp[yieldD,r18,undef]) ⟨Ext.refl _,rfl⟩
      case o21=>
       intro xv W hE hp
       have r18:xv 18=_:=hp.1
       have r20:xv 20=_:=hp.2.1
       clear hp
       simp only[putD,zC,zB,zF,zE,Act.put,zM,zO,zN]
       exact OpGoal.off (by simp[yieldD,r18,undef]) ⟨Ext.refl _,rfl⟩
      case o22=>
       intro xv W hE hp
       have r18:xv 18=_:=hp.1
       have r21:xv 21=_:=hp.2.1
       clear hp
       simp only[putD,zC,zB,zF,zE,Act.put,zM,zO,zN]
       exact OpGoal.off (by simp[yieldD,r18,undef]) ⟨Ext.refl _,rfl⟩
      case o23=>
       intro xv W hE hp
       have r22:xv 22=_:=hp.1
       clear hp
       simp only[putD,zC,zB,zF,zE,Act.put,zM,zO,zN]
       exact OpGoal.off (by simp[yieldD,r22,undef]) ⟨Ext.refl _,rfl⟩
      case o24=>
       intro xv W hE hp
       have r22:xv 22=_:=hp.1
       have r23:xv 23=_:=hp.2.1
       clear hp
       have hEw:Ext w0 W:=(Ext.drew _).trans hE
       obtain⟨y0,y1,y2,y3,y4,y5,y6⟩:=HY.out W hEw
       simp only[putD,zC,zB,zF,zE,Act.put,zM,zO,zN]
       exact OpGoal.off (by simp[yieldD,r22,undef]) ⟨Ext.refl _,rfl⟩
      case o25=>
       intro xv W hE hp
       have r22:xv 22=_:=hp.1
       have r24:xv 24=_:=hp.2.1
       clear hp
       simp only[putD,zC,zB,zF,zE,Act.put,zM,zO,zN]
       exact OpGoal.off (by simp[yieldD,r22,undef]) ⟨Ext.refl _,rfl⟩
      case o26=>
       intro xv W hE hp
       have r18:xv 18=_:=hp.1
       have r22:xv 22=_:=hp.2.1
       have r25:xv 25=_:=hp.2.2.1
       clear hp
       simp only[putD,zC,zB,zF,zE,Act.put,zM,zO,zN]
       exact OpGoal.off (by simp[yieldD,r18,undef]) ⟨Ext.refl _,rfl⟩
      case last=>
       intro xv W hE hp
       have r0:xv 0=_:=hp.1
       have r1:xv 1=_:=hp.2.1
       have r2:xv 2=_:=hp.2.2.1
       have r3:xv 3=_:=hp.2.2.2.1
       have r4:xv 4=_:=hp.2.2.2.2.1
       have r5:xv 5=_:=hp.2.2.2.2.2.1
       have r6:xv 6=_:=hp.2.2.2.2.2.2.1
       have r7:xv 7=_:=hp.2.2.2.2.2.2.2.1
       have r8:xv 8=_:=hp.2.2.2.2.2.2.2.2.1
       have r9:xv 9=_:=hp.2.2.2.2.2.2.2.2.2.1
       have r10:xv 10=_:=hp.2.2.2.2.2.2.2.2.2.2.1
       have r11:xv 11=_:=hp.2.2.2.2.2.2.2.2.2.2.2.1
       have r12:xv 12=_:=hp.2.2.2.2.2.2.2.2.2.2.2.2.1
       have r13:xv 13=_:=hp.2.2.2.2.2.2.2.2.2.2.2.2.2.1
       have r14:xv 14=_:=hp.2.2.2.2.2.2.2.2.2.2.2.2.2.2.1
       have r15:xv 15=_:=hp.2.2.2.2.2.2.2.2.2.2.2.2.2.2.2.1
       have r16:xv 16=_:=hp.2.2.2.2.2.2.2.2.2.2.2.2.2.2.2.2.1
       have r17:xv 17=_:=hp.2.2.2.2.2.2.2.2.2.2.2.2.2.2.2.2.2.1
       have r18:xv 18=_:=hp.2.2.2.2.2.2.2.2.2.2.2.2.2.2.2.2.2.2.1
       have r19:xv 19=_:=hp.2.2.2.2.2.2.2.2.2.2.2.2.2.2.2.2.2.2.2.1
       have r20:xv 20=_:=hp.2.2.2.2.2.2.2.2.2.2.2.2.2.2.2.2.2.2.2.2.1
       have r21:xv 21=_:=hp.2.2.2.2.2.2.2.2.2.2.2.2.2.2.2.2.2.2.2.2.2.1
       have r22:xv 22=_:=hp.2.2.2.2.2.2.2.2.2.2.2.2.2.2.2.2.2.2.2.2.2.2.1
       have r23:xv 23=_:=hp.2.2.2.2.2.2.2.2.2.2.2.2.2.2.2.2.2.2.2.2.2.2.2.1
       have r24:xv 24=_:=hp.2.2.2.2.2.2.2.2.2.2.2.2.2.2.2.2.2.2.2.2.2.2.2.2.1
       have r25:xv 25=_:=hp.2.2.2.2.2.2.2.2.2.2.2.2.2.2.2.2.2.2.2.2.2.2.2.2.2.1
       have r26:xv 26=_:=hp.2.2.2.2.2.2.2.2.2.2.2.2.2.2.2.2.2.2.2.2.2.2.2.2.2.2.1
       clear hp
       simp only[putD,zC,zB,zF,zE,Act.put,zH,zI,zK,zL,zJ,zA,zM,zO,zN]
       have hEw:Ext w0 W:=(Ext.drew w0).trans hE
       have e18:xv 18=.bool true:=r18
       have e26:xv 26=undef:=r26
       simp only[e18,e26]
       clear r0 r1 r2 r3 r4 r5 r6 r7 r8 r9 r10 r11 r12 r13 r14 r15 r16 r17 r18 r19 r20 r21 r22 r23 r24 r25 r26 hE e18 e26
       go_wp2_with fail
       go_meet
       case rel=>exact⟨by rw[HG.out];rfl,hEw⟩
     | true=>
      rw[hvb]at hv
      by_cases h4:e.op=2
      ·have t4:(e.op != 2)=false:=by simpa using h4
       have HG:Hid (good e.op e.var e.vl e.l.length=true):=zQ (by unfold good;rw[hvl,hvb,decide_eq_true h1,decide_eq_true h4];simp)
       clear h1 h2 h4 hvl hvb
       go_wp2_with fail
       apply wp_region_seq (l:=[_,_,_,_,_,_,_,_,_,_,_,_,_,_,_,_,_,_,_,_,_,_,_,_,_,_,_]) (t:=[_]) [some 5,some 6,some 7,some 8,some 9,some 10,some 11,some 12,some 13,some 14,some 15,some 16,some 17,some 18,some 19,some 20,some 21,some 22,some 23,some 24,some 25,some 26,some 27,some 28,some 29,some 30,some 31,some 32] [[],[0],[1],[],[3],[4],[2,5],[6],[7],[7,8],[7,9],[7,10],[11],[11,12],[11],[11,13,14],[7,11,15],[7,16],[17],[18],[18,19],[18,20],[18,21],[22],[22,23],[22,24],[18,22,25],[18,26]] [1,2,7,4,5,6,7,17,9,10,11,18,13,15,15,16,17,18,27,20,21,22,26,24,25,26,27] [eqv _,eqv _,(eqv (.int .i64 (manyOf e.op))),eqv _,eqv _,eqv _,eqv _,eqv _,eqv _,eqv _,eqv _,eqv _,eqv _,eqv _,eqv _,eqv _,eqv _,eqv _,eqv _,eqv _,eqv _,eqv _,eqv _,eqv _,eqv _,eqv _,eqv _] (by kernel_rfl) (by kernel_rfl) ⟨?o0,?o1,?o2,?o3,?o4,?o5,?o6,?o7,?o8,?o9,?o10,?o11,?o12,?o13,?o14,?o15,?o16,?o17,?o18,?o19,?o20,?o21,?o22,?o23,?o24,?o25,?o26,trivial⟩ ?last
       case o0|o3=>
        intro xv W hE hp
        try have q0:xv _=_:=hp.1
        try have q1:xv _=_:=hp.2.1
        clear hp
        simp only[putD,zC,zB,zF,zE,Act.put,zM,zO,zN]
        refine OpGoal.plain ?_
        go_wp2_with fail
        exact⟨rfl,Ext.refl _,rfl⟩
       case o1|o4=>
        intro xv W hE hp
        try have q0:xv _=_:=hp.1
        try have q1:xv _=_:=hp.2.1
        clear hp
        have hEw:Ext w0 W:=(Ext.drew _).trans hE
        obtain⟨y0,y1,y2,y3,y4,y5,y6⟩:=HY.out W hEw
        simp only[putD,zC,zB,zF,zE,Act.put,zM,zO,zN]
        refine OpGoal.plain ?_
        go_wp2_with fail
        exact⟨rfl,Ext.refl _,rfl⟩
       case o2=>
        intro xv W hE hp
        have r1:xv 1=_:=hp.1
        clear hp
        simp only[putD,zC,zB,zF,zE,Act.put,zM,zO,zN]
        refine OpGoal.plain ?_
        go_wp2_with fail
        refine(many_any e.op _).mono ?_
        rintro r w' ⟨rfl,rfl⟩
        go_wp2_with fail
        exact⟨rfl,Ext.refl _,rfl⟩
       case o5|o6|o7=>
        intro xv W hE hp
        try have q0:xv _=_:=hp.1
        try have q1:xv _=_:=hp.2.1
        clear hp
        simp only[putD,zC,zB,zF,zE,Act.put,zM,zO,zN]
        refine OpGoal.plain ?_
        go_wp2_with fail
        exact⟨rfl,Ext.refl _,rfl⟩
       case o8=>
        intro xv W hE hp
        have r7:xv 7=_:=hp.1
        clear hp
        simp only[putD,zC,zB,zF,zE,Act.put,zM,zO,zN]
        refine OpGoal.yes (by simp[yieldD,r7]) ?_
        go_wp2_with fail
        exact⟨rfl,Ext.refl _,rfl⟩
       case o9=>
        intro xv W hE hp
        have r7:xv 7=_:=hp.1
        have r8:xv 8=_:=hp.2.1
        clear hp
        have hEw:Ext w0 W:=(Ext.drew _).trans hE
        obtain⟨y0,y1,y2,y3,y4,y5,y6⟩:=HY.out W hEw
        simp only[putD,zC,zB,zF,zE,Act.put,zM,zO,zN]
        refine OpGoal.yes (by simp[yieldD,r7]) ?_
        go_wp2_with fail
        exact⟨rfl,Ext.refl _,rfl⟩
       case o10=>
        intro xv W hE hp
        have r7:xv 7=_:=hp.1
        have r9:xv 9=_:=hp.2.1
        clear hp
        simp only[putD,zC,zB,zF,zE,Act.put,zM,zO,zN]
        refine OpGoal.yes (by simp[yieldD,r7]) ?_
        go_wp2_with fail
        exact⟨rfl,Ext.refl _,rfl⟩
       case o11=>
        intro xv W hE hp
        have r7:xv 7=_:=hp.1
        have r10:xv 10=_:=hp.2.1
        clear hp
        simp only[putD,zC,zB,zF,zE,Act.put,zM,zO,zN]
        refine OpGoal.yes (by simp[yieldD,r7]) ?_
        go_wp2_with fail
        exact⟨rfl,Ext.refl _,rfl⟩
       case o12=>
        intro xv W hE hp
        have r11:xv 11=_:=hp.1
        clear hp
        simp only[putD,zC,zB,zF,zE,Act.put,zM,zO,zN]
        refine OpGoal.yes (by simp[yieldD,r11]) ?_
        go_wp2_with fail
        exact⟨rfl,Ext.refl _,rfl⟩
       case o13=>
        intro xv W hE hp
        have r11:xv 11=_:=hp.1
        have r12:xv 12=_:=hp.2.1
        clear hp
        have hEw:Ext w0 W:=(Ext.drew _).trans hE
        obtain⟨y0,y1,y2,y3,y4,y5,y6⟩:=HY.out W hEw
        simp only[putD,zC,zB,zF,zE,Act.put,zM,zO,zN]
        refine OpGoal.yes (by simp[yieldD,r11]) ?_
        go_wp2_with fail
        exact⟨rfl,Ext.refl _,rfl⟩
       case o14=>
        intro xv W hE hp
        have r11:xv 11=_:=hp.1
        clear hp
        simp only[putD,zC,zB,zF,zE,Act.put,zM,zO,zN]
        refine OpGoal.yes (by simp[yieldD,r11]) ?_
        go_wp2_with fail
        exact⟨rfl,Ext.refl _,rfl⟩
       case o15=>
        intro xv W hE hp
        have r11:xv 11=_:=hp.1
        have r13:xv 13=_:=hp.2.1
        have r14:xv 14=_:=hp.2.2.1
        clear hp
        simp only[putD,zC,zB,zF,zE,Act.put,zM,zO,zN]
        refine OpGoal.yes (by simp[yieldD,r11]) ?_
        go_wp2_with fail
        exact⟨rfl,Ext.refl _,rfl⟩
       case o16=>
        intro xv W hE hp
        have r7:xv 7=_:=hp.1
        have r11:xv 11=_:=hp.2.1
        have r15:xv 15=_:=hp.2.2.1
        clear hp
        simp only[putD,zC,zB,zF,zE,Act.put,zM,zO,zN]
        refine OpGoal.yes (by simp[yieldD,r7]) ?_
        go_wp2_with fail
        exact⟨rfl,Ext.refl _,rfl⟩
       case o17|o18=>
        intro xv W hE hp
        try have q0:xv _=_:=hp.1
        try have q1:xv _=_:=hp.2.1
        clear hp
        simp only[putD,zC,zB,zF,zE,Act.put,zM,zO,zN]
        refine OpGoal.plain ?_
        go_wp2_with fail
        exact⟨rfl,Ext.refl _,rfl⟩
       case o19=>
        intro xv W hE hp
        have r18:xv 18=_:=hp.1
        clear hp
        simp only[putD,zC,zB,zF,zE,Act.put,zM,zO,zN]
        refine OpGoal.yes (by simp[yieldD,r18]) ?_
        go_wp2_with fail
        exact⟨rfl,Ext.refl _,rfl⟩
       case o20=>
        intro xv W hE hp
        have r18:xv 18=_:=hp.1
        have r19:xv 19=_:=hp.2.1
        clear hp
        have hEw:Ext w0 W:=(Ext.drew _).trans hE
        obtain⟨y0,y1,y2,y3,y4,y5,y6⟩:=HY.out W hEw
        simp only[putD,zC,zB,zF,zE,Act.put,zM,zO,zN]
        refine OpGoal.yes (by simp[yieldD,r18]) ?_
        go_wp2_with fail
        exact⟨rfl,Ext.refl _,rfl⟩
       case o21=>
        intro xv W hE hp
        have r18:xv 18=_:=hp.1
        have r20:xv 20=_:=hp.2.1
        clear hp
        simp only[putD,zC,zB,zF,zE,Act.put,zM,zO,zN]
        refine OpGoal.yes (by simp[yieldD,r18]) ?_
        go_wp2_with fail
        exact⟨rfl,Ext.refl _,rfl⟩
       case o22=>
        intro xv W hE hp
        have r18:xv 18=_:=hp.1
        have r21:xv 21=_:=hp.2.1
        clear hp
        simp only[putD,zC,zB,zF,zE,Act.put,zM,zO,zN]
        refine OpGoal.yes (by simp[yieldD,r18]) ?_
        go_wp2_with fail
        exact⟨rfl,Ext.refl _,rfl⟩
       case o23=>
        intro xv W hE hp
        have r22:xv 22=_:=hp.1
        clear hp
        simp only[putD,zC,zB,zF,zE,Act.put,zM,zO,zN]
        exact OpGoal.off (by simp[yieldD,r22,undef]) ⟨Ext.refl _,rfl⟩
       case o24=>
        intro xv W hE hp
        have r22:xv 22=_:=hp.1
        have r23:xv 23=_:=hp.2.1
        clear hp
        have hEw:Ext w0 W:=(Ext.drew _).trans hE
        obtain⟨y0,y1,y2,y3,y4,y5,y6⟩:=HY.out W hEw
        simp only[putD,zC,zB,zF,zE,Act.put,zM,zO,zN]
        exact OpGoal.off (by simp[yieldD,r22,undef]) ⟨Ext.refl _,rfl⟩
       case o25=>
        intro xv W hE hp
        have r22:xv 22=_:=hp.1
        have r24:xv 24=_:=hp.2.1
        clear hp
        simp only[putD,zC,zB,zF,zE,Act.put,zM,zO,zN]
        exact OpGoal.off (by simp[yieldD,r22,undef]) ⟨Ext.refl _,rfl⟩
       case o26=>
        intro xv W hE hp
        have r18:xv 18=_:=hp.1
        have r22:xv 22=_:=hp.2.1
        have r25:xv 25=_:=hp.2.2.1
        clear hp
        simp only[putD,zC,zB,zF,zE,Act.put,zM,zO,zN]
        refine OpGoal.yes (by simp[yieldD,r18]) ?_
        go_wp2_with fail
        exact⟨rfl,Ext.refl _,rfl⟩
       case last=>
        intro xv W hE hp
        have r0:xv 0=_:=hp.1
        have r1:xv 1=_:=hp.2.1
        have r2:xv 2=_:=hp.2.2.1
        have r3:xv 3=_:=hp.2.2.2.1
        have r4:xv 4=_:=hp.2.2.2.2.1
        have r5:xv 5=_:=hp.2.2.2.2.2.1
        have r6:xv 6=_:=hp.2.2.2.2.2.2.1
        have r7:xv 7=_:=hp.2.2.2.2.2.2.2.1
        have r8:xv 8=_:=hp.2.2.2.2.2.2.2.2.1
        have r9:xv 9=_:=hp.2.2.2.2.2.2.2.2.2.1
        have r10:xv 10=_:=hp.2.2.2.2.2.2.2.2.2.2.1
        have r11:xv 11=_:=hp.2.2.2.2.2.2.2.2.2.2.2.1
        have r12:xv 12=_:=hp.2.2.2.2.2.2.2.2.2.2.2.2.1
        have r13:xv 13=_:=hp.2.2.2.2.2.2.2.2.2.2.2.2.2.1
        have r14:xv 14=_:=hp.2.2.2.2.2.2.2.2.2.2.2.2.2.2.1
        have r15:xv 15=_:=hp.2.2.2.2.2.2.2.2.2.2.2.2.2.2.2.1
        have r16:xv 16=_:=hp.2.2.2.2.2.2.2.2.2.2.2.2.2.2.2.2.1
        have r17:xv 17=_:=hp.2.2.2.2.2.2.2.2.2.2.2.2.2.2.2.2.2.1
        have r18:xv 18=_:=hp.2.2.2.2.2.2.2.2.2.2.2.2.2.2.2.2.2.2.1
        have r19:xv 19=_:=hp.2.2.2.2.2.2.2.2.2.2.2.2.2.2.2.2.2.2.2.1
        have r20:xv 20=_:=hp.2.2.2.2.2.2.2.2.2.2.2.2.2.2.2.2.2.2.2.2.1
        have r21:xv 21=_:=hp.2.2.2.2.2.2.2.2.2.2.2.2.2.2.2.2.2.2.2.2.2.1
        have r22:xv 22=_:=hp.2.2.2.2.2.2.2.2.2.2.2.2.2.2.2.2.2.2.2.2.2.2.1
        have r23:xv 23=_:=hp.2.2.2.2.2.2.2.2.2.2.2.2.2.2.2.2.2.2.2.2.2.2.2.1
        have r24:xv 24=_:=hp.2.2.2.2.2.2.2.2.2.2.2.2.2.2.2.2.2.2.2.2.2.2.2.2.1
        have r25:xv 25=_:=hp.2.2.2.2.2.2.2.2.2.2.2.2.2.2.2.2.2.2.2.2.2.2.2.2.2.1
        have r26:xv 26=_:=hp.2.2.2.2.2.2.2.2.2.2.2.2.2.2.2.2.2.2.2.2.2.2.2.2.2.2.1
        clear hp
        simp only[putD,zC,zB,zF,zE,Act.put,zH,zI,zK,zL,zJ,zA,zM,zO,zN]
        have hEw:Ext w0 W:=(Ext.drew w0).trans hE
        have e18:xv 18=.bool false:=r18
        have e26:xv 26=.bool false:=r26
        simp only[e18,e26]
        clear r0 r1 r2 r3 r4 r5 r6 r7 r8 r9 r10 r11 r12 r13 r14 r15 r16 r17 r18 r19 r20 r21 r22 r23 r24 r25 r26 hE e18 e26
        go_wp2_with fail
        go_meet
        case rel=>exact⟨by rw[HG.out];rfl,hEw⟩
      ·have t4:(e.op != 2)=true:=by simpa using h4
       by_cases h5:e.var=0
       ·have t5:(e.var != 0)=false:=by simpa using h5
        have HG:Hid (good e.op e.var e.vl e.l.length=true):=zQ (by unfold good;rw[hvl,hvb,decide_eq_true h1,decide_eq_true h5];simp)
        clear h1 h2 h4 h5 hvl hvb
        go_wp2_with fail
        apply wp_region_seq (l:=[_,_,_,_,_,_,_,_,_,_,_,_,_,_,_,_,_,_,_,_,_,_,_,_,_,_,_]) (t:=[_]) [some 5,some 6,some 7,some 8,some 9,some 10,some 11,some 12,some 13,some 14,some 15,some 16,some 17,some 18,some 19,some 20,some 21,some 22,some 23,some 24,some 25,some 26,some 27,some 28,some 29,some 30,some 31,some 32] [[],[0],[1],[],[3],[4],[2,5],[6],[7],[7,8],[7,9],[7,10],[11],[11,12],[11],[11,13,14],[7,11,15],[7,16],[17],[18],[18,19],[18,20],[18,21],[22],[22,23],[22,24],[18,22,25],[18,26]] [1,2,7,4,5,6,7,17,9,10,11,18,13,15,15,16,17,18,27,20,21,22,26,24,25,26,27] [eqv _,eqv _,(eqv (.int .i64 (manyOf e.op))),eqv _,eqv _,eqv _,eqv _,eqv _,eqv _,eqv _,eqv _,eqv _,eqv _,eqv _,eqv _,eqv _,eqv _,eqv _,eqv _,eqv _,eqv _,eqv _,eqv _,eqv _,eqv _,eqv _,eqv _] (by kernel_rfl) (by kernel_rfl) ⟨?o0,?o1,?o2,?o3,?o4,?o5,?o6,?o7,?o8,?o9,?o10,?o11,?o12,?o13,?o14,?o15,?o16,?o17,?o18,?o19,?o20,?o21,?o22,?o23,?o24,?o25,?o26,trivial⟩ ?last
        case o0|o3=>
         intro xv W hE hp
         try have q0:xv _=_:=hp.1
         try have q1:xv _=_:=hp.2.1
         clear hp
         simp only[putD,zC,zB,zF,zE,Act.put,zM,zO,zN]
         refine OpGoal.plain ?_
         go_wp2_with fail
         exact⟨rfl,Ext.refl _,rfl⟩
        case o1|o4=>
         intro xv W hE hp
         try have q0:xv _=_:=hp.1
         try have q1:xv _=_:=hp.2.1
         clear hp
         have hEw:Ext w0 W:=(Ext.drew _).trans hE
         obtain⟨y0,y1,y2,y3,y4,y5,y6⟩:=HY.out W hEw
         simp only[putD,zC,zB,zF,zE,Act.put,zM,zO,zN]
         refine OpGoal.plain ?_
         go_wp2_with fail
         exact⟨rfl,Ext.refl _,rfl⟩
        case o2=>
         intro xv W hE hp
         have r1:xv 1=_:=hp.1
         clear hp
         simp only[putD,zC,zB,zF,zE,Act.put,zM,zO,zN]
         refine OpGoal.plain ?_
         go_wp2_with fail
         refine(many_any e.op _).mono ?_
         rintro r w' ⟨rfl,rfl⟩
         go_wp2_with fail
         exact⟨rfl,Ext.refl _,rfl⟩
        case o5|o6|o7=>
         intro xv W hE hp
         try have q0:xv _=_:=hp.1
         try have q1:xv _=_:=hp.2.1
         clear hp
         simp only[putD,zC,zB,zF,zE,Act.put,zM,zO,zN]
         refine OpGoal.plain ?_
         go_wp2_with fail
         exact⟨rfl,Ext.refl _,rfl⟩
        case o8=>
         intro xv W hE hp
         have r7:xv 7=_:=hp.1
         clear hp
         simp only[putD,zC,zB,zF,zE,Act.put,zM,zO,zN]
         refine OpGoal.yes (by simp[yieldD,r7]) ?_
         go_wp2_with fail
         exact⟨rfl,Ext.refl _,rfl⟩
        case o9=>
         intro xv W hE hp
         have r7:xv 7=_:=hp.1
         have r8:xv 8=_:=hp.2.1
         clear hp
         have hEw:Ext w0 W:=(Ext.drew _).trans hE
         obtain⟨y0,y1,y2,y3,y4,y5,y6⟩:=HY.out W hEw
         simp only[putD,zC,zB,zF,zE,Act.put,zM,zO,zN]
         refine OpGoal.yes (by simp[yieldD,r7]) ?_
         go_wp2_with fail
         exact⟨rfl,Ext.refl _,rfl⟩
        case o10=>
         intro xv W hE hp
         have r7:xv 7=_:=hp.1
         have r9:xv 9=_:=hp.2.1
         clear hp
         simp only[putD,zC,zB,zF,zE,Act.put,zM,zO,zN]
         refine OpGoal.yes (by simp[yieldD,r7]) ?_
         go_wp2_with fail
         exact⟨rfl,Ext.refl _,rfl⟩
        case o11=>
         intro xv W hE hp
         have r7:xv 7=_:=hp.1
         have r10:xv 10=_:=hp.2.1
         clear hp
         simp only[putD,zC,zB,zF,zE,Act.put,zM,zO,zN]
         refine OpGoal.yes (by simp[yieldD,r7]) ?_
         go_wp2_with fail
         exact⟨rfl,Ext.refl _,rfl⟩
        case o12=>
         intro xv W hE hp
         have r11:xv 11=_:=hp.1
         clear hp
         simp only[putD,zC,zB,zF,zE,Act.put,zM,zO,zN]
         refine OpGoal.yes (by simp[yieldD,r11]) ?_
         go_wp2_with fail
         exact⟨rfl,Ext.refl _,rfl⟩
        case o13=>
         intro xv W hE hp
         have r11:xv 11=_:=hp.1
         have r12:xv 12=_:=hp.2.1
         clear hp
         have hEw:Ext w0 W:=(Ext.drew _).trans hE
         obtain⟨y0,y1,y2,y3,y4,y5,y6⟩:=HY.out W hEw
         simp only[putD,zC,zB,zF,zE,Act.put,zM,zO,zN]
         refine OpGoal.yes (by simp[yieldD,r11]) ?_
         go_wp2_with fail
         exact⟨rfl,Ext.refl _,rfl⟩
        case o14=>
         intro xv W hE hp
         have r11:xv 11=_:=hp.1
         clear hp
         simp only[putD,zC,zB,zF,zE,Act.put,zM,zO,zN]
         refine OpGoal.yes (by simp[yieldD,r11]) ?_
         go_wp2_with fail
         exact⟨rfl,Ext.refl _,rfl⟩
        case o15=>
         intro xv W hE hp
         have r11:xv 11=_:=hp.1
         have r13:xv 13=_:=hp.2.1
         have r14:xv 14=_:=hp.2.2.1
         clear hp
         simp only[putD,zC,zB,zF,zE,Act.put,zM,zO,zN]
         refine OpGoal.yes (by simp[yieldD,r11]) ?_
         go_wp2_with fail
         exact⟨rfl,Ext.refl _,rfl⟩
        case o16=>
         intro xv W hE hp
         have r7:xv 7=_:=hp.1
         have r11:xv 11=_:=hp.2.1
         have r15:xv 15=_:=hp.2.2.1
         clear hp
         simp only[putD,zC,zB,zF,zE,Act.put,zM,zO,zN]
         refine OpGoal.yes (by simp[yieldD,r7]) ?_
         go_wp2_with fail
         exact⟨rfl,Ext.refl _,rfl⟩
        case o17|o18=>
         intro xv W hE hp
         try have q0:xv _=_:=hp.1
         try have q1:xv _=_:=hp.2.1
         clear hp
         simp only[putD,zC,zB,zF,zE,Act.put,zM,zO,zN]
         refine OpGoal.plain ?_
         go_wp2_with fail
         exact⟨rfl,Ext.refl _,rfl⟩
        case o19=>
         intro xv W hE hp
         have r18:xv 18=_:=hp.1
         clear hp
         simp only[putD,zC,zB,zF,zE,Act.put,zM,zO,zN]
         refine OpGoal.yes (by simp[yieldD,r18]) ?_
         go_wp2_with fail
         exact⟨rfl,Ext.refl _,rfl⟩
        case o20=>
         intro xv W hE hp
         have r18:xv 18=_:=hp.1
         have r19:xv 19=_:=hp.2.1
         clear hp
         have hEw:Ext w0 W:=(Ext.drew _).trans hE
         obtain⟨y0,y1,y2,y3,y4,y5,y6⟩:=HY.out W hEw
         simp only[putD,zC,zB,zF,zE,Act.put,zM,zO,zN]
         refine OpGoal.yes (by simp[yieldD,r18]) ?_
         go_wp2_with fail
         exact⟨rfl,Ext.refl _,rfl⟩
        case o21=>
         intro xv W hE hp
         have r18:xv 18=_:=hp.1
         have r20:xv 20=_:=hp.2.1
         clear hp
         simp only[putD,zC,zB,zF,zE,Act.put,zM,zO,zN]
         refine OpGoal.yes (by simp[yieldD,r18]) ?_
         go_wp2_with fail
         exact⟨rfl,Ext.refl _,rfl⟩
        case o22=>
         intro xv W hE hp
         have r18:xv 18=_:=hp.1
         have r21:xv 21=_:=hp.2.1
         clear hp
         simp only[putD,zC,zB,zF,zE,Act.put,zM,zO,zN]
         refine OpGoal.yes (by simp[yieldD,r18]) ?_
         go_wp2_with fail
         exact⟨rfl,Ext.refl _,rfl⟩
        case o23=>
         intro xv W hE hp
         have r22:xv 22=_:=hp.1
         clear hp
         simp only[putD,zC,zB,zF,zE,Act.put,zM,zO,zN]
         refine OpGoal.yes (by simp[yieldD,r22]) ?_
         go_wp2_with fail
         exact⟨rfl,Ext.refl _,rfl⟩
        case o24=>
         intro xv W hE hp
         have r22:xv 22=_:=hp.1
         have r23:xv 23=_:=hp.2.1
         clear hp
         have hEw:Ext w0 W:=(Ext.drew _).trans hE
         obtain⟨y0,y1,y2,y3,y4,y5,y6⟩:=HY.out W hEw
         simp only[putD,zC,zB,zF,zE,Act.put,zM,zO,zN]
         refine OpGoal.yes (by simp[yieldD,r22]) ?_
         go_wp2_with fail
         exact⟨rfl,Ext.refl _,rfl⟩
        case o25=>
         intro xv W hE hp
         have r22:xv 22=_:=hp.1
         have r24:xv 24=_:=hp.2.1
         clear hp
         simp only[putD,zC,zB,zF,zE,Act.put,zM,zO,zN]
         refine OpGoal.yes (by simp[yieldD,r22]) ?_
         go_wp2_with fail
         exact⟨rfl,Ext.refl _,rfl⟩
        case o26=>
         intro xv W hE hp
         have r18:xv 18=_:=hp.1
         have r22:xv 22=_:=hp.2.1
         have r25:xv 25=_:=hp.2.2.1
         clear hp
         simp only[putD,zC,zB,zF,zE,Act.put,zM,zO,zN]
         refine OpGoal.yes (by simp[yieldD,r18]) ?_
         go_wp2_with fail
         exact⟨rfl,Ext.refl _,rfl⟩
        case last=>
         intro xv W hE hp
         have r0:xv 0=_:=hp.1
         have r1:xv 1=_:=hp.2.1
         have r2:xv 2=_:=hp.2.2.1
         have r3:xv 3=_:=hp.2.2.2.1
         have r4:xv 4=_:=hp.2.2.2.2.1
         have r5:xv 5=_:=hp.2.2.2.2.2.1
         have r6:xv 6=_:=hp.2.2.2.2.2.2.1
         have r7:xv 7=_:=hp.2.2.2.2.2.2.2.1
         have r8:xv 8=_:=hp.2.2.2.2.2.2.2.2.1
         have r9:xv 9=_:=hp.2.2.2.2.2.2.2.2.2.1
         have r10:xv 10=_:=hp.2.2.2.2.2.2.2.2.2.2.1
         have r11:xv 11=_:=hp.2.2.2.2.2.2.2.2.2.2.2.1
         have r12:xv 12=_:=hp.2.2.2.2.2.2.2.2.2.2.2.2.1
         have r13:xv 13=_:=hp.2.2.2.2.2.2.2.2.2.2.2.2.2.1
         have r14:xv 14=_:=hp.2.2.2.2.2.2.2.2.2.2.2.2.2.2.1
         have r15:xv 15=_:=hp.2.2.2.2.2.2.2.2.2.2.2.2.2.2.2.1
         have r16:xv 16=_:=hp.2.2.2.2.2.2.2.2.2.2.2.2.2.2.2.2.1
         have r17:xv 17=_:=hp.2.2.2.2.2.2.2.2.2.2.2.2.2.2.2.2.2.1
         have r18:xv 18=_:=hp.2.2.2.2.2.2.2.2.2.2.2.2.2.2.2.2.2.2.1
         have r19:xv 19=_:=hp.2.2.2.2.2.2.2.2.2.2.2.2.2.2.2.2.2.2.2.1
         have r20:xv 20=_:=hp.2.2.2.2.2.2.2.2.2.2.2.2.2.2.2.2.2.2.2.2.1
         have r21:xv 21=_:=hp.2.2.2.2.2.2.2.2.2.2.2.2.2.2.2.2.2.2.2.2.2.1
         have r22:xv 22=_:=hp.2.2.2.2.2.2.2.2.2.2.2.2.2.2.2.2.2.2.2.2.2.2.1
         have r23:xv 23=_:=hp.2.2.2.2.2.2.2.2.2.2.2.2.2.2.2.2.2.2.2.2.2.2.2.1
         have r24:xv 24=_:=hp.2.2.2.2.2.2.2.2.2.2.2.2.2.2.2.2.2.2.2.2.2.2.2.2.1
         have r25:xv 25=_:=hp.2.2.2.2.2.2.2.2.2.2.2.2.2.2.2.2.2.2.2.2.2.2.2.2.2.1
         have r26:xv 26=_:=hp.2.2.2.2.2.2.2.2.2.2.2.2.2.2.2.2.2.2.2.2.2.2.2.2.2.2.1
         clear hp
         simp only[putD,zC,zB,zF,zE,Act.put,zH,zI,zK,zL,zJ,zA,zM,zO,zN]
         have hEw:Ext w0 W:=(Ext.drew w0).trans hE
         have e18:xv 18=.bool false:=r18
         have e26:xv 26=.bool false:=r26
         simp only[e18,e26]
         clear r0 r1 r2 r3 r4 r5 r6 r7 r8 r9 r10 r11 r12 r13 r14 r15 r16 r17 r18 r19 r20 r21 r22 r23 r24 r25 r26 hE e18 e26
         go_wp2_with fail
         go_meet
         case rel=>exact⟨by rw[HG.out];rfl,hEw⟩
       ·have t5:(e.var != 0)=true:=by simpa using h5
        have HG:Hid (good e.op e.var e.vl e.l.length=false):=zQ (by unfold good;rw[decide_eq_false h4,decide_eq_false h5];simp)
        clear h1 h2 h4 h5 hvl hvb
        go_wp2_with fail
        apply wp_region_seq (l:=[_,_,_,_,_,_,_,_,_,_,_,_,_,_,_,_,_,_,_,_,_,_,_,_,_,_,_]) (t:=[_]) [some 5,some 6,some 7,some 8,some 9,some 10,some 11,some 12,some 13,some 14,some 15,some 16,some 17,some 18,some 19,some 20,some 21,some 22,some 23,some 24,some 25,some 26,some 27,some 28,some 29,some 30,some 31,some 32] [[],[0],[1],[],[3],[4],[2,5],[6],[7],[7,8],[7,9],[7,10],[11],[11,12],[11],[11,13,14],[7,11,15],[7,16],[17],[18],[18,19],[18,20],[18,21],[22],[22,23],[22,24],[18,22,25],[18,26]] [1,2,7,4,5,6,7,17,9,10,11,18,13,15,15,16,17,18,27,20,21,22,26,24,25,26,27] [eqv _,eqv _,(eqv (.int .i64 (manyOf e.op))),eqv _,eqv _,eqv _,eqv _,eqv _,eqv _,eqv _,eqv _,eqv _,eqv _,eqv _,eqv _,eqv _,eqv _,eqv _,eqv _,eqv _,eqv _,eqv _,eqv _,eqv _,eqv _,eqv _,eqv _] (by kernel_rfl) (by kernel_rfl) ⟨?o0,?o1,?o2,?o3,?o4,?o5,?o6,?o7,?o8,?o9,?o10,?o11,?o12,?o13,?o14,?o15,?o16,?o17,?o18,?o19,?o20,?o21,?o22,?o23,?o24,?o25,?o26,trivial⟩ ?last
        case o0|o3=>
         intro xv W hE hp
         try have q0:xv _=_:=hp.1
         try have q1:xv _=_:=hp.2.1
         clear hp
         simp only[putD,zC,zB,zF,zE,Act.put,zM,zO,zN]
         refine OpGoal.plain ?_
         go_wp2_with fail
         exact⟨rfl,Ext.refl _,rfl⟩
        case o1|o4=>
         intro xv W hE hp
         try have q0:xv _=_:=hp.1
         try have q1:xv _=_:=hp.2.1
         clear hp
         have hEw:Ext w0 W:=(Ext.drew _).trans hE
         obtain⟨y0,y1,y2,y3,y4,y5,y6⟩:=HY.out W hEw
         simp only[putD,zC,zB,zF,zE,Act.put,zM,zO,zN]
         refine OpGoal.plain ?_
         go_wp2_with fail
         exact⟨rfl,Ext.refl _,rfl⟩
        case o2=>
         intro xv W hE hp
         have r1:xv 1=_:=hp.1
         clear hp
         simp only[putD,zC,zB,zF,zE,Act.put,zM,zO,zN]
         refine OpGoal.plain ?_
         go_wp2_with fail
         refine(many_any e.op _).mono ?_
         rintro r w' ⟨rfl,rfl⟩
         go_wp2_with fail
         exact⟨rfl,Ext.refl _,rfl⟩
        case o5|o6|o7=>
         intro xv W hE hp
         try have q0:xv _=_:=hp.1
         try have q1:xv _=_:=hp.2.1
         clear hp
         simp only[putD,zC,zB,zF,zE,Act.put,zM,zO,zN]
         refine OpGoal.plain ?_
         go_wp2_with fail
         exact⟨rfl,Ext.refl _,rfl⟩
        case o8=>
         intro xv W hE hp
         have r7:xv 7=_:=hp.1
         clear hp
         simp only[putD,zC,zB,zF,zE,Act.put,zM,zO,zN]
         refine OpGoal.yes (by simp[yieldD,r7]) ?_
         go_wp2_with fail
         exact⟨rfl,Ext.refl _,rfl⟩
        case o9=>
         intro xv W hE hp
         have r7:xv 7=_:=hp.1
         have r8:xv 8=_:=hp.2.1
         clear hp
         have hEw:Ext w0 W:=(Ext.drew _).trans hE
         obtain⟨y0,y1,y2,y3,y4,y5,y6⟩:=HY.out W hEw
         simp only[putD,zC,zB,zF,zE,Act.put,zM,zO,zN]
         refine OpGoal.yes (by simp[yieldD,r7]) ?_
         go_wp2_with fail
         exact⟨rfl,Ext.refl _,rfl⟩
        case o10=>
         intro xv W hE hp
         have r7:xv 7=_:=hp.1
         have r9:xv 9=_:=hp.2.1
         clear hp
         simp only[putD,zC,zB,zF,zE,Act.put,zM,zO,zN]
         refine OpGoal.yes (by simp[yieldD,r7]) ?_
         go_wp2_with fail
         exact⟨rfl,Ext.refl _,rfl⟩
        case o11=>
         intro xv W hE hp
         have r7:xv 7=_:=hp.1
         have r10:xv 10=_:=hp.2.1
         clear hp
         simp only[putD,zC,zB,zF,zE,Act.put,zM,zO,zN]
         refine OpGoal.yes (by simp[yieldD,r7]) ?_
         go_wp2_with fail
         exact⟨rfl,Ext.refl _,rfl⟩
        case o12=>
         intro xv W hE hp
         have r11:xv 11=_:=hp.1
         clear hp
         simp only[putD,zC,zB,zF,zE,Act.put,zM,zO,zN]
         refine OpGoal.yes (by simp[yieldD,r11]) ?_
         go_wp2_with fail
         exact⟨rfl,Ext.refl _,rfl⟩
        case o13=>
         intro xv W hE hp
         have r11:xv 11=_:=hp.1
         have r12:xv 12=_:=hp.2.1
         clear hp
         have hEw:Ext w0 W:=(Ext.drew _).trans hE
         obtain⟨y0,y1,y2,y3,y4,y5,y6⟩:=HY.out W hEw
         simp only[putD,zC,zB,zF,zE,Act.put,zM,zO,zN]
         refine OpGoal.yes (by simp[yieldD,r11]) ?_
         go_wp2_with fail
         exact⟨rfl,Ext.refl _,rfl⟩
        case o14=>
         intro xv W hE hp
         have r11:xv 11=_:=hp.1
         clear hp
         simp only[putD,zC,zB,zF,zE,Act.put,zM,zO,zN]
         refine OpGoal.yes (by simp[yieldD,r11]) ?_
         go_wp2_with fail
         exact⟨rfl,Ext.refl _,rfl⟩
        case o15=>
         intro xv W hE hp
         have r11:xv 11=_:=hp.1
         have r13:xv 13=_:=hp.2.1
         have r14:xv 14=_:=hp.2.2.1
         clear hp
         simp only[putD,zC,zB,zF,zE,Act.put,zM,zO,zN]
         refine OpGoal.yes (by simp[yieldD,r11]) ?_
         go_wp2_with fail
         exact⟨rfl,Ext.refl _,rfl⟩
        case o16=>
         intro xv W hE hp
         have r7:xv 7=_:=hp.1
         have r11:xv 11=_:=hp.2.1
         have r15:xv 15=_:=hp.2.2.1
         clear hp
         simp only[putD,zC,zB,zF,zE,Act.put,zM,zO,zN]
         refine OpGoal.yes (by simp[yieldD,r7]) ?_
         go_wp2_with fail
         exact⟨rfl,Ext.refl _,rfl⟩
        case o17|o18=>
         intro xv W hE hp
         try have q0:xv _=_:=hp.1
         try have q1:xv _=_:=hp.2.1
         clear hp
         simp only[putD,zC,zB,zF,zE,Act.put,zM,zO,zN]
         refine OpGoal.plain ?_
         go_wp2_with fail
         exact⟨rfl,Ext.refl _,rfl⟩
        case o19=>
         intro xv W hE hp
         have r18:xv 18=_:=hp.1
         clear hp
         simp only[putD,zC,zB,zF,zE,Act.put,zM,zO,zN]
         refine OpGoal.yes (by simp[yieldD,r18]) ?_
         go_wp2_with fail
         exact⟨rfl,Ext.refl _,rfl⟩
        case o20=>
         intro xv W hE hp
         have r18:xv 18=_:=hp.1
         have r19:xv 19=_:=hp.2.1
         clear hp
         have hEw:Ext w0 W:=(Ext.drew _).trans hE
         obtain⟨y0,y1,y2,y3,y4,y5,y6⟩:=HY.out W hEw
         simp only[putD,zC,zB,zF,zE,Act.put,zM,zO,zN]
         refine OpGoal.yes (by simp[yieldD,r18]) ?_
         go_wp2_with fail
         exact⟨rfl,Ext.refl _,rfl⟩
        case o21=>
         intro xv W hE hp
         have r18:xv 18=_:=hp.1
         have r20:xv 20=_:=hp.2.1
         clear hp
         simp only[putD,zC,zB,zF,zE,Act.put,zM,zO,zN]
         refine OpGoal.yes (by simp[yieldD,r18]) ?_
         go_wp2_with fail
         exact⟨rfl,Ext.refl _,rfl⟩
        case o22=>
         intro xv W hE hp
         have r18:xv 18=_:=hp.1
         have r21:xv 21=_:=hp.2.1
         clear hp
         simp only[putD,zC,zB,zF,zE,Act.put,zM,zO,zN]
         refine OpGoal.yes (by simp[yieldD,r18]) ?_
         go_wp2_with fail
         exact⟨rfl,Ext.refl _,rfl⟩
        case o23=>
         intro xv W hE hp
         have r22:xv 22=_:=hp.1
         clear hp
         simp only[putD,zC,zB,zF,zE,Act.put,zM,zO,zN]
         refine OpGoal.yes (by simp[yieldD,r22]) ?_
         go_wp2_with fail
         exact⟨rfl,Ext.refl _,rfl⟩
        case o24=>
         intro xv W hE hp
         have r22:xv 22=_:=hp.1
         have r23:xv 23=_:=hp.2.1
         clear hp
         have hEw:Ext w0 W:=(Ext.drew _).trans hE
         obtain⟨y0,y1,y2,y3,y4,y5,y6⟩:=HY.out W hEw
         simp only[putD,zC,zB,zF,zE,Act.put,zM,zO,zN]
         refine OpGoal.yes (by simp[yieldD,r22]) ?_
         go_wp2_with fail
         exact⟨rfl,Ext.refl _,rfl⟩
        case o25=>
         intro xv W hE hp
         have r22:xv 22=_:=hp.1
         have r24:xv 24=_:=hp.2.1
         clear hp
         simp only[putD,zC,zB,zF,zE,Act.put,zM,zO,zN]
         refine OpGoal.yes (by simp[yieldD,r22]) ?_
         go_wp2_with fail
         exact⟨rfl,Ext.refl _,rfl⟩
        case o26=>
         intro xv W hE hp
         have r18:xv 18=_:=hp.1
         have r22:xv 22=_:=hp.2.1
         have r25:xv 25=_:=hp.2.2.1
         clear hp
         simp only[putD,zC,zB,zF,zE,Act.put,zM,zO,zN]
         refine OpGoal.yes (by simp[yieldD,r18]) ?_
         go_wp2_with fail
         exact⟨rfl,Ext.refl _,rfl⟩
        case last=>
         intro xv W hE hp
         have r0:xv 0=_:=hp.1
         have r1:xv 1=_:=hp.2.1
         have r2:xv 2=_:=hp.2.2.1
         have r3:xv 3=_:=hp.2.2.2.1
         have r4:xv 4=_:=hp.2.2.2.2.1
         have r5:xv 5=_:=hp.2.2.2.2.2.1
         have r6:xv 6=_:=hp.2.2.2.2.2.2.1
         have r7:xv 7=_:=hp.2.2.2.2.2.2.2.1
         have r8:xv 8=_:=hp.2.2.2.2.2.2.2.2.1
         have r9:xv 9=_:=hp.2.2.2.2.2.2.2.2.2.1
         have r10:xv 10=_:=hp.2.2.2.2.2.2.2.2.2.2.1
         have r11:xv 11=_:=hp.2.2.2.2.2.2.2.2.2.2.2.1
         have r12:xv 12=_:=hp.2.2.2.2.2.2.2.2.2.2.2.2.1
         have r13:xv 13=_:=hp.2.2.2.2.2.2.2.2.2.2.2.2.2.1
         have r14:xv 14=_:=hp.2.2.2.2.2.2.2.2.2.2.2.2.2.2.1
         have r15:xv 15=_:=hp.2.2.2.2.2.2.2.2.2.2.2.2.2.2.2.1
         have r16:xv 16=_:=hp.2.2.2.2.2.2.2.2.2.2.2.2.2.2.2.2.1
         have r17:xv 17=_:=hp.2.2.2.2.2.2.2.2.2.2.2.2.2.2.2.2.2.1
         have r18:xv 18=_:=hp.2.2.2.2.2.2.2.2.2.2.2.2.2.2.2.2.2.2.1
         have r19:xv 19=_:=hp.2.2.2.2.2.2.2.2.2.2.2.2.2.2.2.2.2.2.2.1
         have r20:xv 20=_:=hp.2.2.2.2.2.2.2.2.2.2.2.2.2.2.2.2.2.2.2.2.1
         have r21:xv 21=_:=hp.2.2.2.2.2.2.2.2.2.2.2.2.2.2.2.2.2.2.2.2.2.1
         have r22:xv 22=_:=hp.2.2.2.2.2.2.2.2.2.2.2.2.2.2.2.2.2.2.2.2.2.2.1
         have r23:xv 23=_:=hp.2.2.2.2.2.2.2.2.2.2.2.2.2.2.2.2.2.2.2.2.2.2.2.1
         have r24:xv 24=_:=hp.2.2.2.2.2.2.2.2.2.2.2.2.2.2.2.2.2.2.2.2.2.2.2.2.1
         have r25:xv 25=_:=hp.2.2.2.2.2.2.2.2.2.2.2.2.2.2.2.2.2.2.2.2.2.2.2.2.2.1
         have r26:xv 26=_:=hp.2.2.2.2.2.2.2.2.2.2.2.2.2.2.2.2.2.2.2.2.2.2.2.2.2.2.1
         clear hp
         simp only[putD,zC,zB,zF,zE,Act.put,zH,zI,zK,zL,zJ,zA,zM,zO,zN]
         have hEw:Ext w0 W:=(Ext.drew w0).trans hE
         have e18:xv 18=.bool false:=r18
         have e26:xv 26=.bool true:=r26
         simp only[e18,e26]
         clear r0 r1 r2 r3 r4 r5 r6 r7 r8 r9 r10 r11 r12 r13 r14 r15 r16 r17 r18 r19 r20 r21 r22 r23 r24 r25 r26 hE e18 e26
         go_wp2_with fail
         go_meet
         case rel=>exact⟨by rw[HG.out];rfl,hEw⟩
   ·have t1:(manyOf e.op != (e.l.length:Int))=true:=by simpa using h1
    have HG:Hid (good e.op e.var e.vl e.l.length=false):=zQ (by simp[good,h1])
    clear h1
    go_wp2_with fail
    apply wp_region_seq (l:=[_,_,_,_,_,_,_,_,_,_,_,_,_,_,_,_,_,_,_,_,_,_,_,_,_,_,_]) (t:=[_]) [some 5,some 6,some 7,some 8,some 9,some 10,some 11,some 12,some 13,some 14,some 15,some 16,some 17,some 18,some 19,some 20,some 21,some 22,some 23,some 24,some 25,some 26,some 27,some 28,some 29,some 30,some 31,some 32] [[],[0],[1],[],[3],[4],[2,5],[6],[7],[7,8],[7,9],[7,10],[11],[11,12],[11],[11,13,14],[7,11,15],[7,16],[17],[18],[18,19],[18,20],[18,21],[22],[22,23],[22,24],[18,22,25],[18,26]] [1,2,7,4,5,6,7,17,9,10,11,18,13,15,15,16,17,18,27,20,21,22,26,24,25,26,27] [eqv _,eqv _,(eqv (.int .i64 (manyOf e.op))),eqv _,eqv _,eqv _,eqv _,eqv _,eqv _,eqv _,eqv _,eqv _,eqv _,eqv _,eqv _,eqv _,eqv _,eqv _,eqv _,eqv _,eqv _,eqv _,eqv _,eqv _,eqv _,eqv _,eqv _] (by kernel_rfl) (by kernel_rfl) ⟨?o0,?o1,?o2,?o3,?o4,?o5,?o6,?o7,?o8,?o9,?o10,?o11,?o12,?o13,?o14,?o15,?o16,?o17,?o18,?o19,?o20,?o21,?o22,?o23,?o24,?o25,?o26,trivial⟩ ?last
    case o0|o3=>
     intro xv W hE hp
     try have q0:xv _=_:=hp.1
     try have q1:xv _=_:=hp.2.1
     clear hp
     simp only[putD,zC,zB,zF,zE,Act.put,zM,zO,zN]
     refine OpGoal.plain ?_
     go_wp2_with fail
     exact⟨rfl,Ext.refl _,rfl⟩
    case o1|o4=>
     intro xv W hE hp
     try have q0:xv _=_:=hp.1
     try have q1:xv _=_:=hp.2.1
     clear hp
     have hEw:Ext w0 W:=(Ext.drew _).trans hE
     obtain⟨y0,y1,y2,y3,y4,y5,y6⟩:=HY.out W hEw
     simp only[putD,zC,zB,zF,zE,Act.put,zM,zO,zN]
     refine OpGoal.plain ?_
     go_wp2_with fail
     exact⟨rfl,Ext.refl _,rfl⟩
    case o2=>
     intro xv W hE hp
     have r1:xv 1=_:=hp.1
     clear hp
     simp only[putD,zC,zB,zF,zE,Act.put,zM,zO,zN]
     refine OpGoal.plain ?_
     go_wp2_with fail
     refine(many_any e.op _).mono ?_
     rintro r w' ⟨rfl,rfl⟩
     go_wp2_with fail
     exact⟨rfl,Ext.refl _,rfl⟩
    case o5|o6|o7=>
     intro xv W hE hp
     try have q0:xv _=_:=hp.1
     try have q1:xv _=_:=hp.2.1
     clear hp
     simp only[putD,zC,zB,zF,zE,Act.put,zM,zO,zN]
     refine OpGoal.plain ?_
     go_wp2_with fail
     exact⟨rfl,Ext.refl _,rfl⟩
    case o8=>
     intro xv W hE hp
     have r7:xv 7=_:=hp.1
     clear hp
     simp only[putD,zC,zB,zF,zE,Act.put,zM,zO,zN]
     exact OpGoal.off (by simp[yieldD,r7,undef]) ⟨Ext.refl _,rfl⟩
    case o9=>
     intro xv W hE hp
     have r7:xv 7=_:=hp.1
     have r8:xv 8=_:=hp.2.1
     clear hp
     have hEw:Ext w0 W:=(Ext.drew _).trans hE
     obtain⟨y0,y1,y2,y3,y4,y5,y6⟩:=HY.out W hEw
     simp only[putD,zC,zB,zF,zE,Act.put,zM,zO,zN]
     exact OpGoal.off (by simp[yieldD,r7,undef]) ⟨Ext.refl _,rfl⟩
    case o10=>
     intro xv W hE hp
     have r7:xv 7=_:=hp.1
     have r9:xv 9=_:=hp.2.1
     clear hp
     simp only[putD,zC,zB,zF,zE,Act.put,zM,zO,zN]
     exact OpGoal.off (by simp[yieldD,r7,undef]) ⟨Ext.refl _,rfl⟩
    case o11=>
     intro xv W hE hp
     have r7:xv 7=_:=hp.1
     have r10:xv 10=_:=hp.2.1
     clear hp
     simp only[putD,zC,zB,zF,zE,Act.put,zM,zO,zN]
     exact OpGoal.off (by simp[yieldD,r7,undef]) ⟨Ext.refl _,rfl⟩
    case o12=>
     intro xv W hE hp
     have r11:xv 11=_:=hp.1
     clear hp
     simp only[putD,zC,zB,zF,zE,Act.put,zM,zO,zN]
     exact OpGoal.off (by simp[yieldD,r11,undef]) ⟨Ext.refl _,rfl⟩
    case o13=>
     intro xv W hE hp
     have r11:xv 11=_:=hp.1
     have r12:xv 12=_:=hp.2.1
     clear hp
     have hEw:Ext w0 W:=(Ext.drew _).trans hE
     obtain⟨y0,y1,y2,y3,y4,y5,y6⟩:=HY.out W hEw
     simp only[putD,zC,zB,zF,zE,Act.put,zM,zO,zN]
     exact OpGoal.off (by simp[yieldD,r11,undef]) ⟨Ext.refl _,rfl⟩
    case o14=>
     intro xv W hE hp
     have r11:xv 11=_:=hp.1
     clear hp
     simp only[putD,zC,zB,zF,zE,Act.put,zM,zO,zN]
     exact OpGoal.off (by simp[yieldD,r11,undef]) ⟨Ext.refl _,rfl⟩
    case o15=>
     intro xv W hE hp
     have r11:xv 11=_:=hp.1
     have r13:xv 13=_:=hp.2.1
     have r14:xv 14=_:=hp.2.2.1
     clear hp
     simp only[putD,zC,zB,zF,zE,Act.put,zM,zO,zN]
     exact OpGoal.off (by simp[yieldD,r11,undef]) ⟨Ext.refl _,rfl⟩
    case o16=>
     intro xv W hE hp
     have r7:xv 7=_:=hp.1
     have r11:xv 11=_:=hp.2.1
     have r15:xv 15=_:=hp.2.2.1
     clear hp
     simp only[putD,zC,zB,zF,zE,Act.put,zM,zO,zN]
     exact OpGoal.off (by simp[yieldD,r7,undef]) ⟨Ext.refl _,rfl⟩
    case o17|o18=>
     intro xv W hE hp
     try have q0:xv _=_:=hp.1
     try have q1:xv _=_:=hp.2.1
     clear hp
     simp only[putD,zC,zB,zF,zE,Act.put,zM,zO,zN]
     refine OpGoal.plain ?_
     go_wp2_with fail
     exact⟨rfl,Ext.refl _,rfl⟩
    case o19=>
     intro xv W hE hp
     have r18:xv 18=_:=hp.1
     clear hp
     simp only[putD,zC,zB,zF,zE,Act.put,zM,zO,zN]
     exact OpGoal.off (by simp[yieldD,r18,undef]) ⟨Ext.refl _,rfl⟩
    case o20=>
     intro xv W hE hp
     have r18:xv 18=_:=hp.1
     have r19:xv 19=_:=hp.2.1
     clear hp
     have hEw:Ext w0 W:=(Ext.drew _).trans hE
     obtain⟨y0,y1,y2,y3,y4,y5,y6⟩:=HY.out W hEw
     simp only[putD,zC,zB,zF,zE,Act.put,zM,zO,zN]
     exact OpGoal.off (by simp[yieldD,r18,undef]) ⟨Ext.refl _,rfl⟩
    case o21=>
     intro xv W hE hp
     have r18:xv 18=_:=hp.1
     have r20:xv 20=_:=hp.2.1
     clear hp
     simp only[putD,zC,zB,zF,zE,Act.put,zM,zO,zN]
     exact OpGoal.off (by simp[yieldD,r18,undef]) ⟨Ext.refl _,rfl⟩
    case o22=>
     intro xv W hE hp
     have r18:xv 18=_:=hp.1
     have r21:xv 21=_:=hp.2.1
     clear hp
     simp only[putD,zC,zB,zF,zE,Act.put,zM,zO,zN]
     exact OpGoal.off (by simp[yieldD,r18,undef]) ⟨Ext.refl _,rfl⟩
    case o23=>
     intro xv W hE hp
     have r22:xv 22=_:=hp.1
     clear hp
     simp only[putD,zC,zB,zF,zE,Act.put,zM,zO,zN]
     exact OpGoal.off (by simp[yieldD,r22,undef]) ⟨Ext.refl _,rfl⟩
    case o24=>
     intro xv W hE hp
     have r22:xv 22=_:=hp.1
     have r23:xv 23=_:=hp.2.1
     clear hp
     have hEw:Ext w0 W:=(Ext.drew _).trans hE
     obtain⟨y0,y1,y2,y3,y4,y5,y6⟩:=HY.out W hEw
     simp only[putD,zC,zB,zF,zE,Act.put,zM,zO,zN]
     exact OpGoal.off (by simp[yieldD,r22,undef]) ⟨Ext.refl _,rfl⟩
    case o25=>
     intro xv W hE hp
     have r22:xv 22=_:=hp.1
     have r24:xv 24=_:=hp.2.1
     clear hp
     simp only[putD,zC,zB,zF,zE,Act.put,zM,zO,zN]
     exact OpGoal.off (by simp[yieldD,r22,undef]) ⟨Ext.refl _,rfl⟩
    case o26=>
     intro xv W hE hp
     have r18:xv 18=_:=hp.1
     have r22:xv 22=_:=hp.2.1
     have r25:xv 25=_:=hp.2.2.1
     clear hp
     simp only[putD,zC,zB,zF,zE,Act.put,zM,zO,zN]
     exact OpGoal.off (by simp[yieldD,r18,undef]) ⟨Ext.refl _,rfl⟩
    case last=>
     intro xv W hE hp
     have r0:xv 0=_:=hp.1
     have r1:xv 1=_:=hp.2.1
     have r2:xv 2=_:=hp.2.2.1
     have r3:xv 3=_:=hp.2.2.2.1
     have r4:xv 4=_:=hp.2.2.2.2.1
     have r5:xv 5=_:=hp.2.2.2.2.2.1
     have r6:xv 6=_:=hp.2.2.2.2.2.2.1
     have r7:xv 7=_:=hp.2.2.2.2.2.2.2.1
     have r8:xv 8=_:=hp.2.2.2.2.2.2.2.2.1
     have r9:xv 9=_:=hp.2.2.2.2.2.2.2.2.2.1
     have r10:xv 10=_:=hp.2.2.2.2.2.2.2.2.2.2.1
     have r11:xv 11=_:=hp.2.2.2.2.2.2.2.2.2.2.2.1
     have r12:xv 12=_:=hp.2.2.2.2.2.2.2.2.2.2.2.2.1
     have r13:xv 13=_:=hp.2.2.2.2.2.2.2.2.2.2.2.2.2.1
     have r14:xv 14=_:=hp.2.2.2.2.2.2.2.2.2.2.2.2.2.2.1
     have r15:xv 15=_:=hp.2.2.2.2.2.2.2.2.2.2.2.2.2.2.2.1
     have r16:xv 16=_:=hp.2.2.2.2.2.2.2.2.2.2.2.2.2.2.2.2.1
     have r17:xv 17=_:=hp.2.2.2.2.2.2.2.2.2.2.2.2.2.2.2.2.2.1
     have r18:xv 18=_:=hp.2.2.2.2.2.2.2.2.2.2.2.2.2.2.2.2.2.2.1
     have r19:xv 19=_:=hp.2.2.2.2.2.2.2.2.2.2.2.2.2.2.2.2.2.2.2.1
     have r20:xv 20=_:=hp.2.2.2.2.2.2.2.2.2.2.2.2.2.2.2.2.2.2.2.2.1
     have r21:xv 21=_:=hp.2.2.2.2.2.2.2.2.2.2.2.2.2.2.2.2.2.2.2.2.2.1
     have r22:xv 22=_:=hp.2.2.2.2.2.2.2.2.2.2.2.2.2.2.2.2.2.2.2.2.2.2.1
     have r23:xv 23=_:=hp.2.2.2.2.2.2.2.2.2.2.2.2.2.2.2.2.2.2.2.2.2.2.2.1
     have r24:xv 24=_:=hp.2.2.2.2.2.2.2.2.2.2.2.2.2.2.2.2.2.2.2.2.2.2.2.2.1
     have r25:xv 25=_:=hp.2.2.2.2.2.2.2.2.2.2.2.2.2.2.2.2.2.2.2.2.2.2.2.2.2.1
     have r26:xv 26=_:=hp.2.2.2.2.2.2.2.2.2.2.2.2.2.2.2.2.2.2.2.2.2.2.2.2.2.2.1
     clear hp
     simp only[putD,zC,zB,zF,zE,Act.put,zH,zI,zK,zL,zJ,zA,zM,zO,zN]
     have hEw:Ext w0 W:=(Ext.drew w0).trans hE
     have e18:xv 18=.bool true:=r18
     have e26:xv 26=undef:=r26
     simp only[e18,e26]
     clear r0 r1 r2 r3 r4 r5 r6 r7 r8 r9 r10 r11 r12 r13 r14 r15 r16 r17 r18 r19 r20 r21 r22 r23 r24 r25 r26 hE e18 e26
     go_wp2_with fail
     go_meet
     case rel=>exact⟨by rw[HG.out];rfl,hEw⟩
  case rest=>
   obtain⟨rfl,hE⟩:=hcut
   cases hg:good e.op e.var e.vl e.l.length with
   | false=>
    have HT:Hid (e.typed=0):=zQ (by rw[HTY.out,hg];rfl)
    clear hg ih hX
    rw[Bool.not_false]
    go_wp2_with fail
    go_ret
    exact⟨by rw[HT.out];rfl,hE0.trans hE⟩
   | true=>
    have HG:=zQ hg
    have hl3:=(good_len hg).2
    have b6:=(hE.old (p:=⟨w.heap.size,6,none⟩) hlt0).trans HBx.out.c6
    clear hg
    rw[Bool.not_true]
    go_wp2_with fail
    go_loopw [4] (fun kv wr =>∃k:Nat,k≤e.l.length∧kv=.int .i64 k∧Arr3 wr wc.heap.size (fun j=>if j<k then(Ex.typeds e.l).getD j 0 else 0)∧(∀j,j<k→(Ex.typeds e.l).getD j 0≠0)∧Ext wc wr) (fun kv _=>e.l.length-(intOf kv).toNat)
    case atStart=>
     refine⟨0,Nat.zero_le _,rfl,?_,fun j hj=>absurd hj (by omega),Ext.alloc _ _⟩
     have h1:=Go.heap_alloc_new wc (.cells #[.int .i64 0,.int .i64 0,.int .i64 0] 23)
     refine⟨by simp,fun j hj=>?_,fun j=>?_⟩
     ·rw[World.cell?_alloc_new]
      rcases(by omega:j=0∨j=1∨j=2) with rfl|rfl|rfl<;>rfl
     ·simp only[World.frozen?,h1];simp
    case round=>
     obtain⟨k,hk,rfl,hA,hN,hE1⟩:=hrel
     have hlw:w.heap.size<wc.heap.size:=zP hlt0 hE.sz
     have b6r:=(hE1.old (p:=⟨w.heap.size,6,none⟩) hlw).trans b6
     by_cases hlt:k<e.l.length
     ·obtain⟨b,o,A',c',d',hd,rfl,hb,hX',hO⟩:=hX.at_ hlt
      have ihx:=ih d' (by omega)
      have hokx:=HOK.out.at_ hlt
      have hEa:Ext w wr:=(hE0.trans hE).trans hE1
      obtain⟨r0,r1,r2,r3,r4,r5,r6⟩:=hO.ext hb hEa
      have hXr:=hX'.ext hEa
      have hsx:(e.l[k]).size<1099511627776:=by have h2:=Ex.size_mem (zG hlt);have:=HSE.out;omega
      have htk:(Ex.typeds e.l).getD k 0=(e.l[k]).typed:=by rw[Ex.typeds_map];simp[zD,hlt]
      have hmem:(e.l[k]).typed=0→e.typed=0:=fun h0=>by
       rw[HTY.out,HG.out,if_pos rfl,if_pos (by rw[Ex.typeds_map];exact List.mem_map.2 ⟨_,zG hlt,h0⟩)]
      have hk3:k<3:=by omega
      have hlen2:e.l.length<1099511627776:=by omega
      have HD:=zQ hd
      clear hO hX' hX hd
      generalize e.l[k]=x at *
      have IH0:=ihx x A' c' wr hXr hsx hokx
      obtain⟨T,hT0⟩ :∃T,x.typed=T:=⟨_,rfl⟩
      rw[hT0]at IH0 hmem htk
      have IH:=zQ IH0
      clear IH0 hT0
      clear ihx hsx hokx
      go_wp2_with fail
      refine IH.out.mono ?_
      rintro r' w' ⟨rfl,hEt⟩
      have hA2:=hA.ext hEt
      have hA3:=hA2.set k hk3 T
      have hf:=hA2.f k
      have hck:=hA2.c k hk3
      have hck3:=hA3.c k hk3
      rw[if_pos rfl]at hck3
      have hba:wc.heap.size<w'.heap.size:=hA2.lt
      have hfe:(fun j=>if j=k then T else if j<k then(Ex.typeds e.l).getD j 0 else 0)=fun j=>if j<k+1 then(Ex.typeds e.l).getD j 0 else 0:=by
       funext j
       by_cases a:j=k
       ·subst a;rw[if_pos rfl,if_pos (by omega),htk]
       ·rw[if_neg a]
        by_cases a2:j<k
        ·rw[if_pos a2,if_pos (by omega)]
        ·rw[if_neg a2,if_neg (by omega)]
      rw[hfe]at hA3
      have HA3:=zQ hA3
      have hE3:Ext wc (w'.setCell ⟨wc.heap.size,k,none⟩ (.int .i64 T)):=arr3_ext (hE1.trans hEt) (Nat.le_refl _)
      have HE3:=zQ hE3
      clear hfe hA3 hE3 IH hXr r0 r1 r2 r3 r4 r5 r6
      by_cases hT:T=0
      ·have HT:Hid (e.typed=0):=zQ (hmem hT)
       have t1:(T == 0)=true:=by simp[hT]
       clear hmem htk hT
       go_wp2_with fail
       go_ret
       exact⟨by rw[HT.out];rfl,(hE0.trans hE).trans HE3.out⟩
      ·have t1:(T == 0)=false:=by simpa using hT
       have hN2 :∀j,j<k+1→(Ex.typeds e.l).getD j 0≠0:=fun j hj=>by
        by_cases a:j=k
        ·subst a;rw[htk];exact hT
        ·exact hN j (by omega)
       have HN2:=zQ hN2
       clear hmem htk hT hN2
       go_wp2_with fail
       go_roundw
       case rel=>exact⟨k+1,by omega,by go_num,HA3.out,HN2.out,HE3.out⟩
       case measure=>simp[intOf];omega
     ·obtain rfl:k=e.l.length:=by omega
      have hEw0:Ext w0 wr:=hE.trans hE1
      have y0:=(hEw0.old (p:=⟨w.heap.size,0,none⟩) hlt0).trans HBx.out.c0
      have y1:=(hEw0.old (p:=⟨w.heap.size,1,none⟩) hlt0).trans HBx.out.c1
      have y2:=(hEw0.old (p:=⟨w.heap.size,2,none⟩) hlt0).trans HBx.out.c2
      have y3:=(hEw0.old (p:=⟨w.heap.size,3,none⟩) hlt0).trans HBx.out.c3
      have y4:=(hEw0.old (p:=⟨w.heap.size,4,none⟩) hlt0).trans HBx.out.c4
      have y5:=(hEw0.old (p:=⟨w.heap.size,5,none⟩) hlt0).trans HBx.out.c5
      have hlt':(Ex.typeds e.l).length=e.l.length:=by rw[Ex.typeds_map];simp
      have hnz :¬(0:Int)∈Ex.typeds e.l:=fun h=>by
       obtain⟨j,hj,e0⟩:=List.getElem_of_mem h
       exact hN j (by omega) (by simpa[zD,hj]using e0)
      have HT:Hid (e.typed=rule e.op e.var e.vl (Ex.typeds e.l)):=zQ (by rw[HTY.out,HG.out,if_pos rfl,if_neg hnz])
      have hif :∀j,(if j<e.l.length then(Ex.typeds e.l).getD j 0 else 0)=(Ex.typeds e.l).getD j 0:=fun j=>by
       by_cases a:j<e.l.length
       ·rw[if_pos a]
       ·rw[if_neg a];simp[zD,List.getElem?_eq_none (show(Ex.typeds e.l).length≤j by omega)]
      have a0:=hA.c 0 (by omega)
      have a1:=hA.c 1 (by omega)
      have a2:=hA.c 2 (by omega)
      rw[hif]at a0 a1 a2
      have hop:1≤e.op∧e.op≤13:=by
       have:=(good_len HG.out).1
       unfold manyOf at this
       omega
      obtain⟨T0,hT0⟩ :∃T,(Ex.typeds e.l).getD 0 0=T:=⟨_,rfl⟩
      obtain⟨T1,hT1⟩ :∃T,(Ex.typeds e.l).getD 1 0=T:=⟨_,rfl⟩
      obtain⟨T2,hT2⟩ :∃T,(Ex.typeds e.l).getD 2 0=T:=⟨_,rfl⟩
      rw[hT0]at a0
      rw[hT1]at a1
      rw[hT2]at a2
      have HR:Hid (e.typed=rule e.op e.var e.vl [T0,T1,T2]):=zQ (by rw[HT.out];unfold rule;simp only[zF,zE,hT0,hT1,hT2])
      have hEr:Ext w wr:=hE0.trans hEw0
      clear hif hnz hlt' hT0 hT1 hT2 HT ih hX hA hN HTY HG
      by_cases h3:e.op=3
      ·rw[h3]at y0 HR
       by_cases q0:T0=2
       ·have t1:(T0 == 2)=true:=by simp[q0]
        have HR2:Hid (e.typed=2):=zQ (by rw[HR.out];simp[rule,q0])
        go_wp2_with fail
        go_ret
        exact⟨by rw[HR2.out];rfl,hEr⟩
       ·have t1:(T0 == 2)=false:=by simpa using q0
        have HR2:Hid (e.typed=0):=zQ (by rw[HR.out];simp[rule,q0])
        go_wp2_with fail
        go_ret
        exact⟨by rw[HR2.out];rfl,hEr⟩
      ·by_cases hbig:6≤e.op∧e.op≤7
       ·rcases(by omega:e.op=6∨e.op=7) with h6|h7
        ·rw[h6]at y0 HR
         by_cases q0:T0=T1
         ·have tq0:(T0 == T1)=true:=by simp[q0]
          have HR2:Hid (e.typed=2):=zQ (by rw[HR.out];simp[rule,q0])
          go_wp2_with fail
          go_ret
          exact⟨by rw[HR2.out];rfl,hEr⟩
         ·have tq0:(T0 == T1)=false:=by simpa using q0
          have HR2:Hid (e.typed=0):=zQ (by rw[HR.out];simp[rule,q0])
          go_wp2_with fail
          go_ret
          exact⟨by rw[HR2.out];rfl,hEr⟩
        ·rw[h7]at y0 HR
         by_cases q0:T0=1
         ·have tq0:(T0 == 1)=true:=by simp[q0]
          by_cases q1:T1=1
          ·have tq1:(T1 == 1)=true:=by simp[q1]
           have HR2:Hid (e.typed=2):=zQ (by rw[HR.out];simp[rule,q1,q0])
           go_wp2_with fail
           go_ret
           exact⟨by rw[HR2.out];rfl,hEr⟩
          ·have tq1:(T1 == 1)=false:=by simpa using q1
           have HR2:Hid (e.typed=0):=zQ (by rw[HR.out];simp[rule,q1,q0])
           go_wp2_with fail
           go_ret
           exact⟨by rw[HR2.out];rfl,hEr⟩
         ·have tq0:(T0 == 1)=false:=by simpa using q0
          have HR2:Hid (e.typed=0):=zQ (by rw[HR.out];simp[rule,q0])
          go_wp2_with fail
          go_ret
          exact⟨by rw[HR2.out];rfl,hEr⟩
       ·by_cases h45:4≤e.op∧e.op≤5
        ·rcases(by omega:e.op=4∨e.op=5) with h6|h6
         all_goals
          rw[h6]at y0 HR
          by_cases q0:T0=2
          ·have tq0:(T0 == 2)=true:=by simp[q0]
           by_cases q1:T1=2
           ·have tq1:(T1 == 2)=true:=by simp[q1]
            have HR2:Hid (e.typed=2):=zQ (by rw[HR.out];simp[rule,q1,q0])
            go_wp2_with fail
            go_ret
            exact⟨by rw[HR2.out];rfl,hEr⟩
           ·have tq1:(T1 == 2)=false:=by simpa using q1
            have HR2:Hid (e.typed=0):=zQ (by rw[HR.out];simp[rule,q1,q0])
            go_wp2_with fail
            go_ret
            exact⟨by rw[HR2.out];rfl,hEr⟩
          ·have tq0:(T0 == 2)=false:=by simpa using q0
           have HR2:Hid (e.typed=0):=zQ (by rw[HR.out];simp[rule,q0])
           go_wp2_with fail
           go_ret
           exact⟨by rw[HR2.out];rfl,hEr⟩
        ·by_cases h13:e.op=13
         ·rw[h13]at y0 HR
          by_cases q0:T0=2
          ·have tq0:(T0 == 2)=true:=by simp[q0]
           by_cases q1:T1=T2
           ·have tq1:(T1 == T2)=true:=by simp[q1]
            have HR2:Hid (e.typed=T2):=zQ (by rw[HR.out];simp[rule,q1,q0])
            go_wp2_with fail
            go_ret
            exact⟨by rw[HR2.out];rfl,hEr⟩
           ·have tq1:(T1 == T2)=false:=by simpa using q1
            have HR2:Hid (e.typed=0):=zQ (by rw[HR.out];simp[rule,q1,q0])
            go_wp2_with fail
            go_ret
            exact⟨by rw[HR2.out];rfl,hEr⟩
          ·have tq0:(T0 == 2)=false:=by simpa using q0
           have HR2:Hid (e.typed=0):=zQ (by rw[HR.out];simp[rule,q0])
           go_wp2_with fail
           go_ret
           exact⟨by rw[HR2.out];rfl,hEr⟩
         ·by_cases h8:8≤e.op∧e.op≤12
          ·rcases(by omega:e.op=8∨e.op=9∨e.op=10∨e.op=11∨e.op=12) with h6|h6|h6|h6|h6
           all_goals
            rw[h6]at y0 HR
            by_cases q0:T0=1
            ·have tq0:(T0 == 1)=true:=by simp[q0]
             by_cases q1:T1=1
             ·have tq1:(T1 == 1)=true:=by simp[q1]
              have HR2:Hid (e.typed=1):=zQ (by rw[HR.out];simp[rule,q1,q0])
              go_wp2_with fail
              go_ret
              exact⟨by rw[HR2.out];rfl,hEr⟩
             ·have tq1:(T1 == 1)=false:=by simpa using q1
              have HR2:Hid (e.typed=0):=zQ (by rw[HR.out];simp[rule,q1,q0])
              go_wp2_with fail
              go_ret
              exact⟨by rw[HR2.out];rfl,hEr⟩
            ·have tq0:(T0 == 1)=false:=by simpa using q0
             have HR2:Hid (e.typed=0):=zQ (by rw[HR.out];simp[rule,q0])
             go_wp2_with fail
             go_ret
             exact⟨by rw[HR2.out];rfl,hEr⟩
          ·rcases(by omega:e.op=1∨e.op=2) with h6|h6
           ·rw[h6]at y0 HR
            have hsl:e.vl.s.length<9223372036854775808:=by
             have h1:=HOK.out.s
             show e.s.length<_
             omega
            have hltr:w.heap.size<wr.heap.size:=zP hlt0 hEw0.sz
            obtain⟨g,hg⟩ :∃g,vlRight e.vl=g:=⟨_,rfl⟩
            have RC :∀W,Calls Tryz.prog 148 #[.agg #[.int .i64 e.ty,.int .i64 e.n,.bool e.b,.string ⟨e.s.toArray⟩]] W fun r w'=>r=.returned (.bool g)∧Ext W w':=fun W=>by
             have:=right_any e.vl hsl W
             rw[hg]at this
             exact this
            have HRC:=zQ RC
            have HR3:Hid (e.typed=if g=true then e.ty else 0):=zQ (by rw[HR.out,←hg];rfl)
            clear RC hg HR hsl
            cases g with
            | true=>
             go_wp2_with fail
             refine(HRC.out _).mono ?_
             rintro r w' ⟨rfl,hEv⟩
             have y2':=(hEv.old (p:=⟨w.heap.size,2,none⟩) hltr).trans y2
             go_wp2_with fail
             go_ret
             exact⟨by rw[HR3.out];rfl,hEr.trans hEv⟩
            | false=>
             go_wp2_with fail
             refine(HRC.out _).mono ?_
             rintro r w' ⟨rfl,hEv⟩
             go_wp2_with fail
             go_ret
             exact⟨by rw[HR3.out];rfl,hEr.trans hEv⟩
           ·rw[h6]at y0 HR
            have HR2:Hid (e.typed=varTy e.var):=zQ (by rw[HR.out];simp[rule])
            go_wp2_with fail
            refine(varType_any _ _).mono ?_
            rintro r w' ⟨rfl,hEv⟩
            go_wp2_with fail
            go_ret
            exact⟨by rw[HR2.out];rfl,hEr.trans hEv⟩
end Go.Proofs.YtmiencglfhpmeaaGreatDoor
