/- The contract of the reference's value (printed by gen_ew.py). -/
import Derived.Test.YtmiencglfhpmeaaGreatDoorKQXg
import Derived.Test.YtmiencglfhpmeaaGreatDoorKQEt
import Derived.Test.YtmiencglfhpmeaaGreatDoorKQEn
open List renaming cons_append → zA, foldl_cons → zB, foldl_nil → zC, getD → zD, getD_cons_succ → zE, getD_cons_zero → zF, length_cons → zG, length_nil → zH, nil_append → zI, range_succ → zJ, range_zero → zK, setIfInBounds_toArray → zL, set_cons_succ → zM, set_cons_zero → zN
open Nat renaming add_assoc → zO, add_zero → zP, one_mul → zQ, reduceAdd → zR, reduceMul → zS, zero_mul → zT
open Go.Lib renaming hid → zU
set_option linter.unusedSimpArgs false
set_option linter.unusedVariables false
namespace Go.Proofs.YtmiencglfhpmeaaGreatDoor
open Go.RowKit Hach
def V4 (w:World) (g:Nat) (y:Vl):Prop:=w.heap[g]?=some (.cells #[.int .i64 y.ty,.int .i64 y.n,.bool y.b,.string ⟨y.s.toArray⟩] 44 (0,0))
def vzero:Vl:=⟨0,0,false,[]⟩
theorem V4.lt {w:World}{g:Nat}{y:Vl}(h:V4 w g y):g<w.heap.size:=(Array.getElem?_eq_some_iff.1 h).1
theorem V4.ext {w w':World}{g:Nat}{y:Vl}(h:V4 w g y) (hE:Ext w w'):V4 w' g y:=(hE.below.block g h.lt).trans h
theorem V4.cells {w:World}{g:Nat}{y:Vl}(h:V4 w g y):w.cell? ⟨g,0,none⟩=some (.int .i64 y.ty)∧w.cell? ⟨g,1,none⟩=some (.int .i64 y.n)∧w.cell? ⟨g,2,none⟩=some (.bool y.b)∧w.cell? ⟨g,3,none⟩=some (.string ⟨y.s.toArray⟩):=by
 have h':w.heap[g]?=_:=h
 refine⟨?_,?_,?_,?_⟩<;>simp[World.cell?,h']
theorem V4.free {w:World}{g:Nat}{y:Vl}(h:V4 w g y):w.frozen? ⟨g,0,none⟩=false∧w.frozen? ⟨g,1,none⟩=false∧w.frozen? ⟨g,2,none⟩=false∧w.frozen? ⟨g,3,none⟩=false:=by
 have h':w.heap[g]?=_:=h
 refine⟨?_,?_,?_,?_⟩<;>simp[World.frozen?,h']
theorem V4.set {w:World}{g:Nat}{y:Vl}(h:V4 w g y) (z:Vl):V4 (vset w g (.int .i64 z.ty) (.int .i64 z.n) (.bool z.b) (.string ⟨z.s.toArray⟩)) g z:=by
 have h':w.heap[g]?=_:=h
 simp[V4,vset,World.setCell,Array.getElem?_modify,h']
theorem V4.new (w:World):V4 (w.alloc (.cells #[.int .i64 0,.int .i64 0,.bool false,.string ⟨#[]⟩] 44)) w.heap.size vzero:=Go.heap_alloc_new _ _
def zp (lo:Nat):SP:=⟨fun v W =>∃g,v=.pointer (some ⟨g,0,none⟩)∧lo≤g∧V4 W g vzero,fun h hE=>by
 obtain⟨g,e,h1,h2⟩:=h
 exact⟨g,e,h1,h2.ext hE⟩⟩
theorem Rt.pos0 {e:Ex}{t:Int}(h:Rt e t) (h1:e.op≠1) (h2:e.op≠2):0<e.l.length:=by
 rcases h.inv with⟨h6,hl,_⟩|⟨h6,hl,_⟩|⟨_,_,a,hl,ha⟩|⟨_,_,a,b,hl,ha,hb⟩|⟨_,_,s,a,b,hl,ha,hb⟩|⟨_,_,a,b,hl,ha,hb⟩|⟨_,_,a,b,hl,ha,hb⟩|⟨_,a,b,c,hl,ha,hb,hc⟩
 ·exact absurd h6 h1
 ·exact absurd h6 h2
 all_goals simp[hl]
theorem Rt.pos1 {e:Ex}{t:Int}(h:Rt e t) (h1:e.op≠1) (h2:e.op≠2) (h3:e.op≠3):1<e.l.length:=by
 rcases h.inv with⟨h6,hl,_⟩|⟨h6,hl,_⟩|⟨h6,_,a,hl,ha⟩|⟨_,_,a,b,hl,ha,hb⟩|⟨_,_,s,a,b,hl,ha,hb⟩|⟨_,_,a,b,hl,ha,hb⟩|⟨_,_,a,b,hl,ha,hb⟩|⟨_,a,b,c,hl,ha,hb,hc⟩
 ·exact absurd h6 h1
 ·exact absurd h6 h2
 ·exact absurd h6 h3
 all_goals simp[hl]
set_option maxRecDepth 100000 in
set_option maxHeartbeats 8000000 in
theorem value_any (x:En) (d:Nat) :∀(e:Ex) (t:Int) (A:Option Addr) (c:Nat) (w:World),Rt e t→ExB w w.heap.size d A e.l →
  Calls Tryz.prog 103 #[.agg (e.cells A c).toArray,x.v] w fun r w'=>r=.returned (e.val x).vl.v∧Ext w w':=by
 induction d using Nat.strongRecOn with
 | _ d ih=>
  intro e t A c w hrt hX
  have HRT:=zU hrt
  have hlen:e.l.length≤3:=by
   rcases hrt.inv with⟨_,hl,_⟩|⟨_,hl,_⟩|⟨_,_,a,hl,ha⟩|⟨_,_,a,b,hl,ha,hb⟩|⟨_,_,s,a,b,hl,ha,hb⟩|⟨_,_,a,b,hl,ha,hb⟩|⟨_,_,a,b,hl,ha,hb⟩|⟨_,a,b,c,hl,ha,hb,hc⟩<;>simp[hl]
  have HV:=zU (e.val_eq x)
  obtain⟨w3,hw3⟩ :∃w3,((w.alloc (.cells (e.cells A c).toArray 47)).alloc (.cells x.cells 28)).alloc (.cells #[.int .i64 0,.int .i64 0,.bool false,.string ⟨#[]⟩] 44)=w3:=⟨_,rfl⟩
  have hE3:Ext w w3:=by rw[←hw3];exact((Ext.alloc _ _).trans (Ext.alloc _ _)).trans (Ext.alloc _ _)
  have hBx:Box w3 w.heap.size e A c:=by rw[←hw3];exact((Box.new w e A c 47).ext (Ext.alloc _ _)).ext (Ext.alloc _ _)
  have hBy:EnBox w3 (w.heap.size+1) x:=by
   have h1:=EnBox.new (w.alloc (.cells (e.cells A c).toArray 47)) x 28
   rw[World.size_alloc]at h1
   rw[←hw3];exact h1.ext (Ext.alloc _ _)
  have hBz:V4 w3 (w.heap.size+2) vzero:=by
   have h1:=V4.new ((w.alloc (.cells (e.cells A c).toArray 47)).alloc (.cells x.cells 28))
   rw[World.size_alloc,World.size_alloc]at h1
   rw[←hw3];exact h1
  have HW:=zU hw3
  have hlt0:=hBx.lt
  have hlt1:=hBy.lt
  have hlt2:=hBz.lt
  have HBx:=zU hBx
  have HBy:=zU hBy
  have HBz:=zU hBz
  have y0:=hBx.c0
  unfold Ex.cells En.v
  unfold Ex.cells En.cells at HW
  clear hw3 hBx hBy hBz hrt
  go_enter Tryz.func103,Tryz.ntmps103
  go_upto_region 1 with fail
  rw[HW.out]
  by_cases h1:e.op=1
  ·have hr:vlRight e.vl=true:=by
    rcases HRT.out.inv with⟨_,_,hr,_⟩|⟨h6,_⟩|⟨h6,_⟩|⟨h6,_⟩|⟨h6,_⟩|⟨h6,_⟩|⟨h6,_⟩|⟨h6,_⟩
    ·exact hr
    all_goals (exfalso;omega)
   have HT:=zU (show(e.val x).vl.v=.agg #[.int .i64 e.ty,.int .i64 e.n,.bool e.b,.string ⟨e.s.toArray⟩] by rw[HV.out,h1];show(unw e.vl).vl.v=_;rw[unw_vl hr];rfl)
   obtain⟨_,_,y1,y2,y3,y4,y5,y6⟩:=HBx.out
   obtain⟨z0,z1,z2,z3⟩:=HBz.out.cells
   obtain⟨f0,f1,f2,f3⟩:=HBz.out.free
   simp only[vzero]at z0 z1 z2 z3
   rw[h1]at y0
   clear h1 hr ih hX
   go_wp2_with fail
   refine bodyPost_ret (v:=.agg #[.int .i64 e.ty,.int .i64 e.n,.bool e.b,.string ⟨e.s.toArray⟩]) (by simp only[results,Tryz.results103];go_simp) rfl ⟨by rw[HT.out],vset_ext hE3 (by omega)⟩
  ·by_cases h2:e.op=2
   ·have hr:1≤e.var∧e.var≤9:=by
     rcases HRT.out.inv with⟨h6,_⟩|⟨_,_,hr,_⟩|⟨h6,_⟩|⟨h6,_⟩|⟨h6,_⟩|⟨h6,_⟩|⟨h6,_⟩|⟨h6,_⟩
     ·exact absurd h6 h1
     ·exact hr
     all_goals (exfalso;omega)
    have HT:=zU (show(e.val x).vl.v=(x.var e.var).vl.v by rw[HV.out,h2];rfl)
    have VA:=zU (show ∀W,Calls Tryz.prog 124 #[.agg #[.int .i64 x.kind,.string ⟨x.cls.toArray⟩,.string ⟨x.name.toArray⟩,.int .i64 x.weight,.int .i64 x.level,.bool x.stairs,.int .i64 x.scale,.int .i64 x.hour,.int .i64 x.reader],.int .i64 e.var] W fun r w'=>r=.returned (x.var e.var).vl.v∧Ext W w' from fun W=>rVar_any x e.var hr W)
    obtain⟨_,_,y1,y2,y3,y4,y5,y6⟩:=HBx.out
    obtain⟨_,m1,m2,m3,m4,m5,m6,m7,m8,m9⟩:=HBy.out
    rw[h2]at y0
    clear h1 h2 hr ih hX
    generalize (x.var e.var).vl=u at *
    go_wp2_with fail
    refine(VA.out _).mono ?_
    rintro r w1 ⟨rfl,hE2⟩
    unfold Vl.v
    obtain⟨z0,z1,z2,z3⟩:=(HBz.out.ext hE2).cells
    obtain⟨f0,f1,f2,f3⟩:=(HBz.out.ext hE2).free
    simp only[vzero]at z0 z1 z2 z3
    clear y0 y1 y2 y3 y4 y5 y6 m1 m2 m3 m4 m5 m6 m7 m8 m9
    go_wp2_with fail
    refine bodyPost_ret (v:=.agg #[.int .i64 u.ty,.int .i64 u.n,.bool u.b,.string ⟨u.s.toArray⟩]) (by simp only[results,Tryz.results103];go_simp) rfl ⟨by rw[HT.out];rfl,vset_ext (hE3.trans hE2) (by omega)⟩
   ·have t1:(e.op == 1)=false:=by simpa using h1
    have t2:(e.op == 2)=false:=by simpa using h2
    have h0:=HRT.out.pos0 h1 h2
    have HIH:Hid (∀(j:Nat) (hj:j<e.l.length),∃b o A' c',A=some ⟨b,o,none⟩∧b<w.heap.size∧One w b (o+j*7) (e.l[j]) A' c' ∧∀W,Ext w W→Calls Tryz.prog 103 #[.agg ((e.l[j]).cells A' c').toArray,x.v] W fun r w'=>r=.returned ((e.l[j]).val x).vl.v∧Ext W w'):=zU fun j hj=>by
     obtain⟨b,o,A',c',d',hd,hA,hb,hX',hOne⟩:=hX.at_ hj
     obtain⟨s,hs⟩:=HRT.out.kid hj
     exact⟨b,o,A',c',hA,hb,hOne,fun W hW=>ih d' (by omega) _ s A' c' W hs (hX'.ext hW)⟩
    clear ih hX
    go_upto_region 5 with fail
    go_cut [5] from 7 (fun av wx =>∃g,av=.pointer (some ⟨g,0,none⟩)∧w3.heap.size≤g∧V4 wx g ((e.l[0]).val x).vl∧Ext w3 wx)
    case first=>
     obtain⟨b,o,A',c',rfl,hb,hOne,hC⟩:=HIH.out 0 h0
     have hbw:b<w.heap.size:=hb
     have HOne:=zU hOne
     obtain⟨v,hv⟩ :∃v,((e.l[0]).val x).vl=v:=⟨_,rfl⟩
     rw[hv]at hC
     have HVV:=zU hv
     simp only[Ex.cells,En.v,Vl.v]at hC
     have HC:=zU hC
     clear hC hOne hv hb
     generalize e.l[0]=y at *
     apply wp_region_seq (l:=[_,_,_,_,_,_,_]) (t:=[_]) [some 19,some 20,some 21,some 22,some 23,some 24,some 5,none] [[],[0],[1],[2],[],[3,4],[],[5,6]] [7,7,7,7,7,7,7] [eqv _,eqv _,eqv _,eqv _,eqv _,(eqv (.agg #[.int .i64 v.ty,.int .i64 v.n,.bool v.b,.string ⟨v.s.toArray⟩])),(zp w3.heap.size)] (by kernel_rfl) (by kernel_rfl) ⟨?o0,?o1,?o2,?o3,?o4,?o5,?o6,trivial⟩ ?last
     case o0=>
      intro xv W hE _
      simp only[putD,zC,zF]
      refine OpGoal.plain ?_
      go_wp2_with fail
      exact⟨rfl,Ext.refl _,rfl⟩
     case o1|o4=>
      intro xv W hE hp
      try have q0:xv _=_:=hp.1
      clear hp
      have hEw:Ext w3 W:=(Ext.drew w3).trans hE
      obtain⟨_,_,_,_,_,_,_,q6⟩:=HBx.out.ext hEw
      obtain⟨q7,q8,q9,q10,q11,q12,q13⟩:=HOne.out.ext hbw (hE3.trans hEw)
      simp only[zT,zQ,zP,zS,zO,zR]at q7 q8 q9 q10 q11 q12 q13
      obtain⟨_,m1,m2,m3,m4,m5,m6,m7,m8,m9⟩:=HBy.out.ext hEw
      simp only[putD,zC,zB,zF,zE,Act.put,zL,zN,zM]
      refine OpGoal.plain ?_
      go_wp2_with fail
      exact⟨rfl,Ext.refl _,rfl⟩
     case o2=>
      intro xv W hE hp
      have r1:xv 1=_:=hp.1
      clear hp
      simp only[putD,zC,zB,zF,zE,Act.put,zL,zN,zM]
      refine OpGoal.plain ?_
      go_wp2_with fail
      exact⟨rfl,Ext.refl _,rfl⟩
     case o3=>
      intro xv W hE hp
      have r2:xv 2=_:=hp.1
      clear hp
      have hEw:Ext w3 W:=(Ext.drew w3).trans hE
      obtain⟨_,_,_,_,_,_,_,q6⟩:=HBx.out.ext hEw
      obtain⟨q7,q8,q9,q10,q11,q12,q13⟩:=HOne.out.ext hbw (hE3.trans hEw)
      simp only[zT,zQ,zP,zS,zO,zR]at q7 q8 q9 q10 q11 q12 q13
      obtain⟨_,m1,m2,m3,m4,m5,m6,m7,m8,m9⟩:=HBy.out.ext hEw
      simp only[putD,zC,zB,zF,zE,Act.put,zL,zN,zM]
      refine OpGoal.plain ?_
      go_wp2_with fail
      exact⟨rfl,Ext.refl _,rfl⟩
     case o5=>
      intro xv W hE hp
      have r3:xv 3=_:=hp.1
      have r4:xv 4=_:=hp.2.1
      clear hp
      simp only[putD,zC,zB,zF,zE,Act.put,zL,zN,zM]
      refine OpGoal.plain ?_
      go_wp2_with fail
      refine(HC.out _ (hE3.trans ((Ext.drew w3).trans hE))).mono ?_
      rintro r w' ⟨rfl,hE5⟩
      go_wp2_with fail
      exact⟨rfl,hE5,rfl⟩
     case o6=>
      intro xv W hE _
      simp only[putD,zC,zF,zE]
      refine OpGoal.plain ?_
      go_wp2_with fail
      exact⟨rfl,Ext.alloc _ _,_,rfl,(by have:=hE.sz;simpa using this),V4.new _⟩
     case last=>
      intro xv W hE hp
      have r0:xv 0=_:=hp.1
      have r1:xv 1=_:=hp.2.1
      have r2:xv 2=_:=hp.2.2.1
      have r3:xv 3=_:=hp.2.2.2.1
      have r4:xv 4=_:=hp.2.2.2.2.1
      have r5:xv 5=_:=hp.2.2.2.2.2.1
      have r6:=hp.2.2.2.2.2.2.1
      clear hp
      simp only[putD,zC,zB,zF,zE,Act.put,zG,zH,zJ,zK,zI,zA,zL,zN,zM]
      have hEw:Ext w3 W:=(Ext.drew w3).trans hE
      obtain⟨gn,e6,hgn,hVn⟩:=r6
      rw[e6,r5]
      obtain⟨z0,z1,z2,z3⟩:=hVn.cells
      obtain⟨f0,f1,f2,f3⟩:=hVn.free
      simp only[vzero]at z0 z1 z2 z3
      clear r0 r1 r2 r3 r4 r5 e6
      go_wp2_with fail
      go_meet
      case rel=>exact⟨gn,rfl,hgn,by rw[HVV.out];exact hVn.set v,vset_ext hEw hgn⟩
    case rest=>
     obtain⟨g,rfl,hg,hVa,hEa⟩:=hcut
     have HVa:=zU hVa
     have y0':=(hEa.old (p:=⟨w.heap.size,0,none⟩) hlt0).trans y0
     obtain⟨ya,hya⟩ :∃ya,((e.l[0]).val x).vl=ya:=⟨_,rfl⟩
     rw[hya]at hVa
     have HYA:=zU hya
     clear hya
     by_cases h3:e.op=3
     ·obtain⟨p,hp⟩ :∃p,(e.l[0]).val x=.bool p:=by
       rcases HRT.out.inv with⟨h6,_⟩|⟨h6,_⟩|⟨_,_,a,hl,ha⟩|⟨h6,_⟩|⟨h6,_⟩|⟨h6,_⟩|⟨h6,_⟩|⟨h6,_⟩
       ·exact absurd h6 h1
       ·exact absurd h6 h2
       ·obtain⟨p,hp⟩:=(val_hasB x ha).b
        exact⟨p,by simpa[hl]using hp⟩
       all_goals (exfalso;omega)
      have HT:=zU (show(e.val x).vl.v=.agg #[.int .i64 2,.int .i64 0,.bool (!p),.string ⟨#[]⟩] by
       rw[HV.out,h3]
       have h5:(Ex.vals x e.l).getD 0 .nil=.bool p:=by rw[Ex.vals_map];simp[zD,h0,hp]
       simp only[vrule,h5]
       rfl)
      have hyp:ya=⟨2,0,p,[]⟩:=by rw[←HYA.out,hp];rfl
      subst hyp
      obtain⟨p0,p1,p2,p3⟩:=hVa.cells
      rw[h3]at y0'
      clear HYA hp h1 h2 h3 t1 t2 y0 HVa hVa h0
      go_wp2_with fail
      refine(rBool_any _ _).mono ?_
      rintro r w1 ⟨rfl,hE2⟩
      obtain⟨z0,z1,z2,z3⟩:=(HBz.out.ext (hEa.trans hE2)).cells
      obtain⟨f0,f1,f2,f3⟩:=(HBz.out.ext (hEa.trans hE2)).free
      simp only[vzero]at z0 z1 z2 z3
      go_wp2_with fail
      refine bodyPost_ret (v:=.agg #[.int .i64 2,.int .i64 0,.bool (!p),.string ⟨#[]⟩]) (by simp only[results,Tryz.results103];go_simp) rfl ⟨by(rw[HT.out]);first|done|rfl,vset_ext ((hE3.trans hEa).trans hE2) (by omega)⟩
     ·have t3:(e.op == 3)=false:=by simpa using h3
      have h01:=HRT.out.pos1 h1 h2 h3
      go_upto_region 8 with fail
      go_cut [6] from 7 (fun bv wx =>∃g',bv=.pointer (some ⟨g',0,none⟩)∧w3.heap.size≤g'∧V4 wx g' ((e.l[1]).val x).vl∧Ext wc wx)
      case first=>
       obtain⟨b,o,A',c',rfl,hb,hOne,hC⟩:=HIH.out 1 h01
       have hbw:b<w.heap.size:=hb
       have HOne:=zU hOne
       obtain⟨v,hv⟩ :∃v,((e.l[1]).val x).vl=v:=⟨_,rfl⟩
       rw[hv]at hC
       have HVV:=zU hv
       simp only[Ex.cells,En.v,Vl.v]at hC
       have HC:=zU hC
       clear hC hOne hv hb
       generalize e.l[1]=y at *
       have h1l:1<e.l.length:=h01
       apply wp_region_seq (l:=[_,_,_,_,_,_,_]) (t:=[_]) [some 32,some 33,some 34,some 35,some 36,some 37,some 6,none] [[],[0],[1],[2],[],[3,4],[],[5,6]] [7,7,7,7,7,7,7] [eqv _,eqv _,eqv _,eqv _,eqv _,(eqv (.agg #[.int .i64 v.ty,.int .i64 v.n,.bool v.b,.string ⟨v.s.toArray⟩])),(zp wc.heap.size)] (by kernel_rfl) (by kernel_rfl) ⟨?o0,?o1,?o2,?o3,?o4,?o5,?o6,trivial⟩ ?last
       case o0=>
        intro xv W hE _
        simp only[putD,zC,zF]
        refine OpGoal.plain ?_
        go_wp2_with fail
        exact⟨rfl,Ext.refl _,rfl⟩
       case o1|o4=>
        intro xv W hE hp
        try have q0:xv _=_:=hp.1
        clear hp
        have hEw:Ext w3 W:=hEa.trans ((Ext.drew wc).trans hE)
        obtain⟨_,_,_,_,_,_,_,q6⟩:=HBx.out.ext hEw
        obtain⟨q7,q8,q9,q10,q11,q12,q13⟩:=HOne.out.ext hbw (hE3.trans hEw)
        simp only[zT,zQ,zP,zS,zO,zR]at q7 q8 q9 q10 q11 q12 q13
        obtain⟨_,m1,m2,m3,m4,m5,m6,m7,m8,m9⟩:=HBy.out.ext hEw
        simp only[putD,zC,zB,zF,zE,Act.put,zL,zN,zM]
        refine OpGoal.plain ?_
        go_wp2_with fail
        exact⟨rfl,Ext.refl _,rfl⟩
       case o2=>
        intro xv W hE hp
        have r1:xv 1=_:=hp.1
        clear hp
        simp only[putD,zC,zB,zF,zE,Act.put,zL,zN,zM]
        refine OpGoal.plain ?_
        go_wp2_with fail
        exact⟨rfl,Ext.refl _,rfl⟩
       case o3=>
        intro xv W hE hp
        have r2:xv 2=_:=hp.1
        clear hp
        have hEw:Ext w3 W:=hEa.trans ((Ext.drew wc).trans hE)
        obtain⟨_,_,_,_,_,_,_,q6⟩:=HBx.out.ext hEw
        obtain⟨q7,q8,q9,q10,q11,q12,q13⟩:=HOne.out.ext hbw (hE3.trans hEw)
        simp only[zT,zQ,zP,zS,zO,zR]at q7 q8 q9 q10 q11 q12 q13
        obtain⟨_,m1,m2,m3,m4,m5,m6,m7,m8,m9⟩:=HBy.out.ext hEw
        simp only[putD,zC,zB,zF,zE,Act.put,zL,zN,zM]
        refine OpGoal.plain ?_
        go_wp2_with fail
        exact⟨rfl,Ext.refl _,rfl⟩
       case o5=>
        intro xv W hE hp
        have r3:xv 3=_:=hp.1
        have r4:xv 4=_:=hp.2.1
        clear hp
        simp only[putD,zC,zB,zF,zE,Act.put,zL,zN,zM]
        refine OpGoal.plain ?_
        go_wp2_with fail
        refine(HC.out _ (hE3.trans (hEa.trans ((Ext.drew wc).trans hE)))).mono ?_
        rintro r w' ⟨rfl,hE5⟩
        go_wp2_with fail
        exact⟨rfl,hE5,rfl⟩
       case o6=>
        intro xv W hE _
        simp only[putD,zC,zF,zE]
        refine OpGoal.plain ?_
        go_wp2_with fail
        exact⟨rfl,Ext.alloc _ _,_,rfl,(by have:=hE.sz;simpa using this),V4.new _⟩
       case last=>
        intro xv W hE hp
        have r0:xv 0=_:=hp.1
        have r1:xv 1=_:=hp.2.1
        have r2:xv 2=_:=hp.2.2.1
        have r3:xv 3=_:=hp.2.2.2.1
        have r4:xv 4=_:=hp.2.2.2.2.1
        have r5:xv 5=_:=hp.2.2.2.2.2.1
        have r6:=hp.2.2.2.2.2.2.1
        clear hp
        simp only[putD,zC,zB,zF,zE,Act.put,zG,zH,zJ,zK,zI,zA,zL,zN,zM]
        have hEw:Ext w3 W:=hEa.trans ((Ext.drew wc).trans hE)
        obtain⟨gn,e6,hgn,hVn⟩:=r6
        rw[e6,r5]
        obtain⟨z0,z1,z2,z3⟩:=hVn.cells
        obtain⟨f0,f1,f2,f3⟩:=hVn.free
        simp only[vzero]at z0 z1 z2 z3
        clear r0 r1 r2 r3 r4 r5 e6
        go_wp2_with fail
        go_meet
        case rel=>exact⟨gn,rfl,Nat.le_trans hEa.sz hgn,by rw[HVV.out];exact hVn.set v,vset_ext ((Ext.drew _).trans hE) hgn⟩
      case rest=>
       obtain⟨g',rfl,hg',hVb,hEb⟩:=hcut
       have hEab:=hEa.trans hEb
       have hVa2:=hVa.ext hEb
       have y0b:=(hEb.old (p:=⟨w.heap.size,0,none⟩) (show w.heap.size<_ by have:=hEa.sz;omega)).trans y0'
       obtain⟨yb,hyb⟩ :∃yb,((e.l[1]).val x).vl=yb:=⟨_,rfl⟩
       rw[hyb]at hVb
       have HYB:=zU hyb
       clear hyb
       by_cases h45:e.op=4∨e.op=5
       ·obtain⟨p,q,hp,hq⟩ :∃p q,(e.l[0]).val x=.bool p∧(e.l[1]).val x=.bool q:=by
         rcases HRT.out.inv with⟨h6,_⟩|⟨h6,_⟩|⟨h6,_⟩|⟨_,_,a,b,hl,ha,hb⟩|⟨h6,_⟩|⟨h6,_⟩|⟨h6,_⟩|⟨h6,_⟩
         ·exfalso;omega
         ·exfalso;omega
         ·exfalso;omega
         ·obtain⟨p,hp⟩:=(val_hasB x ha).b
          obtain⟨q,hq⟩:=(val_hasB x hb).b
          exact⟨p,q,by simpa[hl]using hp,by simpa[hl]using hq⟩
         ·exfalso;omega
         ·exfalso;omega
         ·exfalso;omega
         ·exfalso;omega
        rcases h45 with h6|h6
        ·have HT:=zU (show(e.val x).vl.v=.agg #[.int .i64 2,.int .i64 0,.bool (p&&q),.string ⟨#[]⟩] by
          rw[HV.out,h6]
          have h5:(Ex.vals x e.l).getD 0 .nil=.bool p:=by rw[Ex.vals_map];simp[zD,h0,hp]
          have h7:(Ex.vals x e.l).getD 1 .nil=.bool q:=by rw[Ex.vals_map];simp[zD,h01,hq]
          simp only[vrule,h5,h7]
          rfl)
         have hyp:ya=⟨2,0,p,[]⟩:=by rw[←HYA.out,hp];rfl
         have hyq:yb=⟨2,0,q,[]⟩:=by rw[←HYB.out,hq];rfl
         subst hyp
         subst hyq
         obtain⟨p0,p1',p2',p3⟩:=hVa2.cells
         obtain⟨q0,q1',q2',q3⟩:=hVb.cells
         rw[h6]at y0b
         clear HYA HYB hp hq h6 h1 h2 h3 t1 t2 t3 y0 y0' HVa hVa hVa2 hVb h0 h01
         cases p with
         | false=>
          go_wp2_with fail
          refine(rBool_any _ _).mono ?_
          rintro r w1 ⟨rfl,hE2⟩
          obtain⟨z0,z1,z2,z3⟩:=(HBz.out.ext (hEab.trans hE2)).cells
          obtain⟨f0,f1,f2,f3⟩:=(HBz.out.ext (hEab.trans hE2)).free
          simp only[vzero]at z0 z1 z2 z3
          go_wp2_with fail
          refine bodyPost_ret (v:=.agg #[.int .i64 2,.int .i64 0,.bool false,.string ⟨#[]⟩]) (by simp only[results,Tryz.results103];go_simp) rfl ⟨by(rw[HT.out]);first|done|rfl,vset_ext ((hE3.trans hEab).trans hE2) (by omega)⟩
         | true=>
          go_wp2_with fail
          refine(rBool_any _ _).mono ?_
          rintro r w1 ⟨rfl,hE2⟩
          obtain⟨z0,z1,z2,z3⟩:=(HBz.out.ext (hEab.trans hE2)).cells
          obtain⟨f0,f1,f2,f3⟩:=(HBz.out.ext (hEab.trans hE2)).free
          simp only[vzero]at z0 z1 z2 z3
          go_wp2_with fail
          refine bodyPost_ret (v:=.agg #[.int .i64 2,.int .i64 0,.bool q,.string ⟨#[]⟩]) (by simp only[results,Tryz.results103];go_simp) rfl ⟨by(rw[HT.out]);first|done|rfl,vset_ext ((hE3.trans hEab).trans hE2) (by omega)⟩
        ·have HT:=zU (show(e.val x).vl.v=.agg #[.int .i64 2,.int .i64 0,.bool (p||q),.string ⟨#[]⟩] by
          rw[HV.out,h6]
          have h5:(Ex.vals x e.l).getD 0 .nil=.bool p:=by rw[Ex.vals_map];simp[zD,h0,hp]
          have h7:(Ex.vals x e.l).getD 1 .nil=.bool q:=by rw[Ex.vals_map];simp[zD,h01,hq]
          simp only[vrule,h5,h7]
          rfl)
         have hyp:ya=⟨2,0,p,[]⟩:=by rw[←HYA.out,hp];rfl
         have hyq:yb=⟨2,0,q,[]⟩:=by rw[←HYB.out,hq];rfl
         subst hyp
         subst hyq
         obtain⟨p0,p1',p2',p3⟩:=hVa2.cells
         obtain⟨q0,q1',q2',q3⟩:=hVb.cells
         rw[h6]at y0b
         clear HYA HYB hp hq h6 h1 h2 h3 t1 t2 t3 y0 y0' HVa hVa hVa2 hVb h0 h01
         cases p with
         | false=>
          go_wp2_with fail
          refine(rBool_any _ _).mono ?_
          rintro r w1 ⟨rfl,hE2⟩
          obtain⟨z0,z1,z2,z3⟩:=(HBz.out.ext (hEab.trans hE2)).cells
          obtain⟨f0,f1,f2,f3⟩:=(HBz.out.ext (hEab.trans hE2)).free
          simp only[vzero]at z0 z1 z2 z3
          go_wp2_with fail
          refine bodyPost_ret (v:=.agg #[.int .i64 2,.int .i64 0,.bool q,.string ⟨#[]⟩]) (by simp only[results,Tryz.results103];go_simp) rfl ⟨by(rw[HT.out]);first|done|rfl,vset_ext ((hE3.trans hEab).trans hE2) (by omega)⟩
         | true=>
          go_wp2_with fail
          refine(rBool_any _ _).mono ?_
          rintro r w1 ⟨rfl,hE2⟩
          obtain⟨z0,z1,z2,z3⟩:=(HBz.out.ext (hEab.trans hE2)).cells
          obtain⟨f0,f1,f2,f3⟩:=(HBz.out.ext (hEab.trans hE2)).free
          simp only[vzero]at z0 z1 z2 z3
          go_wp2_with fail
          refine bodyPost_ret (v:=.agg #[.int .i64 2,.int .i64 0,.bool true,.string ⟨#[]⟩]) (by simp only[results,Tryz.results103];go_simp) rfl ⟨by(rw[HT.out]);first|done|rfl,vset_ext ((hE3.trans hEab).trans hE2) (by omega)⟩
       ·by_cases h6:e.op=6
        ·have hv :∀w,(binOp .eql 44 (.agg #[.int .i64 ya.ty,.int .i64 ya.n,.bool ya.b,.string ⟨ya.s.toArray⟩]) (.agg #[.int .i64 yb.ty,.int .i64 yb.n,.bool yb.b,.string ⟨yb.s.toArray⟩])).run Tryz.prog w=.ok (.bool (valB ya.ty ya.n ya.b ya.s yb.ty yb.n yb.b yb.s)) w:=fun w=>val_eql ..
         obtain⟨z,hz⟩ :∃z,valB ya.ty ya.n ya.b ya.s yb.ty yb.n yb.b yb.s=z:=⟨_,rfl⟩
         have HT:=zU (show(e.val x).vl.v=.agg #[.int .i64 2,.int .i64 0,.bool z,.string ⟨#[]⟩] by
          rw[HV.out,h6]
          have h5:(Ex.vals x e.l).getD 0 .nil=(e.l[0]).val x:=by rw[Ex.vals_map];simp[zD,h0]
          have h7:(Ex.vals x e.l).getD 1 .nil=(e.l[1]).val x:=by rw[Ex.vals_map];simp[zD,h01]
          have h8:Vl.eq ya yb=z:=hz
          simp only[vrule,h5,h7,HYA.out,HYB.out,h8]
          rfl)
         rw[hz]at hv
         obtain⟨p0,p1',p2',p3⟩:=hVa2.cells
         obtain⟨q0,q1',q2',q3⟩:=hVb.cells
         rw[h6]at y0b
         clear HYA HYB h6 h1 h2 h3 t1 t2 t3 y0 y0' HVa hVa hVa2 hVb h0 h01 hz
         go_wp2_with fail
         refine(rBool_any _ _).mono ?_
         rintro r w1 ⟨rfl,hE2⟩
         obtain⟨z0,z1,z2,z3⟩:=(HBz.out.ext (hEab.trans hE2)).cells
         obtain⟨f0,f1,f2,f3⟩:=(HBz.out.ext (hEab.trans hE2)).free
         simp only[vzero]at z0 z1 z2 z3
         go_wp2_with fail
         refine bodyPost_ret (v:=.agg #[.int .i64 2,.int .i64 0,.bool z,.string ⟨#[]⟩]) (by simp only[results,Tryz.results103];go_simp) rfl ⟨by(rw[HT.out]);first|done|rfl,vset_ext ((hE3.trans hEab).trans hE2) (by omega)⟩
        ·by_cases h67:e.op=7
         ·have h6:=h67
          obtain⟨p,q,hp,hq,p1,p2,q1,q2⟩ :∃p q,(e.l[0]).val x=.int p∧(e.l[1]).val x=.int q ∧ -1073741824≤p∧p≤1073741824 ∧ -1073741824≤q∧q≤1073741824:=by
           rcases HRT.out.inv with⟨h6,_⟩|⟨h6,_⟩|⟨h6,_⟩|⟨h6,_⟩|⟨h6,_⟩|⟨_,_,a,b,hl,ha,hb⟩|⟨h6,_⟩|⟨h6,_⟩
           ·exfalso;omega
           ·exfalso;omega
           ·exfalso;omega
           ·exfalso;omega
           ·exfalso;omega
           ·obtain⟨p,hp,p1,p2⟩:=(val_hasB x ha).i
            obtain⟨q,hq,q1,q2⟩:=(val_hasB x hb).i
            exact⟨p,q,by simpa[hl]using hp,by simpa[hl]using hq,p1,p2,q1,q2⟩
           ·exfalso;omega
           ·exfalso;omega
          have HT:=zU (show(e.val x).vl.v=.agg #[.int .i64 2,.int .i64 0,.bool (decide (p<q)),.string ⟨#[]⟩] by
           rw[HV.out,h6]
           have h5:(Ex.vals x e.l).getD 0 .nil=.int p:=by rw[Ex.vals_map];simp[zD,h0,hp]
           have h7:(Ex.vals x e.l).getD 1 .nil=.int q:=by rw[Ex.vals_map];simp[zD,h01,hq]
           simp only[vrule,h5,h7]
           rfl)
          have hyp:ya=⟨1,p,false,[]⟩:=by rw[←HYA.out,hp];rfl
          have hyq:yb=⟨1,q,false,[]⟩:=by rw[←HYB.out,hq];rfl
          subst hyp
          subst hyq
          obtain⟨p0,p1',p2',p3⟩:=hVa2.cells
          obtain⟨q0,q1',q2',q3⟩:=hVb.cells
          rw[h6]at y0b
          clear HYA HYB hp hq h6 h1 h2 h3 t1 t2 t3 y0 y0' HVa hVa hVa2 hVb h0 h01
          go_wp2_with fail
          refine(rBool_any _ _).mono ?_
          rintro r w1 ⟨rfl,hE2⟩
          obtain⟨z0,z1,z2,z3⟩:=(HBz.out.ext (hEab.trans hE2)).cells
          obtain⟨f0,f1,f2,f3⟩:=(HBz.out.ext (hEab.trans hE2)).free
          simp only[vzero]at z0 z1 z2 z3
          go_wp2_with fail
          refine bodyPost_ret (v:=.agg #[.int .i64 2,.int .i64 0,.bool (decide (p<q)),.string ⟨#[]⟩]) (by simp only[results,Tryz.results103];go_simp) rfl ⟨by(rw[HT.out]);first|done|rfl,vset_ext ((hE3.trans hEab).trans hE2) (by omega)⟩
         ·by_cases h813:8≤e.op∧e.op≤12
          ·obtain⟨p,q,hp,hq,p1,p2,q1,q2⟩ :∃p q,(e.l[0]).val x=.int p∧(e.l[1]).val x=.int q ∧ -1073741824≤p∧p≤1073741824 ∧ -1073741824≤q∧q≤1073741824:=by
            rcases HRT.out.inv with⟨h6,_⟩|⟨h6,_⟩|⟨h6,_⟩|⟨h6,_⟩|⟨h6,_⟩|⟨h6,_⟩|⟨_,_,a,b,hl,ha,hb⟩|⟨h6,_⟩
            ·exfalso;omega
            ·exfalso;omega
            ·exfalso;omega
            ·exfalso;omega
            ·exfalso;omega
            ·exfalso;omega
            ·obtain⟨p,hp,p1,p2⟩:=(val_hasB x ha).i
             obtain⟨q,hq,q1,q2⟩:=(val_hasB x hb).i
             exact⟨p,q,by simpa[hl]using hp,by simpa[hl]using hq,p1,p2,q1,q2⟩
            ·exfalso;omega
           obtain⟨m1',m2'⟩:=mul_bd p1 p2 q1 q2
           rcases(by omega:e.op=8∨e.op=9∨e.op=10∨e.op=11∨e.op=12) with h6|h6|h6|h6|h6
           ·have HT:=zU (show(e.val x).vl.v=.agg #[.int .i64 1,.int .i64 (lim (p+q)),.bool false,.string ⟨#[]⟩] by
             rw[HV.out,h6]
             have h5:(Ex.vals x e.l).getD 0 .nil=.int p:=by rw[Ex.vals_map];simp[zD,h0,hp]
             have h7:(Ex.vals x e.l).getD 1 .nil=.int q:=by rw[Ex.vals_map];simp[zD,h01,hq]
             simp only[vrule,h5,h7]
             rfl)
            have hyp:ya=⟨1,p,false,[]⟩:=by rw[←HYA.out,hp];rfl
            have hyq:yb=⟨1,q,false,[]⟩:=by rw[←HYB.out,hq];rfl
            subst hyp
            subst hyq
            obtain⟨p0,p1',p2',p3⟩:=hVa2.cells
            obtain⟨q0,q1',q2',q3⟩:=hVb.cells
            rw[h6]at y0b
            clear HYA HYB hp hq h6 h1 h2 h3 t1 t2 t3 y0 y0' HVa hVa hVa2 hVb h0 h01
            clear m1' m2'
            go_wp2_with fail
            refine(rLimit_any _ _).mono ?_
            rintro r w1 ⟨rfl,rfl⟩
            go_wp2_with fail
            refine(rInt_any _ _).mono ?_
            rintro r w1 ⟨rfl,hE2⟩
            obtain⟨z0,z1,z2,z3⟩:=(HBz.out.ext (hEab.trans hE2)).cells
            obtain⟨f0,f1,f2,f3⟩:=(HBz.out.ext (hEab.trans hE2)).free
            simp only[vzero]at z0 z1 z2 z3
            go_wp2_with fail
            refine bodyPost_ret (v:=.agg #[.int .i64 1,.int .i64 (lim (p+q)),.bool false,.string ⟨#[]⟩]) (by simp only[results,Tryz.results103];go_simp) rfl ⟨by(rw[HT.out]);first|done|rfl,vset_ext ((hE3.trans hEab).trans hE2) (by omega)⟩
           ·have HT:=zU (show(e.val x).vl.v=.agg #[.int .i64 1,.int .i64 (lim (p-q)),.bool false,.string ⟨#[]⟩] by
             rw[HV.out,h6]
             have h5:(Ex.vals x e.l).getD 0 .nil=.int p:=by rw[Ex.vals_map];simp[zD,h0,hp]
             have h7:(Ex.vals x e.l).getD 1 .nil=.int q:=by rw[Ex.vals_map];simp[zD,h01,hq]
             simp only[vrule,h5,h7]
             rfl)
            have hyp:ya=⟨1,p,false,[]⟩:=by rw[←HYA.out,hp];rfl
            have hyq:yb=⟨1,q,false,[]⟩:=by rw[←HYB.out,hq];rfl
            subst hyp
            subst hyq
            obtain⟨p0,p1',p2',p3⟩:=hVa2.cells
            obtain⟨q0,q1',q2',q3⟩:=hVb.cells
            rw[h6]at y0b
            clear HYA HYB hp hq h6 h1 h2 h3 t1 t2 t3 y0 y0' HVa hVa hVa2 hVb h0 h01
            clear m1' m2'
            go_wp2_with fail
            refine(rLimit_any _ _).mono ?_
            rintro r w1 ⟨rfl,rfl⟩
            go_wp2_with fail
            refine(rInt_any _ _).mono ?_
            rintro r w1 ⟨rfl,hE2⟩
            obtain⟨z0,z1,z2,z3⟩:=(HBz.out.ext (hEab.trans hE2)).cells
            obtain⟨f0,f1,f2,f3⟩:=(HBz.out.ext (hEab.trans hE2)).free
            simp only[vzero]at z0 z1 z2 z3
            go_wp2_with fail
            refine bodyPost_ret (v:=.agg #[.int .i64 1,.int .i64 (lim (p-q)),.bool false,.string ⟨#[]⟩]) (by simp only[results,Tryz.results103];go_simp) rfl ⟨by(rw[HT.out]);first|done|rfl,vset_ext ((hE3.trans hEab).trans hE2) (by omega)⟩
           ·have HT:=zU (show(e.val x).vl.v=.agg #[.int .i64 1,.int .i64 (lim (p*q)),.bool false,.string ⟨#[]⟩] by
             rw[HV.out,h6]
             have h5:(Ex.vals x e.l).getD 0 .nil=.int p:=by rw[Ex.vals_map];simp[zD,h0,hp]
             have h7:(Ex.vals x e.l).getD 1 .nil=.int q:=by rw[Ex.vals_map];simp[zD,h01,hq]
             simp only[vrule,h5,h7]
             rfl)
            have hyp:ya=⟨1,p,false,[]⟩:=by rw[←HYA.out,hp];rfl
            have hyq:yb=⟨1,q,false,[]⟩:=by rw[←HYB.out,hq];rfl
            subst hyp
            subst hyq
            obtain⟨p0,p1',p2',p3⟩:=hVa2.cells
            obtain⟨q0,q1',q2',q3⟩:=hVb.cells
            rw[h6]at y0b
            clear HYA HYB hp hq h6 h1 h2 h3 t1 t2 t3 y0 y0' HVa hVa hVa2 hVb h0 h01
            go_wp2_with fail
            refine(rLimit_any _ _).mono ?_
            rintro r w1 ⟨rfl,rfl⟩
            go_wp2_with fail
            refine(rInt_any _ _).mono ?_
            rintro r w1 ⟨rfl,hE2⟩
            obtain⟨z0,z1,z2,z3⟩:=(HBz.out.ext (hEab.trans hE2)).cells
            obtain⟨f0,f1,f2,f3⟩:=(HBz.out.ext (hEab.trans hE2)).free
            simp only[vzero]at z0 z1 z2 z3
            go_wp2_with fail
            refine bodyPost_ret (v:=.agg #[.int .i64 1,.int .i64 (lim (p*q)),.bool false,.string ⟨#[]⟩]) (by simp only[results,Tryz.results103];go_simp) rfl ⟨by(rw[HT.out]);first|done|rfl,vset_ext ((hE3.trans hEab).trans hE2) (by omega)⟩
           ·have HT:=zU (show(e.val x).vl.v=.agg #[.int .i64 1,.int .i64 (min p q),.bool false,.string ⟨#[]⟩] by
             rw[HV.out,h6]
             have h5:(Ex.vals x e.l).getD 0 .nil=.int p:=by rw[Ex.vals_map];simp[zD,h0,hp]
             have h7:(Ex.vals x e.l).getD 1 .nil=.int q:=by rw[Ex.vals_map];simp[zD,h01,hq]
             simp only[vrule,h5,h7]
             rfl)
            have hyp:ya=⟨1,p,false,[]⟩:=by rw[←HYA.out,hp];rfl
            have hyq:yb=⟨1,q,false,[]⟩:=by rw[←HYB.out,hq];rfl
            subst hyp
            subst hyq
            obtain⟨p0,p1',p2',p3⟩:=hVa2.cells
            obtain⟨q0,q1',q2',q3⟩:=hVb.cells
            rw[h6]at y0b
            clear HYA HYB hp hq h6 h1 h2 h3 t1 t2 t3 y0 y0' HVa hVa hVa2 hVb h0 h01
            clear m1' m2'
            go_wp2_with fail
            refine(rInt_any _ _).mono ?_
            rintro r w1 ⟨rfl,hE2⟩
            obtain⟨z0,z1,z2,z3⟩:=(HBz.out.ext (hEab.trans hE2)).cells
            obtain⟨f0,f1,f2,f3⟩:=(HBz.out.ext (hEab.trans hE2)).free
            simp only[vzero]at z0 z1 z2 z3
            go_wp2_with fail
            refine bodyPost_ret (v:=.agg #[.int .i64 1,.int .i64 (min p q),.bool false,.string ⟨#[]⟩]) (by simp only[results,Tryz.results103];go_simp) rfl ⟨by(rw[HT.out]);first|done|rfl,vset_ext ((hE3.trans hEab).trans hE2) (by omega)⟩
           ·have HT:=zU (show(e.val x).vl.v=.agg #[.int .i64 1,.int .i64 (max p q),.bool false,.string ⟨#[]⟩] by
             rw[HV.out,h6]
             have h5:(Ex.vals x e.l).getD 0 .nil=.int p:=by rw[Ex.vals_map];simp[zD,h0,hp]
             have h7:(Ex.vals x e.l).getD 1 .nil=.int q:=by rw[Ex.vals_map];simp[zD,h01,hq]
             simp only[vrule,h5,h7]
             rfl)
            have hyp:ya=⟨1,p,false,[]⟩:=by rw[←HYA.out,hp];rfl
            have hyq:yb=⟨1,q,false,[]⟩:=by rw[←HYB.out,hq];rfl
            subst hyp
            subst hyq
            obtain⟨p0,p1',p2',p3⟩:=hVa2.cells
            obtain⟨q0,q1',q2',q3⟩:=hVb.cells
            rw[h6]at y0b
            clear HYA HYB hp hq h6 h1 h2 h3 t1 t2 t3 y0 y0' HVa hVa hVa2 hVb h0 h01
            clear m1' m2'
            go_wp2_with fail
            refine(rInt_any _ _).mono ?_
            rintro r w1 ⟨rfl,hE2⟩
            obtain⟨z0,z1,z2,z3⟩:=(HBz.out.ext (hEab.trans hE2)).cells
            obtain⟨f0,f1,f2,f3⟩:=(HBz.out.ext (hEab.trans hE2)).free
            simp only[vzero]at z0 z1 z2 z3
            go_wp2_with fail
            refine bodyPost_ret (v:=.agg #[.int .i64 1,.int .i64 (max p q),.bool false,.string ⟨#[]⟩]) (by simp only[results,Tryz.results103];go_simp) rfl ⟨by(rw[HT.out]);first|done|rfl,vset_ext ((hE3.trans hEab).trans hE2) (by omega)⟩
          ·have h613:e.op=13:=by
            rcases HRT.out.inv with⟨h6,_⟩|⟨h6,_⟩|⟨h6,_⟩|⟨h6,_⟩|⟨h6,_⟩|⟨h6,_⟩|⟨h6,_⟩|⟨h6,_⟩<;>omega
           obtain⟨p,hp,h02⟩ :∃p,(e.l[0]).val x=.bool p∧2<e.l.length:=by
            rcases HRT.out.inv with⟨h6,_⟩|⟨h6,_⟩|⟨h6,_⟩|⟨h6,_⟩|⟨h6,_⟩|⟨h6,_⟩|⟨h6,_⟩|⟨_,a,b,c,hl,ha,hb,hc⟩
            ·exfalso;omega
            ·exfalso;omega
            ·exfalso;omega
            ·exfalso;omega
            ·exfalso;omega
            ·exfalso;omega
            ·exfalso;omega
            ·obtain⟨p,hp⟩:=(val_hasB x ha).b
             exact⟨p,by simpa[hl]using hp,by rw[hl];simp⟩
           obtain⟨yc,hyc⟩ :∃yc,((e.l[2]).val x).vl=yc:=⟨_,rfl⟩
           have HYC:=zU hyc
           have HT:=zU (show(e.val x).vl=if p=true then yb else yc by
            rw[HV.out,h613]
            have h5:(Ex.vals x e.l).getD 0 .nil=.bool p:=by rw[Ex.vals_map];simp[zD,h0,hp]
            have h7:(Ex.vals x e.l).getD 1 .nil=(e.l[1]).val x:=by rw[Ex.vals_map];simp[zD,h01]
            have h8:(Ex.vals x e.l).getD 2 .nil=(e.l[2]).val x:=by rw[Ex.vals_map];simp[zD,h02]
            simp only[vrule,h5,h7,h8]
            cases p
            ·exact hyc
            ·exact HYB.out)
           have hyp:ya=⟨2,0,p,[]⟩:=by rw[←HYA.out,hp];rfl
           subst hyp
           obtain⟨p0,p1',p2',p3⟩:=hVa2.cells
           obtain⟨q0,q1',q2',q3⟩:=hVb.cells
           rw[h613]at y0b
           clear HYA HYB hp h6 h1 h2 h3 t1 t2 t3 y0 y0' HVa hVa hVa2 hVb h0 h613 hyc h45 h67 h813
           cases p with
           | true=>
            obtain⟨z0,z1,z2,z3⟩:=(HBz.out.ext hEab).cells
            obtain⟨f0,f1,f2,f3⟩:=(HBz.out.ext hEab).free
            simp only[vzero]at z0 z1 z2 z3
            go_wp2_with fail
            refine bodyPost_ret (v:=.agg #[.int .i64 yb.ty,.int .i64 yb.n,.bool yb.b,.string ⟨yb.s.toArray⟩]) (by simp only[results,Tryz.results103];go_simp) rfl ⟨by(rw[HT.out]);first|done|rfl,vset_ext (hE3.trans hEab) (by omega)⟩
           | false=>
            obtain⟨b,o,A',c',rfl,hb,hOne,hC⟩:=HIH.out 2 h02
            have hbw:b<w.heap.size:=hb
            have HOne:=zU hOne
            rw[HYC.out]at hC
            simp only[Ex.cells,En.v,Vl.v]at hC
            have HC:=zU hC
            have h2l:2<e.l.length:=h02
            clear hC hOne hb
            generalize e.l[2]=y at *
            go_wp2_with fail
            apply wp_region_seq (l:=[_,_,_,_,_,_]) (t:=[_]) [some 118,some 119,some 120,some 121,some 122,some 123,none] [[],[0],[1],[2],[],[3,4],[5]] [6,6,6,6,6,6] [eqv _,eqv _,eqv _,eqv _,eqv _,(eqv (.agg #[.int .i64 yc.ty,.int .i64 yc.n,.bool yc.b,.string ⟨yc.s.toArray⟩]))] (by kernel_rfl) (by kernel_rfl) ⟨?o0,?o1,?o2,?o3,?o4,?o5,trivial⟩ ?last
            case o0=>
             intro xv W hE _
             simp only[putD,zC,zF]
             refine OpGoal.plain ?_
             go_wp2_with fail
             exact⟨rfl,Ext.refl _,rfl⟩
            case o1|o4=>
             intro xv W hE hp
             try have q0:xv _=_:=hp.1
             clear hp
             have hEw:Ext w3 W:=hEab.trans ((Ext.drew wc).trans hE)
             obtain⟨_,_,_,_,_,_,_,q6⟩:=HBx.out.ext hEw
             obtain⟨q7,q8,q9,q10,q11,q12,q13⟩:=HOne.out.ext hbw (hE3.trans hEw)
             simp only[zT,zQ,zP,zS,zO,zR]at q7 q8 q9 q10 q11 q12 q13
             obtain⟨_,m1,m2,m3,m4,m5,m6,m7,m8,m9⟩:=HBy.out.ext hEw
             simp only[putD,zC,zB,zF,zE,Act.put,zL,zN,zM]
             refine OpGoal.plain ?_
             go_wp2_with fail
             exact⟨rfl,Ext.refl _,rfl⟩
            case o2=>
             intro xv W hE hp
             have r1:xv 1=_:=hp.1
             clear hp
             simp only[putD,zC,zB,zF,zE,Act.put,zL,zN,zM]
             refine OpGoal.plain ?_
             go_wp2_with fail
             exact⟨rfl,Ext.refl _,rfl⟩
            case o3=>
             intro xv W hE hp
             have r2:xv 2=_:=hp.1
             clear hp
             have hEw:Ext w3 W:=hEab.trans ((Ext.drew wc).trans hE)
             obtain⟨_,_,_,_,_,_,_,q6⟩:=HBx.out.ext hEw
             obtain⟨q7,q8,q9,q10,q11,q12,q13⟩:=HOne.out.ext hbw (hE3.trans hEw)
             simp only[zT,zQ,zP,zS,zO,zR]at q7 q8 q9 q10 q11 q12 q13
             obtain⟨_,m1,m2,m3,m4,m5,m6,m7,m8,m9⟩:=HBy.out.ext hEw
             simp only[putD,zC,zB,zF,zE,Act.put,zL,zN,zM]
             refine OpGoal.plain ?_
             go_wp2_with fail
             exact⟨rfl,Ext.refl _,rfl⟩
            case o5=>
             intro xv W hE hp
             have r3:xv 3=_:=hp.1
             have r4:xv 4=_:=hp.2.1
             clear hp
             simp only[putD,zC,zB,zF,zE,Act.put,zL,zN,zM]
             refine OpGoal.plain ?_
             go_wp2_with fail
             refine(HC.out _ (hE3.trans (hEab.trans ((Ext.drew wc).trans hE)))).mono ?_
             rintro r w' ⟨rfl,hE5⟩
             go_wp2_with fail
             exact⟨rfl,hE5,rfl⟩
            case last=>
             intro xv W hE hp
             have r0:xv 0=_:=hp.1
             have r1:xv 1=_:=hp.2.1
             have r2:xv 2=_:=hp.2.2.1
             have r3:xv 3=_:=hp.2.2.2.1
             have r4:xv 4=_:=hp.2.2.2.2.1
             have r5:xv 5=_:=hp.2.2.2.2.2.1
             clear hp
             simp only[putD,zC,zB,zF,zE,Act.put,zG,zH,zJ,zK,zI,zA,zL,zN,zM]
             have hEw:Ext w3 W:=hEab.trans ((Ext.drew wc).trans hE)
             rw[r5]
             obtain⟨z0,z1,z2,z3⟩:=(HBz.out.ext hEw).cells
             obtain⟨f0,f1,f2,f3⟩:=(HBz.out.ext hEw).free
             simp only[vzero]at z0 z1 z2 z3
             clear r0 r1 r2 r3 r4 r5
             go_wp2_with fail
             refine bodyPost_ret (v:=.agg #[.int .i64 yc.ty,.int .i64 yc.n,.bool yc.b,.string ⟨yc.s.toArray⟩]) (by simp only[results,Tryz.results103];go_simp) rfl ⟨by(rw[HT.out]);first|done|rfl,vset_ext (hE3.trans hEw) (by omega)⟩
end Go.Proofs.YtmiencglfhpmeaaGreatDoor
namespace Go.Proofs.YtmiencglfhpmeaaGreatDoor
open Go.RowKit Hach
def chkT (e:Ex):Int:=if 60<e.size then 0 else e.typed
def chkE (e:Ex):Int:=if 60<e.size then 2 else if e.typed=0 then 30 else 0
def evV (e:Ex) (x:En):Vl:=if chkE e=0 then(e.val x).vl else vzero
theorem chk_rt {e:Ex}(h:chkE e=0):Rt e (chkT e)∧e.size≤60:=by
 unfold chkE at h
 unfold chkT
 by_cases h1:60<e.size
 ·rw[if_pos h1]at h;cases h
 ·rw[if_neg h1]at h ⊢
  by_cases h2:e.typed=0
  ·rw[if_pos h2]at h;cases h
  ·exact⟨rt_of h2,by omega⟩
set_option maxRecDepth 100000 in
set_option maxHeartbeats 2000000 in
theorem Check_any (e:Ex) (d:Nat) (A:Option Addr) (c:Nat) (w:World)
  (hX:ExB w w.heap.size d A e.l) (hsz:e.size<1099511627776) (hok:e.ok) :
  Calls Tryz.prog 69 #[.agg (e.cells A c).toArray] w fun r w'=>r=.returned (.tuple #[.int .i64 (chkT e),.int .i64 (chkE e)])∧Ext w w':=by
 obtain⟨w0,hw0⟩ :∃w0,w.alloc (.cells (e.cells A c).toArray 47)=w0:=⟨_,rfl⟩
 have hE0:Ext w w0:=by rw[←hw0];exact Ext.alloc _ _
 have hBx:Box w0 w.heap.size e A c:=by rw[←hw0];exact Box.new w e A c 47
 have HSZ:=zU (fun(W:World) (h:Ext w W)=>Size_any d e A c W (hX.ext h) hsz)
 have HTY:=zU (fun(W:World) (h:Ext w W)=>typed_any d e A c W (hX.ext h) hsz hok)
 have HS:=zU hsz
 unfold Ex.cells at hw0 HSZ HTY ⊢
 have HW:=zU hw0
 have HBx:=zU hBx
 obtain⟨_,y0,y1,y2,y3,y4,y5,y6⟩:=hBx
 clear hw0 hX hok hsz
 go_enter Tryz.func69,Tryz.ntmps69
 go_upto_region 1 with fail
 rw[HW.out]
 go_wp2_with fail
 refine(HSZ.out _ hE0).mono ?_
 rintro r w1 ⟨rfl,hE1⟩
 have hs64:e.size<9223372036854775808:=by have:=HS.out;omega
 obtain⟨_,y0,y1,y2,y3,y4,y5,y6⟩:=HBx.out.ext hE1
 by_cases hs:60<e.size
 ·have t1:decide ((60:Int)<(e.size:Int))=true:=by simp;omega
  have HT:=zU (show chkT e=0∧chkE e=2 by unfold chkT chkE;rw[if_pos hs,if_pos hs];exact⟨rfl,rfl⟩)
  clear hs
  go_wp2_with fail
  go_ret2
  exact⟨by rw[HT.out.1,HT.out.2];rfl,hE0.trans hE1⟩
 ·have t1:decide ((60:Int)<(e.size:Int))=false:=by simp;omega
  have HT:=zU (show chkT e=e.typed∧chkE e=if e.typed=0 then 30 else 0 by unfold chkT chkE;rw[if_neg hs,if_neg hs];exact⟨rfl,rfl⟩)
  clear hs
  go_wp2_with fail
  refine(HTY.out _ (hE0.trans hE1)).mono ?_
  rintro r w2 ⟨rfl,hE2⟩
  generalize e.typed=T at *
  by_cases ht:T=0
  ·have t2:(T == 0)=true:=by simp[ht]
   have HT2:=zU (show chkT e=0∧chkE e=30 by rw[HT.out.1,HT.out.2,if_pos ht];exact⟨ht,rfl⟩)
   clear ht
   go_wp2_with fail
   go_ret2
   exact⟨by rw[HT2.out.1,HT2.out.2];rfl,(hE0.trans hE1).trans hE2⟩
  ·have t2:(T == 0)=false:=by simpa using ht
   have HT2:=zU (show chkT e=T∧chkE e=0 by rw[HT.out.1,HT.out.2,if_neg ht];exact⟨rfl,rfl⟩)
   clear ht
   go_wp2_with fail
   go_ret2
   exact⟨by rw[HT2.out.1,HT2.out.2];rfl,(hE0.trans hE1).trans hE2⟩
set_option maxRecDepth 100000 in
set_option maxHeartbeats 2000000 in
theorem rCheck_any (e:Ex) (d:Nat) (A:Option Addr) (c:Nat) (w:World)
  (hX:ExB w w.heap.size d A e.l) (hsz:e.size<1099511627776) (hok:e.ok) :
  Calls Tryz.prog 102 #[.agg (e.cells A c).toArray] w fun r w'=>r=.returned (.tuple #[.int .i64 (chkT e),.int .i64 (chkE e)])∧Ext w w':=by
 obtain⟨w0,hw0⟩ :∃w0,w.alloc (.cells (e.cells A c).toArray 47)=w0:=⟨_,rfl⟩
 have hE0:Ext w w0:=by rw[←hw0];exact Ext.alloc _ _
 have hBx:Box w0 w.heap.size e A c:=by rw[←hw0];exact Box.new w e A c 47
 have HSZ:=zU (fun(W:World) (h:Ext w W)=>rSize_any d e A c W (hX.ext h) hsz)
 have HTY:=zU (fun(W:World) (h:Ext w W)=>typeOf_any d e A c W (hX.ext h) hsz hok)
 have HS:=zU hsz
 unfold Ex.cells at hw0 HSZ HTY ⊢
 have HW:=zU hw0
 have HBx:=zU hBx
 obtain⟨_,y0,y1,y2,y3,y4,y5,y6⟩:=hBx
 clear hw0 hX hok hsz
 go_enter Tryz.func102,Tryz.ntmps102
 go_upto_region 1 with fail
 rw[HW.out]
 go_wp2_with fail
 refine(HSZ.out _ hE0).mono ?_
 rintro r w1 ⟨rfl,hE1⟩
 have hs64:e.size<9223372036854775808:=by have:=HS.out;omega
 obtain⟨_,y0,y1,y2,y3,y4,y5,y6⟩:=HBx.out.ext hE1
 by_cases hs:60<e.size
 ·have t1:decide ((60:Int)<(e.size:Int))=true:=by simp;omega
  have HT:=zU (show chkT e=0∧chkE e=2 by unfold chkT chkE;rw[if_pos hs,if_pos hs];exact⟨rfl,rfl⟩)
  clear hs
  go_wp2_with fail
  go_ret2
  exact⟨by rw[HT.out.1,HT.out.2];rfl,hE0.trans hE1⟩
 ·have t1:decide ((60:Int)<(e.size:Int))=false:=by simp;omega
  have HT:=zU (show chkT e=e.typed∧chkE e=if e.typed=0 then 30 else 0 by unfold chkT chkE;rw[if_neg hs,if_neg hs];exact⟨rfl,rfl⟩)
  clear hs
  go_wp2_with fail
  refine(HTY.out _ (hE0.trans hE1)).mono ?_
  rintro r w2 ⟨rfl,hE2⟩
  generalize e.typed=T at *
  by_cases ht:T=0
  ·have t2:(T == 0)=true:=by simp[ht]
   have HT2:=zU (show chkT e=0∧chkE e=30 by rw[HT.out.1,HT.out.2,if_pos ht];exact⟨ht,rfl⟩)
   clear ht
   go_wp2_with fail
   go_ret2
   exact⟨by rw[HT2.out.1,HT2.out.2];rfl,(hE0.trans hE1).trans hE2⟩
  ·have t2:(T == 0)=false:=by simpa using ht
   have HT2:=zU (show chkT e=T∧chkE e=0 by rw[HT.out.1,HT.out.2,if_neg ht];exact⟨rfl,rfl⟩)
   clear ht
   go_wp2_with fail
   go_ret2
   exact⟨by rw[HT2.out.1,HT2.out.2];rfl,(hE0.trans hE1).trans hE2⟩
set_option maxRecDepth 100000 in
set_option maxHeartbeats 2000000 in
theorem Eval_any (e:Ex) (x:En) (d:Nat) (A:Option Addr) (c:Nat) (w:World)
  (hX:ExB w w.heap.size d A e.l) (hsz:e.size<1099511627776) (hok:e.ok) :
  Calls Tryz.prog 26 #[.agg (e.cells A c).toArray,x.v] w fun r w'=>r=.returned (.tuple #[(evV e x).v,.int .i64 (chkE e)])∧Ext w w':=by
 obtain⟨w3,hw3⟩ :∃w3,((w.alloc (.cells (e.cells A c).toArray 47)).alloc (.cells x.cells 28)).alloc (.cells #[.int .i64 0,.int .i64 0,.bool false,.string ⟨#[]⟩] 44)=w3:=⟨_,rfl⟩
 have hE3:Ext w w3:=by rw[←hw3];exact((Ext.alloc _ _).trans (Ext.alloc _ _)).trans (Ext.alloc _ _)
 have hBx:Box w3 w.heap.size e A c:=by rw[←hw3];exact((Box.new w e A c 47).ext (Ext.alloc _ _)).ext (Ext.alloc _ _)
 have hBy:EnBox w3 (w.heap.size+1) x:=by
  have h1:=EnBox.new (w.alloc (.cells (e.cells A c).toArray 47)) x 28
  rw[World.size_alloc]at h1
  rw[←hw3];exact h1.ext (Ext.alloc _ _)
 have hBz:V4 w3 (w.heap.size+2) vzero:=by
  have h1:=V4.new ((w.alloc (.cells (e.cells A c).toArray 47)).alloc (.cells x.cells 28))
  rw[World.size_alloc,World.size_alloc]at h1
  rw[←hw3];exact h1
 have HCK:=zU (fun(W:World) (h:Ext w W)=>Check_any e d A c W (hX.ext h) hsz hok)
 have HEV:=zU (show evV e x=if chkE e=0 then(e.val x).vl else vzero from rfl)
 unfold Ex.cells En.cells at hw3
 unfold Ex.cells at HCK
 have HW:=zU hw3
 have HBx:=zU hBx
 have HBy:=zU hBy
 have HBz:=zU hBz
 obtain⟨_,y0,y1,y2,y3,y4,y5,y6⟩:=hBx
 have hl2:=hBz.lt
 clear hw3 hsz hBy hBz
 by_cases hc:chkE e=0
 ·have t1:(chkE e != 0)=false:=by simp[hc]
  have HVL:=zU (fun(W:World) (h:Ext w W)=>eval_any x d e (chkT e) A c W (chk_rt hc).1 (hX.ext h) hok)
  have HEV2:=zU (show evV e x=(e.val x).vl by rw[HEV.out,if_pos hc])
  have HC0:=zU hc
  unfold Ex.cells En.v at *
  clear hc hX hok HEV
  generalize hT:chkT e=T at *
  generalize hE':chkE e=E at *
  clear hT hE'
  go_enter Tryz.func26,Tryz.ntmps26
  go_upto_region 1 with fail
  rw[HW.out]
  go_wp2_with fail
  refine(HCK.out _ hE3).mono ?_
  rintro r w1 ⟨rfl,hE1⟩
  obtain⟨_,y0,y1,y2,y3,y4,y5,y6⟩:=HBx.out.ext hE1
  obtain⟨_,m1,m2,m3,m4,m5,m6,m7,m8,m9⟩:=HBy.out.ext hE1
  go_wp2_with fail
  refine(HVL.out _ (hE3.trans hE1)).mono ?_
  rintro r w2 ⟨rfl,hE2⟩
  generalize e.val x=u at *
  go_wp2_with fail
  refine(wrap_any u _).mono ?_
  rintro r w4 ⟨rfl,hE4⟩
  generalize u.vl=y at *
  unfold Vl.v
  have hE24:=hE2.trans hE4
  obtain⟨z0,z1,z2,z3⟩:=(HBz.out.ext (hE1.trans hE24)).cells
  obtain⟨f0,f1,f2,f3⟩:=(HBz.out.ext (hE1.trans hE24)).free
  simp only[vzero]at z0 z1 z2 z3
  go_wp2_with fail
  refine bodyPost_ret (v:=.tuple #[.agg #[.int .i64 y.ty,.int .i64 y.n,.bool y.b,.string ⟨y.s.toArray⟩],.int .i64 0]) (by simp only[results,Tryz.results26];go_simp) rfl ⟨by rw[HEV2.out,HC0.out];rfl,vset_ext ((hE3.trans hE1).trans hE24) (by omega)⟩
 ·have t1:(chkE e != 0)=true:=by simpa using hc
  have HEV2:=zU (show evV e x=vzero by rw[HEV.out,if_neg hc])
  unfold En.v
  clear hc hX hok HEV
  generalize hT:chkT e=T at *
  generalize hE':chkE e=E at *
  clear hT hE'
  unfold Ex.cells
  go_enter Tryz.func26,Tryz.ntmps26
  go_upto_region 1 with fail
  rw[HW.out]
  go_wp2_with fail
  refine(HCK.out _ hE3).mono ?_
  rintro r w1 ⟨rfl,hE1⟩
  obtain⟨z0,z1,z2,z3⟩:=(HBz.out.ext hE1).cells
  obtain⟨f0,f1,f2,f3⟩:=(HBz.out.ext hE1).free
  simp only[vzero]at z0 z1 z2 z3
  go_wp2_with fail
  refine bodyPost_ret (v:=.tuple #[.agg #[.int .i64 0,.int .i64 0,.bool false,.string ⟨#[]⟩],.int .i64 E]) (by simp only[results,Tryz.results26];go_simp) rfl ⟨by rw[HEV2.out];rfl,vset_ext (hE3.trans hE1) (by omega)⟩
set_option maxRecDepth 100000 in
set_option maxHeartbeats 2000000 in
theorem rEval_any (e:Ex) (x:En) (d:Nat) (A:Option Addr) (c:Nat) (w:World)
  (hX:ExB w w.heap.size d A e.l) (hsz:e.size<1099511627776) (hok:e.ok) :
  Calls Tryz.prog 81 #[.agg (e.cells A c).toArray,x.v] w fun r w'=>r=.returned (.tuple #[(evV e x).v,.int .i64 (chkE e)])∧Ext w w':=by
 obtain⟨w3,hw3⟩ :∃w3,((w.alloc (.cells (e.cells A c).toArray 47)).alloc (.cells x.cells 28)).alloc (.cells #[.int .i64 0,.int .i64 0,.bool false,.string ⟨#[]⟩] 44)=w3:=⟨_,rfl⟩
 have hE3:Ext w w3:=by rw[←hw3];exact((Ext.alloc _ _).trans (Ext.alloc _ _)).trans (Ext.alloc _ _)
 have hBx:Box w3 w.heap.size e A c:=by rw[←hw3];exact((Box.new w e A c 47).ext (Ext.alloc _ _)).ext (Ext.alloc _ _)
 have hBy:EnBox w3 (w.heap.size+1) x:=by
  have h1:=EnBox.new (w.alloc (.cells (e.cells A c).toArray 47)) x 28
  rw[World.size_alloc]at h1
  rw[←hw3];exact h1.ext (Ext.alloc _ _)
 have hBz:V4 w3 (w.heap.size+2) vzero:=by
  have h1:=V4.new ((w.alloc (.cells (e.cells A c).toArray 47)).alloc (.cells x.cells 28))
  rw[World.size_alloc,World.size_alloc]at h1
  rw[←hw3];exact h1
 have HCK:=zU (fun(W:World) (h:Ext w W)=>rCheck_any e d A c W (hX.ext h) hsz hok)
 have HEV:=zU (show evV e x=if chkE e=0 then(e.val x).vl else vzero from rfl)
 unfold Ex.cells En.cells at hw3
 unfold Ex.cells at HCK
 have HW:=zU hw3
 have HBx:=zU hBx
 have HBy:=zU hBy
 have HBz:=zU hBz
 obtain⟨_,y0,y1,y2,y3,y4,y5,y6⟩:=hBx
 have hl2:=hBz.lt
 clear hw3 hsz hBy hBz
 by_cases hc:chkE e=0
 ·have t1:(chkE e != 0)=false:=by simp[hc]
  have HVL:=zU (fun(W:World) (h:Ext w W)=>value_any x d e (chkT e) A c W (chk_rt hc).1 (hX.ext h))
  have HEV2:=zU (show evV e x=(e.val x).vl by rw[HEV.out,if_pos hc])
  have HC0:=zU hc
  unfold Ex.cells En.v at *
  clear hc hX hok HEV
  generalize hT:chkT e=T at *
  generalize hE':chkE e=E at *
  clear hT hE'
  go_enter Tryz.func81,Tryz.ntmps81
  go_upto_region 1 with fail
  rw[HW.out]
  go_wp2_with fail
  refine(HCK.out _ hE3).mono ?_
  rintro r w1 ⟨rfl,hE1⟩
  obtain⟨_,y0,y1,y2,y3,y4,y5,y6⟩:=HBx.out.ext hE1
  obtain⟨_,m1,m2,m3,m4,m5,m6,m7,m8,m9⟩:=HBy.out.ext hE1
  go_wp2_with fail
  refine(HVL.out _ (hE3.trans hE1)).mono ?_
  rintro r w2 ⟨rfl,hE2⟩
  generalize (e.val x).vl=y at *
  unfold Vl.v
  have hE24:=hE2
  obtain⟨z0,z1,z2,z3⟩:=(HBz.out.ext (hE1.trans hE24)).cells
  obtain⟨f0,f1,f2,f3⟩:=(HBz.out.ext (hE1.trans hE24)).free
  simp only[vzero]at z0 z1 z2 z3
  go_wp2_with fail
  refine bodyPost_ret (v:=.tuple #[.agg #[.int .i64 y.ty,.int .i64 y.n,.bool y.b,.string ⟨y.s.toArray⟩],.int .i64 0]) (by simp only[results,Tryz.results81];go_simp) rfl ⟨by rw[HEV2.out,HC0.out];rfl,vset_ext ((hE3.trans hE1).trans hE24) (by omega)⟩
 ·have t1:(chkE e != 0)=true:=by simpa using hc
  have HEV2:=zU (show evV e x=vzero by rw[HEV.out,if_neg hc])
  unfold En.v
  clear hc hX hok HEV
  generalize hT:chkT e=T at *
  generalize hE':chkE e=E at *
  clear hT hE'
  unfold Ex.cells
  go_enter Tryz.func81,Tryz.ntmps81
  go_upto_region 1 with fail
  rw[HW.out]
  go_wp2_with fail
  refine(HCK.out _ hE3).mono ?_
  rintro r w1 ⟨rfl,hE1⟩
  obtain⟨z0,z1,z2,z3⟩:=(HBz.out.ext hE1).cells
  obtain⟨f0,f1,f2,f3⟩:=(HBz.out.ext hE1).free
  simp only[vzero]at z0 z1 z2 z3
  go_wp2_with fail
  refine bodyPost_ret (v:=.tuple #[.agg #[.int .i64 0,.int .i64 0,.bool false,.string ⟨#[]⟩],.int .i64 E]) (by simp only[results,Tryz.results81];go_simp) rfl ⟨by rw[HEV2.out];rfl,vset_ext (hE3.trans hE1) (by omega)⟩
end Go.Proofs.YtmiencglfhpmeaaGreatDoor
