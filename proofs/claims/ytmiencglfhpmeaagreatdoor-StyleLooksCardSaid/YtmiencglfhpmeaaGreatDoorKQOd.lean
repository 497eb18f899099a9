/- The law StyleLooks: its walk (printed by gen_od.py). -/
import Derived.Test.YtmiencglfhpmeaaGreatDoorKQSo
import Derived.Test.YtmiencglfhpmeaaGreatDoorKQSh
open List renaming cons_append → zA, foldl_cons → zB, foldl_nil → zC, getD_cons_succ → zD, getD_cons_zero → zE, getElem?_toArray → zF, getElem_mem → zG, length_cons → zH, length_nil → zI, nil_append → zJ, range_succ → zK, range_zero → zL, setIfInBounds_toArray → zM, set_cons_succ → zN, set_cons_zero → zO
open Nat renaming zero_le → zP
open Array renaming getElem?_eq_some_iff → zQ
open Go.Lib renaming hid → zR
set_option linter.unusedSimpArgs false
set_option linter.unusedVariables false
namespace Go.Proofs.YtmiencglfhpmeaaGreatDoor
open Go.RowKit Hach
theorem infoEv9:(Tryz.prog.info? 28).map (·.size)=some 9:=by kernel_rfl
theorem info2E:(Tryz.prog.info? 35).map (·.size)=some 18:=by kernel_rfl
theorem infoLk':(Tryz.prog.info? 39).map (·.size)=some 3:=by kernel_rfl
theorem load_V {ops:Array Oper}{rest:List Oper}{op:Oper}{a:Act}{w:World}{Q:Exit→Act→World→Prop}(hgd:op.guard=none) (x:Operand) (ho:op.op=.load 28 x) (b o:Nat) (cs:List Value) (hr:w.rangeAt b o cs) (h7:cs.length=9)
  (hx:a.eval x=.pointer (some ⟨b,o,none⟩)) (h:wpList Tryz.prog ops Q rest (a.put op.dst (.agg cs.toArray)) w):wpList Tryz.prog ops Q (op::rest) a w:=by
 obtain⟨i0,hi,hz1⟩:=info_siz infoEv9
 exact wpList_load_mid hgd _ x ho b o hx cs _ hr Tryz.underlying28 rfl (by rw[hi];simp[hz1,h7]) h
theorem getM {W:World}{g:Nat}{Z X:Array Value}{T:TypeId}(hz:W.heap[g]?=some (.cells Z T (0,0))∨W.heap[g]?=some (.cells X T (0,0))) {n:Nat}(h1:Z.toList.length=n) (h2:X.toList.length=n) :∃C:List Value,W.heap[g]?=some (.cells C.toArray T (0,0))∧C.length=n:=by
 rcases hz with h|h
 ·exact⟨Z.toList,by simpa using h,h1⟩
 ·exact⟨X.toList,by simpa using h,h2⟩
def evL (x:En):List Value:=[.int .i64 x.kind,.string ⟨x.cls.toArray⟩,.string ⟨x.name.toArray⟩,.int .i64 x.weight,.int .i64 x.level,.bool x.stairs,.int .i64 x.scale,.int .i64 x.hour,.int .i64 x.reader]
theorem ev_one (x:En) :∀v∈evL x,v.oneCell'=true:=by
 intro v hv
 unfold evL at hv
 simp only[List.mem_cons,List.mem_nil_iff,or_false]at hv
 rcases hv with rfl|rfl|rfl|rfl|rfl|rfl|rfl|rfl|rfl<;>rfl
theorem ev2_one (x y:En) :∀v∈evL x++evL y,v.oneCell'=true:=fun v hv=>(List.mem_append.1 hv).elim (ev_one x v) (ev_one y v)
theorem ev2_rng {W:World}{g:Nat}{T:TypeId}{x y:En}(h:W.heap[g]?=some (.cells (evL x++evL y).toArray T (0,0))) :∀k,k<2 →∃z:En,W.rangeAt g (k*9) (evL z):=by
 intro k hk
 rcases(by omega:k=0∨k=1) with rfl|rfl
 ·refine⟨x,fun j v hj=>?_⟩
  have hl:=(List.getElem?_eq_some_iff.1 hj).1
  refine cells_of h _ v ?_
  simp only[Nat.zero_mul,Nat.zero_add,zF]
  rw[List.getElem?_append_left hl];exact hj
 ·refine⟨y,fun j v hj=>?_⟩
  refine cells_of h _ v ?_
  simp only[zF]
  have hl9:(evL x).length=9:=rfl
  rw[List.getElem?_append_right (by omega),hl9,show 1*9+j-9=j by omega];exact hj
def evSP:SP:=⟨fun v _ =>∃y:En,v=.agg #[.int .i64 y.kind,.string ⟨y.cls.toArray⟩,.string ⟨y.name.toArray⟩,.int .i64 y.weight,.int .i64 y.level,.bool y.stairs,.int .i64 y.scale,.int .i64 y.hour,.int .i64 y.reader],fun h _=>h⟩
def evSQ (x:En):SP:=⟨fun v _ =>∃y:En,v=.agg #[.int .i64 y.kind,.string ⟨y.cls.toArray⟩,.string ⟨y.name.toArray⟩,.int .i64 y.weight,.int .i64 y.level,.bool y.stairs,.int .i64 y.scale,.int .i64 y.hour,.int .i64 y.reader,.int .i64 x.kind,.string ⟨x.cls.toArray⟩,.string ⟨x.name.toArray⟩,.int .i64 x.weight,.int .i64 x.level,.bool x.stairs,.int .i64 x.scale,.int .i64 x.hour,.int .i64 x.reader],fun h _=>h⟩
set_option maxRecDepth 100000 in
set_option maxHeartbeats 8000000 in
theorem StyleLooks_any (A0:Option Addr) (n0 c0:Nat) (p0 p1 p2 q0 q1 q2:Int) (A1:Option Addr) (n1 c1:Nat) (x0:En) (w:World) (hT:Wr.Tabs w) (hL0:LI w A0 n0) (hL1:LI w A1 n1) (hx:x0.raw) :
  Calls Tryz.prog 3 #[.agg (ca7 A0 n0 c0 p0 p1 p2 q0 q1 q2),.slice A1 n1 c1,x0.v] w fun e w'=>e=.returned (.bool true)∧Ext w w':=by
 obtain⟨w1,hw1,hE1,hs1,hC,hZ⟩:=zero_boxes w (ca7 A0 n0 c0 p0 p1 p2 q0 q1 q2) (Ev_row x0) 26 28
 have HC:Hid (∀V,Ext w1 V→V.rangeAt w.heap.size 0 [.slice A0 n0 c0,.int .i64 p0,.int .i64 p1,.int .i64 p2,.int .i64 q0,.int .i64 q1,.int .i64 q2]):=zR fun V h j v hj=>by
  rw[Nat.zero_add];exact hC V h j v (by simpa[ca7]using hj)
 have HX0:Hid (∀V,Ext w1 V→EvB V (w.heap.size+1) x0):=zR fun V h=>hZ V h
 have HT:=zR (hT.ext hE1)
 have HL0:=zR (hL0.ext hE1)
 have HL1:=zR (hL1.ext hE1)
 have HE1:=zR hE1
 have HW1:=zR hw1
 have LC:=zR (fun(V:World)=>lawCut_any x0 hx V)
 obtain⟨xc,hxc⟩ :∃q,x0.cut 40=q:=⟨_,rfl⟩
 rw[hxc]at LC
 unfold ca7 Ev_row at HW1
 unfold En.v at LC
 unfold ca7 En.v
 clear hT hL0 hL1 hE1 hw1 hC hZ hx hxc hs1
 go_enter Tryz.func3,Tryz.ntmps3
 go_upto_region 1 with fail
 rw[HW1.out]
 clear HW1
 go_wp2_with fail
 refine(sanity_any w1 HT.out).mono ?_
 rintro e w2 ⟨rfl,hE2⟩
 have HE2:=zR hE2
 have zc:=HC.out w2 hE2
 have AL:=zR (all_any A0 n0 c0 p0 p1 p2 q0 q1 q2 w2 (HL0.out.ext hE2))
 unfold ca7 at AL
 clear hE2 HC
 go_wp2_with (refine load_C rfl _ rfl w.heap.size 0 _ zc rfl rfl ?_)
 refine AL.out.mono ?_
 rintro e w3 ⟨B0,B1,B2,k0,k1,k2,d0,d1,d2,l0,l1,l2,rfl,hR0,hR1,hR2,hE3⟩
 clear zc AL
 go_upto_region 3 with fail
 obtain⟨w4,hw4⟩ :∃q,w3.alloc (.cells #[.slice B0 l0.length k0,.slice B1 l1.length k1,.slice B2 l2.length k2] 31)=q:=⟨_,rfl⟩
 have hA:w4.heap[w3.heap.size]?=some (.cells #[.slice B0 l0.length k0,.slice B1 l1.length k1,.slice B2 l2.length k2] 31 (0,0)):=by rw[←hw4];exact Go.heap_alloc_new _ _
 have hE4:Ext w3 w4:=by rw[←hw4];exact Ext.alloc _ _
 obtain⟨b8,hb8⟩ :∃q,w3.heap.size=q:=⟨_,rfl⟩
 rw[hw4]
 rw[hb8]at hA ⊢
 have hAX :∀V,Ext w4 V→V.heap[b8]?=some (.cells #[.slice B0 l0.length k0,.slice B1 l1.length k1,.slice B2 l2.length k2] 31 (0,0)):=fun V h=>(h.below.block b8 (zQ.1 hA).1).trans hA
 have HR:Hid (∀i,i<3 →∃(A:Option Addr) (c d:Nat) (l:List Rl),(∀V,Ext w4 V→V.cell? ⟨b8,i,none⟩=some (.slice A l.length c))∧RowT w4 A c d l):=zR fun i hi=>by
  rcases(by omega:i=0∨i=1∨i=2) with rfl|rfl|rfl
  ·exact⟨B0,k0,d0,l0,fun V h=>cells_of (hAX V h) 0 _ rfl,hR0.ext hE4⟩
  ·exact⟨B1,k1,d1,l1,fun V h=>cells_of (hAX V h) 1 _ rfl,hR1.ext hE4⟩
  ·exact⟨B2,k2,d2,l2,fun V h=>cells_of (hAX V h) 2 _ rfl,hR2.ext hE4⟩
 obtain⟨N0,hN0⟩ :∃q,l0.length=q:=⟨_,rfl⟩
 have HH0:Hid (∀V,Ext w4 V→V.cell? ⟨b8,0,none⟩=some (.slice B0 N0 k0)):=zR fun V h=>by rw[←hN0];exact cells_of (hAX V h) 0 _ rfl
 have HR0:=zR (hR0.ext hE4)
 have HN0:=zR hN0
 have HE4:=zR ((HE2.out.trans hE3).trans hE4)
 clear hN0 hR0 hR1 hR2 hE3 hE4 hw4 hA hb8 hAX HE2
 apply wp_region_seq (l:=[_,_,_,_,_,_]) (t:=[_]) [some 22,some 23,some 24,some 25,some 26,some 9,none] [[],[0],[],[2],[1,3],[],[4,5]] [6,6,6,6,6,6] [eqv _,(evSP),(eqv (.agg #[.int .i64 x0.kind,.string ⟨x0.cls.toArray⟩,.string ⟨x0.name.toArray⟩,.int .i64 x0.weight,.int .i64 x0.level,.bool x0.stairs,.int .i64 x0.scale,.int .i64 x0.hour,.int .i64 x0.reader])),(eqv (.agg #[.int .i64 xc.kind,.string ⟨xc.cls.toArray⟩,.string ⟨xc.name.toArray⟩,.int .i64 xc.weight,.int .i64 xc.level,.bool xc.stairs,.int .i64 xc.scale,.int .i64 xc.hour,.int .i64 xc.reader])),(evSQ xc),(newV w4.heap.size 35 #[.int .i64 0,.string ⟨#[]⟩,.string ⟨#[]⟩,.int .i64 0,.int .i64 0,.bool false,.int .i64 0,.int .i64 0,.int .i64 0,.int .i64 0,.string ⟨#[]⟩,.string ⟨#[]⟩,.int .i64 0,.int .i64 0,.bool false,.int .i64 0,.int .i64 0,.int .i64 0])] (by kernel_rfl) (by kernel_rfl) ⟨?o0,?o1,?o2,?o3,?o4,?o5,trivial⟩ ?last
 case o0=>
  intro xv W hE _
  simp only[putD,zC,zE]
  refine OpGoal.plain ?_
  go_wp2_with fail
  exact⟨rfl,Ext.refl _,rfl⟩
 case o1=>
  intro xv W hE hp
  have r0:xv 0=_:=hp.1
  clear hp
  simp only[putD,zC,zB,zE,zD,Act.put,zM,zO,zN]
  refine OpGoal.plain ?_
  go_wp2_with fail
  refine(rEnv_any A1 n1 c1 W (HL1.out.ext (HE4.out.trans ((Ext.drew w4).trans hE)))).mono ?_
  rintro e w' ⟨y,rfl,hE9⟩
  unfold En.v
  go_wp2_with fail
  exact⟨rfl,hE9,y,rfl⟩
 case o2=>
  intro xv W hE _
  obtain⟨e0,e1,e2,e3,e4,e5,e6,e7,e8⟩:=(HX0.out W (HE4.out.trans ((Ext.drew w4).trans hE))).cells
  simp only[putD,zC,zE,zD]
  refine OpGoal.plain ?_
  go_wp2_with fail
  exact⟨rfl,Ext.refl _,rfl⟩
 case o3=>
  intro xv W hE hp
  have r2:xv 2=_:=hp.1
  clear hp
  simp only[putD,zC,zB,zE,zD,Act.put,zM,zO,zN]
  refine OpGoal.plain ?_
  go_wp2_with fail
  refine(LC.out W).mono ?_
  rintro e w' ⟨rfl,hE9⟩
  go_wp2_with fail
  exact⟨rfl,hE9,rfl⟩
 case o4=>
  intro xv W hE hp
  obtain⟨y1,r1⟩:=hp.1
  have r3:xv 3=_:=hp.2.1
  clear hp
  simp only[putD,zC,zB,zE,zD,Act.put,zM,zO,zN]
  refine OpGoal.plain ?_
  go_wp2_with fail
  exact⟨rfl,Ext.refl _,y1,rfl⟩
 case o5=>
  intro xv W hE _
  simp only[putD,zC,zE,zD]
  refine OpGoal.plain ?_
  go_wp2_with fail
  exact⟨rfl,Ext.alloc _ _,W.heap.size,rfl,((Ext.drew w4).trans hE).sz,Go.heap_alloc_new _ _⟩
 case last=>
  intro xv W hE hp
  have r0:xv 0=_:=hp.1
  obtain⟨y1,r1⟩:=hp.2.1
  have r2:xv 2=_:=hp.2.2.1
  have r3:xv 3=_:=hp.2.2.2.1
  obtain⟨y4,r4⟩:=hp.2.2.2.2.1
  obtain⟨g5,r5,lo5,hz5⟩:=hp.2.2.2.2.2.1
  clear hp
  simp only[putD,zC,zB,zE,zD,Act.put,zH,zI,zK,zL,zJ,zA,zM,zO,zN]
  have r4':xv 4=.agg #[.int .i64 y4.kind,.string ⟨y4.cls.toArray⟩,.string ⟨y4.name.toArray⟩,.int .i64 y4.weight,.int .i64 y4.level,.bool y4.stairs,.int .i64 y4.scale,.int .i64 y4.hour,.int .i64 y4.reader,.int .i64 xc.kind,.string ⟨xc.cls.toArray⟩,.string ⟨xc.name.toArray⟩,.int .i64 xc.weight,.int .i64 xc.level,.bool xc.stairs,.int .i64 xc.scale,.int .i64 xc.hour,.int .i64 xc.reader]:=r4
  rw[r4',r5]
  have HEW:=zR ((Ext.drew w4).trans hE)
  have hz:W.heap[g5]?=some (.cells ([.int .i64 0,.string ⟨#[]⟩,.string ⟨#[]⟩,.int .i64 0,.int .i64 0,.bool false,.int .i64 0,.int .i64 0,.int .i64 0,.int .i64 0,.string ⟨#[]⟩,.string ⟨#[]⟩,.int .i64 0,.int .i64 0,.bool false,.int .i64 0,.int .i64 0,.int .i64 0]:List Value).toArray 35 (0,0)):=hz5
  clear hE hz5 r0 r1 r2 r3 r4 r4' r5 HX0 LC HL0 HL1 HT
  go_upto_region 4 with(refine store_T 35 g5 [.int .i64 0,.string ⟨#[]⟩,.string ⟨#[]⟩,.int .i64 0,.int .i64 0,.bool false,.int .i64 0,.int .i64 0,.int .i64 0,.int .i64 0,.string ⟨#[]⟩,.string ⟨#[]⟩,.int .i64 0,.int .i64 0,.bool false,.int .i64 0,.int .i64 0,.int .i64 0] (evL y4++evL xc) hz rfl info2E (ev2_one _ _) rfl _ _ rfl rfl rfl ?_;intro wA hA hgA)
  have hEA:Ext w4 wA:=ext_fresh HEW.out hgA lo5
  have hrng:=ev2_rng hA
  have HEV:Hid (∀k,k<2 →∃z:En,∀V,Ext wA V→V.rangeAt g5 (k*9) (evL z)):=zR fun k hk=>by
   obtain⟨z,hz⟩:=hrng k hk
   exact⟨z,fun V h=>range_ext hz (zQ.1 hA).1 h⟩
  have HEA:=zR hEA
  have HEF:=zR (HE1.out.trans (HE4.out.trans hEA))
  clear hEA hrng hA hgA hz lo5 HEW HE4 HE1
  go_wp2_with fail
  go_loopw [10] (fun iv wr =>∃i:Nat,i≤3∧iv=.int .i64 (i:Int)∧Hid (Ext wA wr)) (fun iv _=>3-(intOf iv).toNat)
  case atStart=>exact⟨0,zP _,rfl,zR (Ext.refl _)⟩
  case round=>
   obtain⟨i,hi,rfl,HS⟩:=hrel
   obtain⟨wo,hwo⟩ :∃q,q=wr:=⟨_,rfl⟩
   subst hwo
   by_cases hi3:i<3
   ·have t3:decide ((i:Int)<3)=true:=by simp;omega
    obtain⟨A,c,d,l,hcl,hrow⟩:=HR.out i hi3
    have HCI:=zR (fun(V:World) (h:Ext wA V)=>hcl V (HEA.out.trans h))
    have HRI:=zR (fun(V:World) (h:Ext wA V)=>hrow.ext (HEA.out.trans h))
    have HCZ:=zR (fun(V:World) (h:Ext wA V)=>HH0.out V (HEA.out.trans h))
    have CK:=zR (fun(V:World) (h:Ext wA V)=>CheckL_any l A c d V (HRI.out V h).x (by have:=hrow.le;omega) hrow.c1 hrow.c2 fun r hr=>(hrow.ok r hr).1)
    have RK:=zR (fun(V:World) (h:Ext wA V)=>rCheckL_any l A c d V (HRI.out V h).x (by have:=hrow.le;omega) hrow.c1 hrow.c2 fun r hr=>(hrow.ok r hr).1)
    have LK:=zR (fun(x:En) (V:World) (h:Ext wA V)=>Look_any l x A c d V (HRI.out V h).x (by have:=hrow.le;omega) hrow.c1 hrow.c2 fun r hr=>(hrow.ok r hr).1)
    have RLK:=zR (fun(x:En) (V:World) (h:Ext wA V)=>rLook_any l x A c d V (HRI.out V h).x (by have:=hrow.le;omega) hrow.c1 hrow.c2 fun r hr=>(hrow.ok r hr).1)
    have hsm:=hrow.le
    obtain⟨N,hN⟩ :∃q,l.length=q:=⟨_,rfl⟩
    rw[hN]at HCI CK RK LK RLK hsm
    have HN:=zR hN
    obtain⟨ck,hck⟩ :∃q,chkL l=q:=⟨_,rfl⟩
    rw[hck]at CK RK
    clear hcl hrow hN hck hi
    go_upto_region 7 with fail
    apply wp_region_seq (l:=[_,_,_,_,_,_,_,_,_]) (t:=[]) [some 31,some 32,some 33,some 34,some 35,some 36,some 37,some 38,some 39] [[],[0],[1],[2],[],[4],[5],[6],[3,7]] [] [eqv _,eqv _,eqv _,(eqv (.int .i64 ck)),eqv _,eqv _,eqv _,(eqv (.int .i64 ck)),(eqv (.bool false))] (by kernel_rfl) (by kernel_rfl) ⟨?o0,?o1,?o2,?o3,?o4,?o5,?o6,?o7,?o8,trivial⟩ ?last
    case o0|o1|o4|o5=>
     intro xv W hE hp
     try have q0:xv _=_:=hp.1
     clear hp
     simp only[putD,zC,zB,zE,zD,Act.put,zM,zO,zN]
     refine OpGoal.plain ?_
     go_wp2_with fail
     exact⟨rfl,Ext.refl _,rfl⟩
    case o2|o6=>
     intro xv W hE hp
     try have q0:xv _=_:=hp.1
     clear hp
     have cci:=HCI.out W (HS.out.trans ((Ext.drew wo).trans hE))
     simp only[putD,zC,zB,zE,zD,Act.put,zM,zO,zN]
     refine OpGoal.plain ?_
     go_wp2_with fail
     exact⟨rfl,Ext.refl _,rfl⟩
    case o3=>
     intro xv W hE hp
     have r2:xv 2=_:=hp.1
     clear hp
     simp only[putD,zC,zB,zE,zD,Act.put,zM,zO,zN]
     refine OpGoal.plain ?_
     go_wp2_with fail
     refine(CK.out W (HS.out.trans ((Ext.drew wo).trans hE))).mono ?_
     rintro e w' ⟨rfl,hE9⟩
     go_wp2_with fail
     exact⟨rfl,hE9,rfl⟩
    case o7=>
     intro xv W hE hp
     have r6:xv 6=_:=hp.1
     clear hp
     simp only[putD,zC,zB,zE,zD,Act.put,zM,zO,zN]
     refine OpGoal.plain ?_
     go_wp2_with fail
     refine(RK.out W (HS.out.trans ((Ext.drew wo).trans hE))).mono ?_
     rintro e w' ⟨rfl,hE9⟩
     go_wp2_with fail
     exact⟨rfl,hE9,rfl⟩
    case o8=>
     intro xv W hE hp
     have r3:xv 3=_:=hp.1
     have r7:xv 7=_:=hp.2.1
     clear hp
     simp only[putD,zC,zB,zE,zD,Act.put,zM,zO,zN]
     refine OpGoal.plain ?_
     go_wp2_with fail
     refine⟨rfl,Ext.refl _,?_⟩
     first|rfl|simp
    case last=>
     intro xv W hE hp
     have r0:xv 0=_:=hp.1
     have r1:xv 1=_:=hp.2.1
     have r2:xv 2=_:=hp.2.2.1
     have r3:xv 3=_:=hp.2.2.2.1
     have r4:xv 4=_:=hp.2.2.2.2.1
     have r5:xv 5=_:=hp.2.2.2.2.2.1
     have r6:xv 6=_:=hp.2.2.2.2.2.2.1
     have r7:xv 7=_:=hp.2.2.2.2.2.2.2.1
     have r8:xv 8=_:=hp.2.2.2.2.2.2.2.2.1
     clear hp
     simp only[putD,zC,zB,zE,zD,Act.put,zH,zI,zK,zL,zJ,zA,zM,zO,zN]
     have HSW:=zR (HS.out.trans ((Ext.drew wo).trans hE))
     have r8':xv 8=.bool false:=r8
     rw[r8']
     clear hE r0 r1 r2 r3 r4 r5 r6 r7 r8 r8' CK RK
     go_wp2_with fail
     go_loopw [11] (fun kv wr =>∃k:Nat,k≤2∧kv=.int .i64 (k:Int)∧Hid (Ext wA wr)) (fun kv _=>2-(intOf kv).toNat)
     case atStart=>exact⟨0,zP _,rfl,HSW⟩
     case round=>
      obtain⟨k,hk,rfl,HK⟩:=hrel
      obtain⟨wk,hwk⟩ :∃q,q=wr:=⟨_,rfl⟩
      subst hwk
      by_cases hk2:k<2
      ·have t2:decide ((k:Int)<2)=true:=by simp;omega
       obtain⟨x,hx⟩:=HEV.out k hk2
       have HVK:=zR hx
       obtain⟨⟨⟨a,b,cc⟩,sl,er⟩,hlk⟩ :∃q,lookL l x=q:=⟨_,rfl⟩
       have LKX:=zR (fun(V:World) (h:Ext wA V)=>LK.out x V h)
       have RLX:=zR (fun(V:World) (h:Ext wA V)=>RLK.out x V h)
       unfold LookR Lk_row En.v at LKX RLX
       rw[hlk]at LKX RLX
       obtain⟨S,hS⟩ :∃q:ByteArray,(⟨sl.toArray⟩:ByteArray)=q:=⟨_,rfl⟩
       simp only[hS]at LKX RLX
       clear hx hlk hS hk
       have HXW1:=zR (fun(V:World) (h:OnceS wk.heap.size 39 Lk_zero (Lk_row (a,b,cc)) wk.drew V)=>(HK.out.trans ((Ext.drew wk).trans (show Ext wk.drew V from h.1)):Ext wA V))
       have HSZ1:=zR (fun(V:World) (h:OnceS wk.heap.size 39 Lk_zero (Lk_row (a,b,cc)) wk.drew V)=>(show wk.heap.size≤V.heap.size from h.1.size))
       go_upto_region 12 with fail
       apply wp_region_link (E:=OnceS wk.heap.size 39 Lk_zero (Lk_row (a,b,cc))) (OnceS.refl wk.heap.size 39 Lk_zero (Lk_row (a,b,cc))) (@OnceS.trans wk.heap.size 39 Lk_zero (Lk_row (a,b,cc))) (l:=[_,_,_,_,_,_,_,_,_,_,_,_,_,_]) (t:=[_]) [some 45,some 46,some 47,some 48,some 49,some 50,some 51,some 44,some 52,some 53,some 54,some 12,none,some 13,some 14] [[],[0],[1],[],[3],[4],[2,5],[6],[7],[7],[7],[],[8,11],[9],[10]] [14,14,14,14,14,14,14,14,14,14,14,14,14,14] [eql _,eql _,eql _,eql _,eql _,(eql (.agg #[.int .i64 x.kind,.string ⟨x.cls.toArray⟩,.string ⟨x.name.toArray⟩,.int .i64 x.weight,.int .i64 x.level,.bool x.stairs,.int .i64 x.scale,.int .i64 x.hour,.int .i64 x.reader])),(eql (.tuple #[.agg #[.int .i64 a,.int .i64 b,.int .i64 cc],.string S,.int .i64 er])),eql _,eql _,eql _,eql _,(newL wk.heap.size 39 Lk_zero (Lk_row (a,b,cc))),(putL wk.heap.size 39 Lk_zero (Lk_row (a,b,cc)) 11),eql _] (by kernel_rfl) (by kernel_rfl) (by kernel_rfl) ⟨?o0,?o1,?o2,?o3,?o4,?o5,?o6,?o7,?o8,?o9,?o10,?o11,?o12,?o13,trivial⟩ ?last
       case o0|o1|o3|o4=>
        intro xv W2 hE hp
        try have q0:xv _=_:=hp.1
        clear hp
        simp only[putD,zC,zB,zE,zD,Act.put,zM,zO,zN]
        refine OpGoal.plain ?_
        go_wp2_with fail
        exact⟨rfl,(OnceS.refl wk.heap.size 39 Lk_zero (Lk_row (a,b,cc))) _,rfl⟩
       case o2=>
        intro xv W2 hE hp
        have r1:xv 1=_:=hp.1
        clear hp
        have cci:=HCI.out W2 (HXW1.out W2 hE)
        simp only[putD,zC,zB,zE,zD,Act.put,zM,zO,zN]
        refine OpGoal.plain ?_
        go_wp2_with fail
        exact⟨rfl,(OnceS.refl wk.heap.size 39 Lk_zero (Lk_row (a,b,cc))) _,rfl⟩
       case o5=>
        intro xv W2 hE hp
        have r4:xv 4=_:=hp.1
        clear hp
        have cci:=HCI.out W2 (HXW1.out W2 hE)
        simp only[putD,zC,zB,zE,zD,Act.put,zM,zO,zN]
        refine OpGoal.plain ?_
        refine load_V rfl _ rfl g5 (k*9) _ (HVK.out W2 (HXW1.out W2 hE)) rfl r4 ?_
        go_wp2_with fail
        exact⟨rfl,(OnceS.refl wk.heap.size 39 Lk_zero (Lk_row (a,b,cc))) _,rfl⟩
       case o6=>
        intro xv W2 hE hp
        have r2:xv 2=_:=hp.1
        have r5:xv 5=_:=hp.2.1
        clear hp
        simp only[putD,zC,zB,zE,zD,Act.put,zM,zO,zN]
        refine OpGoal.plain ?_
        go_wp2_with fail
        refine(LKX.out W2 (HXW1.out W2 hE)).mono ?_
        rintro e w' ⟨rfl,hE9⟩
        go_wp2_with fail
        exact⟨rfl,OnceS.ext hE9 (HSZ1.out W2 hE),rfl⟩
       case o7|o8|o9|o10|o13=>
        intro xv W2 hE hp
        try have q0:xv _=_:=hp.1
        clear hp
        simp only[putD,zC,zB,zE,zD,Act.put,zM,zO,zN]
        refine OpGoal.plain ?_
        go_wp2_with fail
        exact⟨rfl,(OnceS.refl wk.heap.size 39 Lk_zero (Lk_row (a,b,cc))) _,rfl⟩
       case o11=>
        intro xv W2 hE _
        simp only[putD,zC,zE,zD]
        refine OpGoal.plain ?_
        go_wp2_with fail
        exact⟨rfl,OnceS.ext (Ext.alloc _ _) (HSZ1.out W2 hE),W2.heap.size,rfl,HSZ1.out W2 hE,.inl (Go.heap_alloc_new _ _)⟩
       case o12=>
        intro xv W2 hE hp
        have r8:xv 8=_:=hp.1
        obtain⟨g11,r11,lo11,hz11⟩:=hp.2.1
        clear hp
        simp only[putD,zC,zB,zE,zD,Act.put,zM,zO,zN]
        refine OpGoal.plain ?_
        obtain⟨C,hC,hC3⟩:=getM hz11 (n:=3) rfl rfl
        refine store_T 39 g11 C [.int .i64 a,.int .i64 b,.int .i64 cc] hC hC3 infoLk' (one3 _ _ _ rfl rfl rfl) rfl _ _ rfl r11 r8 ?_
        intro w' hx' hg'
        go_wp2_with fail
        exact⟨rfl,fun _=>⟨OnceS.put (HSZ1.out W2 hE) lo11 hz11 hx' hg',g11,r11,lo11,hx'⟩⟩
       case last=>
        intro xv W2 hE hp
        have r0:xv 0=_:=hp.1
        have r1:xv 1=_:=hp.2.1
        have r2:xv 2=_:=hp.2.2.1
        have r3:xv 3=_:=hp.2.2.2.1
        have r4:xv 4=_:=hp.2.2.2.2.1
        have r5:xv 5=_:=hp.2.2.2.2.2.1
        have r6:xv 6=_:=hp.2.2.2.2.2.2.1
        have r7:xv 7=_:=hp.2.2.2.2.2.2.2.1
        have r8:xv 8=_:=hp.2.2.2.2.2.2.2.2.1
        have r9:xv 9=_:=hp.2.2.2.2.2.2.2.2.2.1
        have r10:xv 10=_:=hp.2.2.2.2.2.2.2.2.2.2.1
        obtain⟨g11,r11,lo11,hz11⟩:=hp.2.2.2.2.2.2.2.2.2.2.2.1
        obtain⟨g12,r12,lo12,hx12⟩:=hp.2.2.2.2.2.2.2.2.2.2.2.2.1
        have r13:xv 13=_:=hp.2.2.2.2.2.2.2.2.2.2.2.2.2.1
        clear hp
        simp only[putD,zC,zB,zE,zD,Act.put,zH,zI,zK,zL,zJ,zA,zM,zO,zN]
        have HK1:=zR (HXW1.out W2 hE)
        have hlk:LkB W2 g12 (a,b,cc):=hx12
        have HLK1:=zR hlk
        have r10':xv 10=.int .i64 er:=r10
        have r13':xv 13=.string S:=r13
        rw[r12,r10',r13']
        clear hE r0 r1 r2 r3 r4 r5 r6 r7 r8 r9 r10 r11 r12 r13 r10' r13' hz11 hx12 hlk lo11 lo12 HXW1 HSZ1
        have HXW2:=zR (fun(V:World) (h:OnceS W2.heap.size 39 Lk_zero (Lk_row (a,b,cc)) W2.drew V)=>(HK1.out.trans ((Ext.drew W2).trans (show Ext W2.drew V from h.1)):Ext wA V))
        have HSZ2:=zR (fun(V:World) (h:OnceS W2.heap.size 39 Lk_zero (Lk_row (a,b,cc)) W2.drew V)=>(show W2.heap.size≤V.heap.size from h.1.size))
        go_upto_region 13 with fail
        apply wp_region_link (E:=OnceS W2.heap.size 39 Lk_zero (Lk_row (a,b,cc))) (OnceS.refl W2.heap.size 39 Lk_zero (Lk_row (a,b,cc))) (@OnceS.trans W2.heap.size 39 Lk_zero (Lk_row (a,b,cc))) (l:=[_,_,_,_,_,_,_,_,_,_,_,_,_,_]) (t:=[_]) [some 56,some 57,some 58,some 59,some 60,some 61,some 62,some 55,some 63,some 64,some 65,some 15,none,some 16,some 17] [[],[0],[1],[],[3],[4],[2,5],[6],[7],[7],[7],[],[8,11],[9],[10]] [14,14,14,14,14,14,14,14,14,14,14,14,14,14] [eql _,eql _,eql _,eql _,eql _,(eql (.agg #[.int .i64 x.kind,.string ⟨x.cls.toArray⟩,.string ⟨x.name.toArray⟩,.int .i64 x.weight,.int .i64 x.level,.bool x.stairs,.int .i64 x.scale,.int .i64 x.hour,.int .i64 x.reader])),(eql (.tuple #[.agg #[.int .i64 a,.int .i64 b,.int .i64 cc],.string S,.int .i64 er])),eql _,eql _,eql _,eql _,(newL W2.heap.size 39 Lk_zero (Lk_row (a,b,cc))),(putL W2.heap.size 39 Lk_zero (Lk_row (a,b,cc)) 11),eql _] (by kernel_rfl) (by kernel_rfl) (by kernel_rfl) ⟨?o0,?o1,?o2,?o3,?o4,?o5,?o6,?o7,?o8,?o9,?o10,?o11,?o12,?o13,trivial⟩ ?last
        case o0|o1|o3|o4=>
         intro xv W3 hE hp
         try have q0:xv _=_:=hp.1
         clear hp
         simp only[putD,zC,zB,zE,zD,Act.put,zM,zO,zN]
         refine OpGoal.plain ?_
         go_wp2_with fail
         exact⟨rfl,(OnceS.refl W2.heap.size 39 Lk_zero (Lk_row (a,b,cc))) _,rfl⟩
        case o2=>
         intro xv W3 hE hp
         have r1:xv 1=_:=hp.1
         clear hp
         have cci:=HCI.out W3 (HXW2.out W3 hE)
         simp only[putD,zC,zB,zE,zD,Act.put,zM,zO,zN]
         refine OpGoal.plain ?_
         go_wp2_with fail
         exact⟨rfl,(OnceS.refl W2.heap.size 39 Lk_zero (Lk_row (a,b,cc))) _,rfl⟩
        case o5=>
         intro xv W3 hE hp
         have r4:xv 4=_:=hp.1
         clear hp
         have cci:=HCI.out W3 (HXW2.out W3 hE)
         simp only[putD,zC,zB,zE,zD,Act.put,zM,zO,zN]
         refine OpGoal.plain ?_
         refine load_V rfl _ rfl g5 (k*9) _ (HVK.out W3 (HXW2.out W3 hE)) rfl r4 ?_
         go_wp2_with fail
         exact⟨rfl,(OnceS.refl W2.heap.size 39 Lk_zero (Lk_row (a,b,cc))) _,rfl⟩
        case o6=>
         intro xv W3 hE hp
         have r2:xv 2=_:=hp.1
         have r5:xv 5=_:=hp.2.1
         clear hp
         simp only[putD,zC,zB,zE,zD,Act.put,zM,zO,zN]
         refine OpGoal.plain ?_
         go_wp2_with fail
         refine(RLX.out W3 (HXW2.out W3 hE)).mono ?_
         rintro e w' ⟨rfl,hE9⟩
         go_wp2_with fail
         exact⟨rfl,OnceS.ext hE9 (HSZ2.out W3 hE),rfl⟩
        case o7|o8|o9|o10|o13=>
         intro xv W3 hE hp
         try have q0:xv _=_:=hp.1
         clear hp
         simp only[putD,zC,zB,zE,zD,Act.put,zM,zO,zN]
         refine OpGoal.plain ?_
         go_wp2_with fail
         exact⟨rfl,(OnceS.refl W2.heap.size 39 Lk_zero (Lk_row (a,b,cc))) _,rfl⟩
        case o11=>
         intro xv W3 hE _
         simp only[putD,zC,zE,zD]
         refine OpGoal.plain ?_
         go_wp2_with fail
         exact⟨rfl,OnceS.ext (Ext.alloc _ _) (HSZ2.out W3 hE),W3.heap.size,rfl,HSZ2.out W3 hE,.inl (Go.heap_alloc_new _ _)⟩
        case o12=>
         intro xv W3 hE hp
         have r8:xv 8=_:=hp.1
         obtain⟨g11,r11,lo11,hz11⟩:=hp.2.1
         clear hp
         simp only[putD,zC,zB,zE,zD,Act.put,zM,zO,zN]
         refine OpGoal.plain ?_
         obtain⟨C,hC,hC3⟩:=getM hz11 (n:=3) rfl rfl
         refine store_T 39 g11 C [.int .i64 a,.int .i64 b,.int .i64 cc] hC hC3 infoLk' (one3 _ _ _ rfl rfl rfl) rfl _ _ rfl r11 r8 ?_
         intro w' hx' hg'
         go_wp2_with fail
         exact⟨rfl,fun _=>⟨OnceS.put (HSZ2.out W3 hE) lo11 hz11 hx' hg',g11,r11,lo11,hx'⟩⟩
        case last=>
         intro xv W3 hE hp
         have r0:xv 0=_:=hp.1
         have r1:xv 1=_:=hp.2.1
         have r2:xv 2=_:=hp.2.2.1
         have r3:xv 3=_:=hp.2.2.2.1
         have r4:xv 4=_:=hp.2.2.2.2.1
         have r5:xv 5=_:=hp.2.2.2.2.2.1
         have r6:xv 6=_:=hp.2.2.2.2.2.2.1
         have r7:xv 7=_:=hp.2.2.2.2.2.2.2.1
         have r8:xv 8=_:=hp.2.2.2.2.2.2.2.2.1
         have r9:xv 9=_:=hp.2.2.2.2.2.2.2.2.2.1
         have r10:xv 10=_:=hp.2.2.2.2.2.2.2.2.2.2.1
         obtain⟨g11,r11,lo11,hz11⟩:=hp.2.2.2.2.2.2.2.2.2.2.2.1
         obtain⟨g12,r12,lo12,hx12⟩:=hp.2.2.2.2.2.2.2.2.2.2.2.2.1
         have r13:xv 13=_:=hp.2.2.2.2.2.2.2.2.2.2.2.2.2.1
         clear hp
         simp only[putD,zC,zB,zE,zD,Act.put,zH,zI,zK,zL,zJ,zA,zM,zO,zN]
         have HK2:=zR (HXW2.out W3 hE)
         have HE12:Hid (Ext W2 W3):=zR ((Ext.drew W2).trans (show Ext W2.drew W3 from hE.1))
         have hlk:LkB W3 g12 (a,b,cc):=hx12
         have HLK2:=zR hlk
         have r10':xv 10=.int .i64 er:=r10
         have r13':xv 13=.string S:=r13
         rw[r12,r10',r13']
         clear hE r0 r1 r2 r3 r4 r5 r6 r7 r8 r9 r10 r11 r12 r13 r10' r13' hz11 hx12 hlk lo11 lo12 HXW2 HSZ2
         have HE23:=HK2
         obtain⟨u0,u1,u2⟩:=(HLK1.out.ext HE12.out).cells
         obtain⟨v0,v1,v2⟩:=HLK2.out.cells
         clear HLK1 HLK2 HK1
         go_wp2_with fail
         go_roundw
         case rel=>exact⟨k+1,by omega,by go_num,HK2⟩
         case measure=>simp[intOf];omega
      ·obtain rfl:k=2:=by omega
       clear hk hk2
       go_wp2_with fail
       go_loopw [18] (fun mv wr =>∃m:Nat,m≤100∧mv=.int .i64 (m:Int)∧Hid (Ext wA wr)) (fun mv _=>100-(intOf mv).toNat)
       case atStart=>exact⟨0,zP _,rfl,HK⟩
       case round=>
        obtain⟨m,hm,rfl,HM⟩:=hrel
        obtain⟨wm,hwm⟩ :∃q,q=wr:=⟨_,rfl⟩
        subst hwm
        have cci:=HCI.out wm HM.out
        have ccz:=HCZ.out wm HM.out
        by_cases h1:m<N
        ·have t1:decide (m<N)=true:=by simpa using h1
         by_cases h0:m<N0
         ·have t0:decide (m<N0)=true:=by simpa using h0
          obtain⟨bu,ou,u,rfl,hbu,hu,hku,hru⟩:=(HRI.out wm HM.out).x.at_ (by rw[HN.out];exact h1)
          obtain⟨bv,ov,v,rfl,hbv,hv,hkv,hrv⟩:=(HR0.out.ext (HEA.out.trans HM.out)).x.at_ (by rw[HN0.out];exact h0)
          have hsu:=((HRI.out wm HM.out).ok u.r (by rw[hu];exact zG _)).2
          have hsv:=(HR0.out.ok v.r (by rw[hv];exact zG _)).2
          have SM:=zR (fun(V:World) (h:Ext wm V)=>RSame_any u v (max d d0) V ((hku.ext h).deep (Nat.le_max_left _ _)) ((hkv.ext h).deep (Nat.le_max_right _ _)) hsu hsv)
          have RS:=zR (fun(V:World) (h:Ext wm V)=>rRSame_any u v (max d d0) V ((hku.ext h).deep (Nat.le_max_left _ _)) ((hkv.ext h).deep (Nat.le_max_right _ _)) hsu hsv)
          obtain⟨qs,hq⟩ :∃q,u.r.same v.r=q:=⟨_,rfl⟩
          rw[hq]at SM RS
          have HRU:=zR (fun(V:World) (h:Ext wm V)=>range_ext hru hbu h)
          have HRV:=zR (fun(V:World) (h:Ext wm V)=>range_ext hrv hbv h)
          clear hu hv hku hkv hsu hsv hq hru hrv
          go_upto_region 19 with fail
          clear cci ccz
          apply wp_region_seq (l:=[_,_,_,_,_,_,_,_,_,_,_,_,_,_,_,_,_,_,_,_,_,_,_,_,_]) (t:=[]) [some 94,some 95,some 96,some 97,some 98,some 99,some 100,some 101,some 102,some 103,some 104,some 105,some 106,some 107,some 108,some 109,some 110,some 111,some 112,some 113,some 114,some 115,some 116,some 117,some 118] [[],[0],[1],[],[2,3],[4],[],[6],[],[7,8],[9],[5,10],[],[12],[13],[],[14,15],[16],[],[18],[],[19,20],[21],[17,22],[11,23]] [] [eqv _,eqv _,eqv _,eqv _,eqv _,(eqv (.agg u.cells.toArray)),eqv _,eqv _,eqv _,eqv _,(eqv (.agg v.cells.toArray)),(eqv (.bool qs)),eqv _,eqv _,eqv _,eqv _,eqv _,(eqv (.agg u.cells.toArray)),eqv _,eqv _,eqv _,eqv _,(eqv (.agg v.cells.toArray)),(eqv (.bool qs)),(eqv (.bool false))] (by kernel_rfl) (by kernel_rfl) ⟨?o0,?o1,?o2,?o3,?o4,?o5,?o6,?o7,?o8,?o9,?o10,?o11,?o12,?o13,?o14,?o15,?o16,?o17,?o18,?o19,?o20,?o21,?o22,?o23,?o24,trivial⟩ ?last
          case o0|o1|o3|o6|o8|o12|o13|o15|o18|o20=>
           intro xv W4 hE hp
           try have q0:xv _=_:=hp.1
           try have q1:xv _=_:=hp.2.1
           clear hp
           simp only[putD,zC,zB,zE,zD,Act.put,zM,zO,zN]
           refine OpGoal.plain ?_
           go_wp2_with fail
           exact⟨rfl,Ext.refl _,rfl⟩
          case o2|o7|o14|o19=>
           intro xv W4 hE hp
           try have q0:xv _=_:=hp.1
           try have q1:xv _=_:=hp.2.1
           clear hp
           have cci:=HCI.out W4 (HM.out.trans ((Ext.drew wm).trans hE))
           have ccz:=HCZ.out W4 (HM.out.trans ((Ext.drew wm).trans hE))
           simp only[putD,zC,zB,zE,zD,Act.put,zM,zO,zN]
           refine OpGoal.plain ?_
           go_wp2_with fail
           exact⟨rfl,Ext.refl _,rfl⟩
          case o4|o9|o16|o21=>
           intro xv W4 hE hp
           try have q0:xv _=_:=hp.1
           try have q1:xv _=_:=hp.2.1
           clear hp
           simp only[putD,zC,zB,zE,zD,Act.put,zM,zO,zN]
           refine OpGoal.plain ?_
           go_wp2_with fail
           exact⟨rfl,Ext.refl _,rfl⟩
          case o5=>
           intro xv W4 hE hp
           have r4:xv 4=_:=hp.1
           clear hp
           have cci:=HCI.out W4 (HM.out.trans ((Ext.drew wm).trans hE))
           have ccz:=HCZ.out W4 (HM.out.trans ((Ext.drew wm).trans hE))
           simp only[putD,zC,zB,zE,zD,Act.put,zM,zO,zN]
           refine OpGoal.plain ?_
           refine load_R rfl _ rfl bu (ou+m*30) u.cells (HRU.out W4 ((Ext.drew wm).trans hE)) rfl r4 ?_
           go_wp2_with fail
           exact⟨rfl,Ext.refl _,rfl⟩
          case o10=>
           intro xv W4 hE hp
           have r9:xv 9=_:=hp.1
           clear hp
           have cci:=HCI.out W4 (HM.out.trans ((Ext.drew wm).trans hE))
           have ccz:=HCZ.out W4 (HM.out.trans ((Ext.drew wm).trans hE))
           simp only[putD,zC,zB,zE,zD,Act.put,zM,zO,zN]
           refine OpGoal.plain ?_
           refine load_R rfl _ rfl bv (ov+m*30) v.cells (HRV.out W4 ((Ext.drew wm).trans hE)) rfl r9 ?_
           go_wp2_with fail
           exact⟨rfl,Ext.refl _,rfl⟩
          case o11=>
           intro xv W4 hE hp
           have r5:xv 5=_:=hp.1
           have r10:xv 10=_:=hp.2.1
           clear hp
           simp only[putD,zC,zB,zE,zD,Act.put,zM,zO,zN]
           refine OpGoal.plain ?_
           go_wp2_with fail
           refine(SM.out W4 ((Ext.drew wm).trans hE)).mono ?_
           rintro e w' ⟨rfl,hE9⟩
           go_wp2_with fail
           exact⟨rfl,hE9,rfl⟩
          case o17=>
           intro xv W4 hE hp
           have r16:xv 16=_:=hp.1
           clear hp
           have cci:=HCI.out W4 (HM.out.trans ((Ext.drew wm).trans hE))
           have ccz:=HCZ.out W4 (HM.out.trans ((Ext.drew wm).trans hE))
           simp only[putD,zC,zB,zE,zD,Act.put,zM,zO,zN]
           refine OpGoal.plain ?_
           refine load_R rfl _ rfl bu (ou+m*30) u.cells (HRU.out W4 ((Ext.drew wm).trans hE)) rfl r16 ?_
           go_wp2_with fail
           exact⟨rfl,Ext.refl _,rfl⟩
          case o22=>
           intro xv W4 hE hp
           have r21:xv 21=_:=hp.1
           clear hp
           have cci:=HCI.out W4 (HM.out.trans ((Ext.drew wm).trans hE))
           have ccz:=HCZ.out W4 (HM.out.trans ((Ext.drew wm).trans hE))
           simp only[putD,zC,zB,zE,zD,Act.put,zM,zO,zN]
           refine OpGoal.plain ?_
           refine load_R rfl _ rfl bv (ov+m*30) v.cells (HRV.out W4 ((Ext.drew wm).trans hE)) rfl r21 ?_
           go_wp2_with fail
           exact⟨rfl,Ext.refl _,rfl⟩
          case o23=>
           intro xv W4 hE hp
           have r17:xv 17=_:=hp.1
           have r22:xv 22=_:=hp.2.1
           clear hp
           simp only[putD,zC,zB,zE,zD,Act.put,zM,zO,zN]
           refine OpGoal.plain ?_
           go_wp2_with fail
           refine(RS.out W4 ((Ext.drew wm).trans hE)).mono ?_
           rintro e w' ⟨rfl,hE9⟩
           go_wp2_with fail
           exact⟨rfl,hE9,rfl⟩
          case o24=>
           intro xv W4 hE hp
           have r11:xv 11=_:=hp.1
           have r23:xv 23=_:=hp.2.1
           clear hp
           simp only[putD,zC,zB,zE,zD,Act.put,zM,zO,zN]
           refine OpGoal.plain ?_
           go_wp2_with fail
           refine⟨rfl,Ext.refl _,?_⟩
           first|rfl|simp|(cases qs<;>rfl)
          case last=>
           intro xv W4 hE hp
           have r0:xv 0=_:=hp.1
           have r1:xv 1=_:=hp.2.1
           have r2:xv 2=_:=hp.2.2.1
           have r3:xv 3=_:=hp.2.2.2.1
           have r4:xv 4=_:=hp.2.2.2.2.1
           have r5:xv 5=_:=hp.2.2.2.2.2.1
           have r6:xv 6=_:=hp.2.2.2.2.2.2.1
           have r7:xv 7=_:=hp.2.2.2.2.2.2.2.1
           have r8:xv 8=_:=hp.2.2.2.2.2.2.2.2.1
           have r9:xv 9=_:=hp.2.2.2.2.2.2.2.2.2.1
           have r10:xv 10=_:=hp.2.2.2.2.2.2.2.2.2.2.1
           have r11:xv 11=_:=hp.2.2.2.2.2.2.2.2.2.2.2.1
           have r12:xv 12=_:=hp.2.2.2.2.2.2.2.2.2.2.2.2.1
           have r13:xv 13=_:=hp.2.2.2.2.2.2.2.2.2.2.2.2.2.1
           have r14:xv 14=_:=hp.2.2.2.2.2.2.2.2.2.2.2.2.2.2.1
           have r15:xv 15=_:=hp.2.2.2.2.2.2.2.2.2.2.2.2.2.2.2.1
           have r16:xv 16=_:=hp.2.2.2.2.2.2.2.2.2.2.2.2.2.2.2.2.1
           have r17:xv 17=_:=hp.2.2.2.2.2.2.2.2.2.2.2.2.2.2.2.2.2.1
           have r18:xv 18=_:=hp.2.2.2.2.2.2.2.2.2.2.2.2.2.2.2.2.2.2.1
           have r19:xv 19=_:=hp.2.2.2.2.2.2.2.2.2.2.2.2.2.2.2.2.2.2.2.1
           have r20:xv 20=_:=hp.2.2.2.2.2.2.2.2.2.2.2.2.2.2.2.2.2.2.2.2.1
           have r21:xv 21=_:=hp.2.2.2.2.2.2.2.2.2.2.2.2.2.2.2.2.2.2.2.2.2.1
           have r22:xv 22=_:=hp.2.2.2.2.2.2.2.2.2.2.2.2.2.2.2.2.2.2.2.2.2.2.1
           have r23:xv 23=_:=hp.2.2.2.2.2.2.2.2.2.2.2.2.2.2.2.2.2.2.2.2.2.2.2.1
           have r24:xv 24=_:=hp.2.2.2.2.2.2.2.2.2.2.2.2.2.2.2.2.2.2.2.2.2.2.2.2.1
           clear hp
           simp only[putD,zC,zB,zE,zD,Act.put,zH,zI,zK,zL,zJ,zA,zM,zO,zN]
           have HMW:=zR (HM.out.trans ((Ext.drew wm).trans hE))
           have r24':xv 24=.bool false:=r24
           rw[r24']
           clear hE r0 r1 r2 r3 r4 r5 r6 r7 r8 r9 r10 r11 r12 r13 r14 r15 r16 r17 r18 r19 r20 r21 r22 r23 r24 r24' SM RS HRU HRV
           go_wp2_with fail
           go_roundw
           case rel=>exact⟨m+1,by omega,by go_num,HMW⟩
           case measure=>simp[intOf];omega
         ·have t0:decide (m<N0)=false:=by simpa using h0
          clear h0 hm
          go_wp2_with fail
          go_roundw
          case rel=>exact⟨i+1,by omega,by go_num,HM⟩
          case measure=>simp[intOf];omega
        ·have t1:decide (m<N)=false:=by simpa using h1
         clear hm
         go_wp2_with fail
         go_roundw
         case rel=>exact⟨i+1,by omega,by go_num,HM⟩
         case measure=>simp[intOf];omega
   ·obtain rfl:i=3:=by omega
    have HFF:=zR (HEF.out.trans HS.out)
    clear hi hi3
    go_wp2_with fail
    go_ret
    exact⟨rfl,HFF.out⟩
end Go.Proofs.YtmiencglfhpmeaaGreatDoor
