/- Conditions and amounts that numbers make: the contracts of Cond, amount (printed by gen_uc.py). -/
import Derived.Test.YtmiencglfhpmeaaGreatDoorKQUb
import Derived.Test.YtmiencglfhpmeaaGreatDoorKQXa
open List renaming cons_append → zA, foldl_cons → zB, foldl_nil → zC, getD_cons_succ → zD, getD_cons_zero → zE, length_cons → zF, length_nil → zG, mem_cons → zH, nil_append → zI, not_mem_nil → zJ, range_succ → zK, range_zero → zL, setIfInBounds_toArray → zM, set_cons_succ → zN, set_cons_zero → zO
open Nat renaming lt_of_lt_of_le → zP
open Go.Lib renaming hid → zQ
set_option linter.unusedSimpArgs false
set_option linter.unusedVariables false
namespace Go.Proofs.YtmiencglfhpmeaaGreatDoor
open Go.RowKit Hach
theorem made_ret_fin {fn:Func}{s:Tmp}(hr:fn.results=#[.cell s 47]) {b:Nat}{w wr:World}{t:Int}{N:Nat}(x:Ex) (A:Option Addr) (c d:Nat) (hx:Rt x t) (hsz:x.size≤N) (hX:ExL wr (fun k=>w.heap.size+1≤k∧k<wr.heap.size) d A x.l) (hz:Z7 wr w.heap.size) (hb:b<w.heap.size) (hD:DrA wr b) (hg:w.grownBy wr (some b)) (n:Nat) (hn:n=x.l.length)
  {tmps:Array Value}(ht:tmps.getD s undef=.pointer (some ⟨w.heap.size,0,none⟩)):bodyPost Tryz.prog fn (MadeR t N b w) Exit.ret ⟨tmps,[]⟩ (set7 wr w.heap.size x (.slice A n c)):=by
 have hG:=set7_grown wr w.heap.size x (.slice A n c)
 refine fin7 hr x hz A n c hn ht ⟨x,A,c,d,hx,hsz,rfl,?_,?_,grown_fresh hg (Nat.le_refl _) hG⟩
 ·exact(hX.keep fun k hk o=>grown_cell hG hk.2 (by have:=hk.1;simp;omega) o).more fun k hk=>⟨by omega,zP hk.2 hG.size⟩
 ·exact hD.own hG fun g e=>by simp only[Option.some.injEq]at e;omega
def DrS (b:Nat) (W W':World):Prop:=W.grownBy W' (some b)∧(DrA W b→DrA W' b)
theorem DrS.refl (b:Nat) (W:World):DrS b W W:=⟨grown_of (Ext.refl W) _,fun h=>h⟩
theorem DrS.trans {b:Nat}{U V W:World}(h:DrS b U V) (k:DrS b V W):DrS b U W:=⟨grown_trans h.1 k.1,fun x=>k.2 (h.2 x)⟩
theorem DrS.ext {b:Nat}{W W':World}(h:Ext W W'):DrS b W W':=⟨grown_of h _,fun x=>x.ext h⟩
def numP (b:Nat) (l m:Int):SPr (DrS b):=⟨fun v _ =>∃k:Int,v=.int .i64 k∧l≤k∧k<m,fun h _=>h⟩
def kidP (b lo:Nat) (hb:b<lo) (t:Int) (N:Nat):SPr (DrS b):=⟨fun v W =>∃(x:Ex) (A:Option Addr) (c d:Nat),v=.agg #[.int .i64 x.op,.int .i64 x.var,.int .i64 x.ty,.int .i64 x.n,.bool x.b,.string ⟨x.s.toArray⟩,.slice A x.l.length c]∧Rt x t∧x.size≤N∧ExL W (fun k=>lo≤k∧k<W.heap.size) d A x.l,fun h hE=>by
 obtain⟨x,A,c,d,e,h1,h2,h3⟩:=h
 exact⟨x,A,c,d,e,h1,h2,exl_own h3 hE.1 hb⟩⟩
def rowP (b lo:Nat) (hb:b<lo) (P:List Ex→Prop) (n:Nat):SPr (DrS b):=⟨fun v W =>∃(g:Nat) (l:List Ex) (d:Nat),v=.slice (some ⟨g,0,none⟩) n n∧P l∧l.length=n∧ExL W (fun k=>lo≤k∧k<W.heap.size) d (some ⟨g,0,none⟩) l,fun h hE=>by
 obtain⟨g,l,d,e,h1,h2,h3⟩:=h
 exact⟨g,l,d,e,h1,h2,exl_own h3 hE.1 hb⟩⟩
def opP (b lo:Nat) (hb:b<lo) (Q:Int→Prop) (P:List Ex→Prop) (n:Nat):SPr (DrS b):=⟨fun v W =>∃(o:Int) (g:Nat) (l:List Ex) (d:Nat),v=.agg #[.int .i64 o,.int .i64 0,.int .i64 0,.int .i64 0,.bool false,.string ⟨#[]⟩,.slice (some ⟨g,0,none⟩) n n]∧Q o∧P l∧l.length=n∧ExL W (fun k=>lo≤k∧k<W.heap.size) d (some ⟨g,0,none⟩) l,fun h hE=>by
 obtain⟨o,g,l,d,e,h0,h1,h2,h3⟩:=h
 exact⟨o,g,l,d,e,h0,h1,h2,exl_own h3 hE.1 hb⟩⟩
def intsP (b:Nat) (C:List Int) (n:Nat):SPr (DrS b):=⟨fun v W =>∃g,v=.slice (some ⟨g,0,none⟩) n n∧b<g∧g<W.heap.size ∧∀(j:Nat) (x:Int),C[j]?=some x→W.cell? ⟨g,j,none⟩=some (.int .i64 x),fun h hE=>by
 obtain⟨g,e,h1,h2,h3⟩:=h
 exact⟨g,e,h1,zP h2 hE.1.size,fun j x hj=>(grown_cell hE.1 h2 (by simp;omega) j).trans (h3 j x hj)⟩⟩
def atIP (b:Nat) (Q:Int→Prop):SPr (DrS b):=⟨fun v W =>∃(g j:Nat) (x:Int),v=.pointer (some ⟨g,j,none⟩)∧b<g∧g<W.heap.size∧Q x∧W.cell? ⟨g,j,none⟩=some (.int .i64 x),fun h hE=>by
 obtain⟨g,j,x,e,h1,h2,hj,h3⟩:=h
 exact⟨g,j,x,e,h1,zP h2 hE.1.size,hj,(grown_cell hE.1 h2 (by simp;omega) j).trans h3⟩⟩
def intP (b:Nat) (Q:Int→Prop):SPr (DrS b):=⟨fun v _ =>∃x:Int,v=.int .i64 x∧Q x,fun h _=>h⟩
theorem row3L (W:World) (lo:Nat) (hlo:lo≤W.heap.size) (x0:Ex) (A0:Option Addr) (c0 d0:Nat) (x1:Ex) (A1:Option Addr) (c1 d1:Nat) (x2:Ex) (A2:Option Addr) (c2 d2:Nat) (h0:ExL W (fun b=>lo≤b∧b<W.heap.size) d0 A0 x0.l) (h1:ExL W (fun b=>lo≤b∧b<W.heap.size) d1 A1 x1.l) (h2:ExL W (fun b=>lo≤b∧b<W.heap.size) d2 A2 x2.l):ExL (W.alloc (.cells #[.int .i64 x0.op,.int .i64 x0.var,.int .i64 x0.ty,.int .i64 x0.n,.bool x0.b,.string ⟨x0.s.toArray⟩,.slice A0 x0.l.length c0,.int .i64 x1.op,.int .i64 x1.var,.int .i64 x1.ty,.int .i64 x1.n,.bool x1.b,.string ⟨x1.s.toArray⟩,.slice A1 x1.l.length c1,.int .i64 x2.op,.int .i64 x2.var,.int .i64 x2.ty,.int .i64 x2.n,.bool x2.b,.string ⟨x2.s.toArray⟩,.slice A2 x2.l.length c2] 47)) (fun b=>lo≤b∧b<(W.alloc (.cells #[.int .i64 x0.op,.int .i64 x0.var,.int .i64 x0.ty,.int .i64 x0.n,.bool x0.b,.string ⟨x0.s.toArray⟩,.slice A0 x0.l.length c0,.int .i64 x1.op,.int .i64 x1.var,.int .i64 x1.ty,.int .i64 x1.n,.bool x1.b,.string ⟨x1.s.toArray⟩,.slice A1 x1.l.length c1,.int .i64 x2.op,.int .i64 x2.var,.int .i64 x2.ty,.int .i64 x2.n,.bool x2.b,.string ⟨x2.s.toArray⟩,.slice A2 x2.l.length c2] 47)).heap.size) (d0+d1+d2+1) (some ⟨W.heap.size,0,none⟩) [x0,x1,x2]:=by
 have hE:=Ext.alloc W (.cells #[.int .i64 x0.op,.int .i64 x0.var,.int .i64 x0.ty,.int .i64 x0.n,.bool x0.b,.string ⟨x0.s.toArray⟩,.slice A0 x0.l.length c0,.int .i64 x1.op,.int .i64 x1.var,.int .i64 x1.ty,.int .i64 x1.n,.bool x1.b,.string ⟨x1.s.toArray⟩,.slice A1 x1.l.length c1,.int .i64 x2.op,.int .i64 x2.var,.int .i64 x2.ty,.int .i64 x2.n,.bool x2.b,.string ⟨x2.s.toArray⟩,.slice A2 x2.l.length c2] 47)
 refine ExL.row (us:=[⟨x0,A0,c0⟩,⟨x1,A1,c1⟩,⟨x2,A2,c2⟩]) ⟨hlo,by simp⟩ (fun u hu=>?_) (fun i v hi=>?_)
 ·simp only[zH,zJ,or_false]at hu
  rcases hu with rfl|rfl|rfl
  ·exact(exl_ext h0 hE).deep (by omega)
  ·exact(exl_ext h1 hE).deep (by omega)
  ·exact(exl_ext h2 hE).deep (by omega)
 ·rw[World.cell?_alloc_new]
  simpa[Nd.cells,Ex.cells]using hi
def CondC (m:Nat):Prop :=∀(q:Int) (b:Nat) (w:World),q=(m:Int)→DrA w b→Calls Tryz.prog 68 #[dp b,.int .i64 q] w (MadeR 2 (szC m) b w)
set_option maxRecDepth 100000 in
set_option maxHeartbeats 16000000 in
theorem cond_step (m:Nat) (hm:m≤2) (ih :∀k,m=k+1→CondC k):CondC m:=by
 intro q b w hq hD
 have hbl:=hD.lt
 have hz0:=Z7.new w
 obtain⟨w0,hw0⟩ :∃w0,w.alloc (.cells zero7 47)=w0:=⟨_,rfl⟩
 have hE0:Ext w w0:=by rw[←hw0];exact Ext.alloc _ _
 have hs0:w0.heap.size=w.heap.size+1:=by rw[←hw0];simp
 rw[hw0]at hz0
 have hD0:=hD.ext hE0
 have HW:=zQ hw0
 have hs0':w.heap.size+1≤w0.heap.size:=by omega
 have hG0:w.grownBy w0 (some b):=grown_of hE0 _
 have DN:=zQ (fun(m:Int) (W:World) (h:DrA W b) (h1:0<m) (h2:m<4294967296)=>draw_any m b W h h1 h2)
 have NU:=zQ (fun(n:Int) (W:World)=>number_any' n W)
 have VA:=zQ (fun(n:Int) (W:World)=>var_any' n W)
 have WO:=zQ (fun(s:List UInt8) (W:World)=>word_any' s W)
 unfold New0 at NU VA WO
 unfold zero7 at HW
 unfold dp at *
 have CM:=zQ (fun(W:World) (h:DrA W b)=>compared_any b W h)
 unfold dp at CM
 clear hw0 hs0 hD
 go_enter Tryz.func68,Tryz.ntmps68
 go_upto_region 1 with fail
 rw[HW.out]
 go_wp2_with fail
 refine(DN.out 6 _ hD0 (by decide) (by decide)).mono ?_
 rintro e w1 ⟨k1,p1,q1,rfl,hD1,hg1⟩
 have hG1:=grown_trans hG0 hg1
 have hz1:=hz0.own hg1 (by simp;omega)
 have hw1:w0.heap.size≤w1.heap.size:=hg1.size
 by_cases hq0:q≤0
 ·have t1:decide (q≤0)=true:=by simpa using hq0
  go_wp2_with fail
  refine(CM.out  _ hD1).mono ?_
  rintro e w2 ⟨x0,A0,c0,d0,hR0,hs0,rfl,hX0,hD2,hg2⟩
  have hG2:=grown_trans hG1 hg2
  have hz2:=hz1.own hg2 (by simp;omega)
  have hw2:w1.heap.size≤w2.heap.size:=hg2.size
  unfold Ex.cells
  have HX0:=zQ (exl_lo (lo':=w.heap.size+1) hX0 (by omega))
  clear hX0
  obtain⟨u0,u1,u2,u3,u4,u5,u6⟩:=hz2.cells
  obtain⟨f0,f1,f2,f3,f4,f5,f6⟩:=hz2.free
  go_wp2_with fail
  exact made_ret_fin rfl x0 A0 c0 d0 hR0 (by have:=szC_pos m;omega) HX0.out hz2 hbl hD2 hG2 _ rfl rfl
 ·have t1:decide (q≤0)=false:=by simpa using hq0
  obtain⟨k,hk⟩ :∃k,m=k+1:=⟨m-1,by omega⟩
  have hq1:1≤q∧q≤2:=by omega
  have IH:=zQ (fun(Q:Int) (W:World) (hQ:Q=(k:Int)) (h:DrA W b)=>ih k hk Q b W hQ h)
  unfold dp at IH
  clear ih hq0
  by_cases h3:k1<3
  ·have t2:decide (k1<3)=true:=by simpa using h3
   clear h3
   go_wp2_with fail
   refine(CM.out  _ hD1).mono ?_
   rintro e w2 ⟨x0,A0,c0,d0,hR0,hs0,rfl,hX0,hD2,hg2⟩
   have hG2:=grown_trans hG1 hg2
   have hz2:=hz1.own hg2 (by simp;omega)
   have hw2:w1.heap.size≤w2.heap.size:=hg2.size
   unfold Ex.cells
   have HX0:=zQ (exl_lo (lo':=w.heap.size+1) hX0 (by omega))
   clear hX0
   obtain⟨u0,u1,u2,u3,u4,u5,u6⟩:=hz2.cells
   obtain⟨f0,f1,f2,f3,f4,f5,f6⟩:=hz2.free
   go_wp2_with fail
   exact made_ret_fin rfl x0 A0 c0 d0 hR0 (by have:=szC_pos m;omega) HX0.out hz2 hbl hD2 hG2 _ rfl rfl
  ·have t2:decide (k1<3)=false:=by simpa using h3
   rcases(by omega:k1=3∨k1=4∨k1=5) with rfl|rfl|rfl
   ·go_wp2_with fail
    refine(IH.out _ _ (by omega) hD1).mono ?_
    rintro e w2 ⟨x0,A0,c0,d0,hR0,hs0,rfl,hX0,hD2,hg2⟩
    have hG2:=grown_trans hG1 hg2
    have hz2:=hz1.own hg2 (by simp;omega)
    have hw2:w1.heap.size≤w2.heap.size:=hg2.size
    unfold Ex.cells
    have hEf:Ext w2 (w2.alloc (.cells #[.int .i64 x0.op,.int .i64 x0.var,.int .i64 x0.ty,.int .i64 x0.n,.bool x0.b,.string ⟨x0.s.toArray⟩,.slice A0 x0.l.length c0] 47)):=Ext.alloc _ _
    have hzf:=hz2.ext hEf
    obtain⟨u0,u1,u2,u3,u4,u5,u6⟩:=hzf.cells
    obtain⟨f0,f1,f2,f3,f4,f5,f6⟩:=hzf.free
    have HX0:=zQ (((exl_lo (lo':=w.heap.size+1) hX0 (by omega)).keep fun k hk o=>hEf.old (p:=⟨k,o,none⟩) hk.2).more (S':=fun k=>w.heap.size+1≤k∧k<(w2.alloc (.cells #[.int .i64 x0.op,.int .i64 x0.var,.int .i64 x0.ty,.int .i64 x0.n,.bool x0.b,.string ⟨x0.s.toArray⟩,.slice A0 x0.l.length c0] 47)).heap.size) fun k hk=>⟨hk.1,zP hk.2 hEf.sz⟩)
    clear hX0
    go_wp2_with fail
    refine made_fin (N:=szC m) rfl (3) [⟨x0,A0,c0⟩] (d0) (Rt.not x0 hR0) (by show(Ex.mk _ 0 0 0 false [] [x0]).size≤szC m;rw[size_1'];(try rw[hk]);show _≤1+2*szC k;omega) hzf hbl (hD2.ext hEf) (grown_trans hG2 (grown_of hEf _)) ?_ w2.heap.size ⟨by omega,by simp⟩ ?_ 1 rfl rfl
    ·intro u hu
     simp only[zH,zJ,or_false]at hu
     rcases hu with rfl
     ·exact HX0.out.deep (by omega)
    ·intro i v hi
     rw[World.cell?_alloc_new]
     simpa[Nd.cells,Ex.cells]using hi
   ·go_wp2_with fail
    refine(IH.out _ _ (by omega) hD1).mono ?_
    rintro e w2 ⟨x0,A0,c0,d0,hR0,hs0,rfl,hX0,hD2,hg2⟩
    have hG2:=grown_trans hG1 hg2
    have hz2:=hz1.own hg2 (by simp;omega)
    have hw2:w1.heap.size≤w2.heap.size:=hg2.size
    unfold Ex.cells
    go_upto_region 7 with fail
    obtain⟨w3,hwq3⟩ :∃q,(w2.alloc (.cells #[.int .i64 x0.op,.int .i64 x0.var,.int .i64 x0.ty,.int .i64 x0.n,.bool x0.b,.string ⟨x0.s.toArray⟩,.slice A0 x0.l.length c0] 47))=q:=⟨_,rfl⟩
    have hE3:Ext w2 w3:=by rw[←hwq3];exact Ext.alloc _ _
    have hI0:InBlk w3 w2.heap.size x0 (.slice A0 x0.l.length c0):=by rw[←hwq3];exact InBlk.new _ _ _
    rw[hwq3]
    obtain⟨ba0,hba0⟩ :∃q,w2.heap.size=q:=⟨_,rfl⟩
    rw[hba0]at hI0 ⊢
    have hD3:=hD2.ext hE3
    have hz3:=hz2.ext hE3
    have hG3:=grown_trans hG2 (grown_of hE3 _)
    have hw3:w2.heap.size≤w3.heap.size:=hE3.sz
    replace hX0:=exl_ext hX0 hE3
    have hbb0:b<ba0:=by rw[←hba0];omega
    clear hwq3
    have HI0:=zQ (fun(V:World) (h:DrS b w3.drew V)=>((hI0.ext (Ext.drew w3)).own h.1 (by simp;omega):InBlk V ba0 x0 (.slice A0 x0.l.length c0)))
    have HX0:=zQ (fun(V:World) (h:DrS b w3.drew V)=>exl_own (exl_ext (exl_lo (lo':=w.heap.size+1) hX0 (by omega)) (Ext.drew w3)) h.1 (show b<w.heap.size+1 by omega))
    have HR0:=zQ hR0
    have HD:=zQ (fun(V:World) (h:DrS b w3.drew V)=>h.2 (hD3.ext (Ext.drew w3)))
    have HZ:=zQ (fun(V:World) (h:DrS b w3.drew V)=>((hz3.ext (Ext.drew w3)).own h.1 (by simp;omega):Z7 V w.heap.size))
    have HG:=zQ (fun(V:World) (h:DrS b w3.drew V)=>grown_trans (grown_trans hG3 (grown_of (Ext.drew w3) _)) h.1)
    have HSZ:=zQ (fun(V:World) (h:DrS b w3.drew V)=>(by have h1:=(HG.out V h).size;have h2:w3.heap.size≤V.heap.size:=h.1.size;omega:w.heap.size+1≤V.heap.size))
    clear hI0 hX0 hR0 hD3 hz3 hG3
    apply wp_region_rel (E:=DrS b) (DrS.refl b) (@DrS.trans b) (l:=[_,_,_,_,_,_,_,_,_,_]) (t:=[_]) [some 29,some 30,some 31,some 32,some 33,some 34,some 35,some 36,some 37,some 38,none] [[],[0],[1],[],[],[],[5],[4,6],[3,7],[2,8],[9]] [10,10,10,10,10,10,10,10,10,10] [eqr _,eqr _,eqr _,eqr _,eqr _,eqr _,eqr _,(kidP b (w.heap.size+1) (show b<w.heap.size+1 by omega) 2 (szC k)),(rowP b (w.heap.size+1) (show b<w.heap.size+1 by omega) (fun l =>∃y,l=[x0,y]∧Rt y 2∧y.size≤szC k) 2),(opP b (w.heap.size+1) (show b<w.heap.size+1 by omega) (fun o=>o=4) (fun l =>∃y,l=[x0,y]∧Rt y 2∧y.size≤szC k) 2)] (by kernel_rfl) (by kernel_rfl) ⟨?o0,?o1,?o2,?o3,?o4,?o5,?o6,?o7,?o8,?o9,trivial⟩ ?last
    case o0|o1|o2|o4|o5|o6=>
     intro xv W hE hp
     try have q0:xv _=_:=hp.1
     clear hp
     simp only[putD,zC,zB,zE,zD,Act.put,zM,zO,zN]
     refine OpGoal.plain ?_
     go_wp2_with fail
     exact⟨rfl,(DrS.refl b) _,rfl⟩
    case o3=>
     intro xv W hE _
     obtain⟨j0,j1,j2,j3,j4,j5,j6⟩:=(HI0.out W hE).cells
     simp only[putD,zC,zE,zD]
     refine OpGoal.plain ?_
     go_wp2_with fail
     exact⟨rfl,(DrS.refl b) _,rfl⟩
    case o7=>
     intro xv W hE hp
     have r4:xv 4=_:=hp.1
     have r6:xv 6=_:=hp.2.1
     clear hp
     simp only[putD,zC,zB,zE,zD,Act.put,zM,zO,zN]
     refine OpGoal.plain ?_
     go_wp2_with fail
     refine(IH.out _ W (by omega) (HD.out W hE)).mono ?_
     rintro e w' ⟨x,A,c,d,hR,hs,rfl,hX,hD',hg'⟩
     have hsz:=HSZ.out W hE
     unfold Ex.cells
     go_wp2_with fail
     exact⟨rfl,⟨hg',fun _=>hD'⟩,x,A,c,d,rfl,hR,hs,exl_lo hX hsz⟩
    case o8=>
     intro xv W hE hp
     have r3:xv 3=_:=hp.1
     obtain⟨y7,A7,c7,d7,r7,hR7,hs7,hX7⟩:=hp.2.1
     clear hp
     simp only[putD,zC,zB,zE,zD,Act.put,zM,zO,zN]
     refine OpGoal.plain ?_
     go_wp2_with fail
     have hx0:=HX0.out W hE
     exact⟨rfl,DrS.ext (Ext.alloc _ _),W.heap.size,[x0,y7],_,rfl,⟨y7,rfl,hR7,hs7⟩,rfl,row2L W _ (HSZ.out W hE) x0 A0 c0 d0 y7 A7 c7 d7 hx0 hX7⟩
    case o9=>
     intro xv W hE hp
     have r2:xv 2=_:=hp.1
     obtain⟨g8,l8,d8,r8,hP8,hn8,hX8⟩:=hp.2.1
     clear hp
     simp only[putD,zC,zB,zE,zD,Act.put,zM,zO,zN]
     refine OpGoal.plain ?_
     go_wp2_with fail
     exact⟨rfl,DrS.refl b _,_,g8,l8,d8,rfl,rfl,hP8,hn8,hX8⟩
    case last=>
     intro xv W hE hp
     have r0:xv 0=_:=hp.1
     have r1:xv 1=_:=hp.2.1
     have r2:xv 2=_:=hp.2.2.1
     have r3:xv 3=_:=hp.2.2.2.1
     have r4:xv 4=_:=hp.2.2.2.2.1
     have r5:xv 5=_:=hp.2.2.2.2.2.1
     have r6:xv 6=_:=hp.2.2.2.2.2.2.1
     obtain⟨y7,A7,c7,d7,r7,hR7,hs7,hX7⟩:=hp.2.2.2.2.2.2.2.1
     obtain⟨g8,l8,d8,r8,hP8,hn8,hX8⟩:=hp.2.2.2.2.2.2.2.2.1
     obtain⟨o9,g9,l9,d9,r9,hQ9,hP9,hn9,hX9⟩:=hp.2.2.2.2.2.2.2.2.2.1
     clear hp
     simp only[putD,zC,zB,zE,zD,Act.put,zF,zG,zK,zL,zI,zA,zM,zO,zN]
     obtain⟨y,rfl,hRy,hsy⟩:=hP9
     subst hQ9
     rw[r9]
     have hzf:=HZ.out W hE
     have HXF:=zQ hX9
     obtain⟨u0,u1,u2,u3,u4,u5,u6⟩:=hzf.cells
     obtain⟨f0,f1,f2,f3,f4,f5,f6⟩:=hzf.free
     have HZF:=zQ hzf
     have HDF:=zQ (HD.out W hE)
     have HGF:=zQ (HG.out W hE)
     clear hzf hX9
     go_wp2_with fail
     exact made_ret_fin rfl (.mk 4 0 0 0 false [] [x0,y]) (some ⟨g9,0,none⟩) _ d9 (Rt.log 4 (.inl rfl) x0 y HR0.out hRy) (by rw[size_2'];(try rw[hk]);show _≤1+2*szC k;omega) HXF.out HZF.out hbl HDF.out HGF.out _ hn9.symm rfl
   ·go_wp2_with fail
    refine(IH.out _ _ (by omega) hD1).mono ?_
    rintro e w2 ⟨x0,A0,c0,d0,hR0,hs0,rfl,hX0,hD2,hg2⟩
    have hG2:=grown_trans hG1 hg2
    have hz2:=hz1.own hg2 (by simp;omega)
    have hw2:w1.heap.size≤w2.heap.size:=hg2.size
    unfold Ex.cells
    go_upto_region 7 with fail
    obtain⟨w3,hwq3⟩ :∃q,(w2.alloc (.cells #[.int .i64 x0.op,.int .i64 x0.var,.int .i64 x0.ty,.int .i64 x0.n,.bool x0.b,.string ⟨x0.s.toArray⟩,.slice A0 x0.l.length c0] 47))=q:=⟨_,rfl⟩
    have hE3:Ext w2 w3:=by rw[←hwq3];exact Ext.alloc _ _
    have hI0:InBlk w3 w2.heap.size x0 (.slice A0 x0.l.length c0):=by rw[←hwq3];exact InBlk.new _ _ _
    rw[hwq3]
    obtain⟨ba0,hba0⟩ :∃q,w2.heap.size=q:=⟨_,rfl⟩
    rw[hba0]at hI0 ⊢
    have hD3:=hD2.ext hE3
    have hz3:=hz2.ext hE3
    have hG3:=grown_trans hG2 (grown_of hE3 _)
    have hw3:w2.heap.size≤w3.heap.size:=hE3.sz
    replace hX0:=exl_ext hX0 hE3
    have hbb0:b<ba0:=by rw[←hba0];omega
    clear hwq3
    have HI0:=zQ (fun(V:World) (h:DrS b w3.drew V)=>((hI0.ext (Ext.drew w3)).own h.1 (by simp;omega):InBlk V ba0 x0 (.slice A0 x0.l.length c0)))
    have HX0:=zQ (fun(V:World) (h:DrS b w3.drew V)=>exl_own (exl_ext (exl_lo (lo':=w.heap.size+1) hX0 (by omega)) (Ext.drew w3)) h.1 (show b<w.heap.size+1 by omega))
    have HR0:=zQ hR0
    have HD:=zQ (fun(V:World) (h:DrS b w3.drew V)=>h.2 (hD3.ext (Ext.drew w3)))
    have HZ:=zQ (fun(V:World) (h:DrS b w3.drew V)=>((hz3.ext (Ext.drew w3)).own h.1 (by simp;omega):Z7 V w.heap.size))
    have HG:=zQ (fun(V:World) (h:DrS b w3.drew V)=>grown_trans (grown_trans hG3 (grown_of (Ext.drew w3) _)) h.1)
    have HSZ:=zQ (fun(V:World) (h:DrS b w3.drew V)=>(by have h1:=(HG.out V h).size;have h2:w3.heap.size≤V.heap.size:=h.1.size;omega:w.heap.size+1≤V.heap.size))
    clear hI0 hX0 hR0 hD3 hz3 hG3
    apply wp_region_rel (E:=DrS b) (DrS.refl b) (@DrS.trans b) (l:=[_,_,_,_,_,_,_,_,_,_]) (t:=[_]) [some 29,some 30,some 31,some 32,some 33,some 34,some 35,some 36,some 37,some 38,none] [[],[0],[1],[],[],[],[5],[4,6],[3,7],[2,8],[9]] [10,10,10,10,10,10,10,10,10,10] [eqr _,eqr _,eqr _,eqr _,eqr _,eqr _,eqr _,(kidP b (w.heap.size+1) (show b<w.heap.size+1 by omega) 2 (szC k)),(rowP b (w.heap.size+1) (show b<w.heap.size+1 by omega) (fun l =>∃y,l=[x0,y]∧Rt y 2∧y.size≤szC k) 2),(opP b (w.heap.size+1) (show b<w.heap.size+1 by omega) (fun o=>o=5) (fun l =>∃y,l=[x0,y]∧Rt y 2∧y.size≤szC k) 2)] (by kernel_rfl) (by kernel_rfl) ⟨?o0,?o1,?o2,?o3,?o4,?o5,?o6,?o7,?o8,?o9,trivial⟩ ?last
    case o0|o1|o2|o4|o5|o6=>
     intro xv W hE hp
     try have q0:xv _=_:=hp.1
     clear hp
     simp only[putD,zC,zB,zE,zD,Act.put,zM,zO,zN]
     refine OpGoal.plain ?_
     go_wp2_with fail
     exact⟨rfl,(DrS.refl b) _,rfl⟩
    case o3=>
     intro xv W hE _
     obtain⟨j0,j1,j2,j3,j4,j5,j6⟩:=(HI0.out W hE).cells
     simp only[putD,zC,zE,zD]
     refine OpGoal.plain ?_
     go_wp2_with fail
     exact⟨rfl,(DrS.refl b) _,rfl⟩
    case o7=>
     intro xv W hE hp
     have r4:xv 4=_:=hp.1
     have r6:xv 6=_:=hp.2.1
     clear hp
     simp only[putD,zC,zB,zE,zD,Act.put,zM,zO,zN]
     refine OpGoal.plain ?_
     go_wp2_with fail
     refine(IH.out _ W (by omega) (HD.out W hE)).mono ?_
     rintro e w' ⟨x,A,c,d,hR,hs,rfl,hX,hD',hg'⟩
     have hsz:=HSZ.out W hE
     unfold Ex.cells
     go_wp2_with fail
     exact⟨rfl,⟨hg',fun _=>hD'⟩,x,A,c,d,rfl,hR,hs,exl_lo hX hsz⟩
    case o8=>
     intro xv W hE hp
     have r3:xv 3=_:=hp.1
     obtain⟨y7,A7,c7,d7,r7,hR7,hs7,hX7⟩:=hp.2.1
     clear hp
     simp only[putD,zC,zB,zE,zD,Act.put,zM,zO,zN]
     refine OpGoal.plain ?_
     go_wp2_with fail
     have hx0:=HX0.out W hE
     exact⟨rfl,DrS.ext (Ext.alloc _ _),W.heap.size,[x0,y7],_,rfl,⟨y7,rfl,hR7,hs7⟩,rfl,row2L W _ (HSZ.out W hE) x0 A0 c0 d0 y7 A7 c7 d7 hx0 hX7⟩
    case o9=>
     intro xv W hE hp
     have r2:xv 2=_:=hp.1
     obtain⟨g8,l8,d8,r8,hP8,hn8,hX8⟩:=hp.2.1
     clear hp
     simp only[putD,zC,zB,zE,zD,Act.put,zM,zO,zN]
     refine OpGoal.plain ?_
     go_wp2_with fail
     exact⟨rfl,DrS.refl b _,_,g8,l8,d8,rfl,rfl,hP8,hn8,hX8⟩
    case last=>
     intro xv W hE hp
     have r0:xv 0=_:=hp.1
     have r1:xv 1=_:=hp.2.1
     have r2:xv 2=_:=hp.2.2.1
     have r3:xv 3=_:=hp.2.2.2.1
     have r4:xv 4=_:=hp.2.2.2.2.1
     have r5:xv 5=_:=hp.2.2.2.2.2.1
     have r6:xv 6=_:=hp.2.2.2.2.2.2.1
     obtain⟨y7,A7,c7,d7,r7,hR7,hs7,hX7⟩:=hp.2.2.2.2.2.2.2.1
     obtain⟨g8,l8,d8,r8,hP8,hn8,hX8⟩:=hp.2.2.2.2.2.2.2.2.1
     obtain⟨o9,g9,l9,d9,r9,hQ9,hP9,hn9,hX9⟩:=hp.2.2.2.2.2.2.2.2.2.1
     clear hp
     simp only[putD,zC,zB,zE,zD,Act.put,zF,zG,zK,zL,zI,zA,zM,zO,zN]
     obtain⟨y,rfl,hRy,hsy⟩:=hP9
     subst hQ9
     rw[r9]
     have hzf:=HZ.out W hE
     have HXF:=zQ hX9
     obtain⟨u0,u1,u2,u3,u4,u5,u6⟩:=hzf.cells
     obtain⟨f0,f1,f2,f3,f4,f5,f6⟩:=hzf.free
     have HZF:=zQ hzf
     have HDF:=zQ (HD.out W hE)
     have HGF:=zQ (HG.out W hE)
     clear hzf hX9
     go_wp2_with fail
     exact made_ret_fin rfl (.mk 5 0 0 0 false [] [x0,y]) (some ⟨g9,0,none⟩) _ d9 (Rt.log 5 (.inr rfl) x0 y HR0.out hRy) (by rw[size_2'];(try rw[hk]);show _≤1+2*szC k;omega) HXF.out HZF.out hbl HDF.out HGF.out _ hn9.symm rfl
theorem cond_all :∀m:Nat,m≤2→CondC m
 | 0,h=>cond_step 0 h fun k hk=>by omega
 | m+1,h=>cond_step (m+1) h fun k hk=>by
  obtain rfl:k=m:=by omega
  exact cond_all k (by omega)
end Go.Proofs.YtmiencglfhpmeaaGreatDoor
namespace Go.Proofs.YtmiencglfhpmeaaGreatDoor
open Go.RowKit Hach
def AmtC (m:Nat):Prop :=∀(q:Int) (b:Nat) (w:World),q=(m:Int)→DrA w b→Calls Tryz.prog 66 #[dp b,.int .i64 q] w (MadeR 1 (szA m) b w)
set_option maxRecDepth 100000 in
set_option maxHeartbeats 16000000 in
theorem amount_step (m:Nat) (hm:m≤2) (ih :∀k,m=k+1→AmtC k):AmtC m:=by
 intro q b w hq hD
 have hbl:=hD.lt
 have hz0:=Z7.new w
 obtain⟨w0,hw0⟩ :∃w0,w.alloc (.cells zero7 47)=w0:=⟨_,rfl⟩
 have hE0:Ext w w0:=by rw[←hw0];exact Ext.alloc _ _
 have hs0:w0.heap.size=w.heap.size+1:=by rw[←hw0];simp
 rw[hw0]at hz0
 have hD0:=hD.ext hE0
 have HW:=zQ hw0
 have hs0':w.heap.size+1≤w0.heap.size:=by omega
 have hG0:w.grownBy w0 (some b):=grown_of hE0 _
 have DN:=zQ (fun(m:Int) (W:World) (h:DrA W b) (h1:0<m) (h2:m<4294967296)=>draw_any m b W h h1 h2)
 have NU:=zQ (fun(n:Int) (W:World)=>number_any' n W)
 have VA:=zQ (fun(n:Int) (W:World)=>var_any' n W)
 have WO:=zQ (fun(s:List UInt8) (W:World)=>word_any' s W)
 unfold New0 at NU VA WO
 unfold zero7 at HW
 unfold dp at *
 have CM:=zQ (fun(W:World) (h:DrA W b)=>compared_any b W h)
 unfold dp at CM
 clear hw0 hs0 hD
 go_enter Tryz.func66,Tryz.ntmps66
 go_upto_region 1 with fail
 rw[HW.out]
 go_wp2_with fail
 refine(DN.out 7 _ hD0 (by decide) (by decide)).mono ?_
 rintro e w1 ⟨k1,p1,q1,rfl,hD1,hg1⟩
 have hG1:=grown_trans hG0 hg1
 have hz1:=hz0.own hg1 (by simp;omega)
 have hw1:w0.heap.size≤w1.heap.size:=hg1.size
 by_cases hq0:q≤0
 ·have t1:decide (q≤0)=true:=by simpa using hq0
  go_wp2_with fail
  refine(DN.out 30 _ hD1 (by decide) (by decide)).mono ?_
  rintro e w2 ⟨k2,p2,q2,rfl,hD2,hg2⟩
  have hG2:=grown_trans hG1 hg2
  have hz2:=hz1.own hg2 (by simp;omega)
  have hw2:w1.heap.size≤w2.heap.size:=hg2.size
  go_wp2_with fail
  refine(NU.out k2 _).mono ?_
  rintro e w3 ⟨rfl,hE3⟩
  have hD3:=hD2.ext hE3
  have hz3:=hz2.ext hE3
  have hG3:=grown_trans hG2 (grown_of hE3 _)
  have hw3:w2.heap.size≤w3.heap.size:=hE3.sz
  unfold Ex.cells
  obtain⟨u0,u1,u2,u3,u4,u5,u6⟩:=hz3.cells
  obtain⟨f0,f1,f2,f3,f4,f5,f6⟩:=hz3.free
  go_wp2_with fail
  exact made_leaf_fin rfl (numE k2) (num_rt (by omega)) rfl hz3 hbl hD3 hG3 (szA_pos m) rfl
 ·have t1:decide (q≤0)=false:=by simpa using hq0
  obtain⟨k,hk⟩ :∃k,m=k+1:=⟨m-1,by omega⟩
  have hq1:1≤q∧q≤2:=by omega
  have IH:=zQ (fun(Q:Int) (W:World) (hQ:Q=(k:Int)) (h:DrA W b)=>ih k hk Q b W hQ h)
  unfold dp at IH
  clear ih hq0
  by_cases h3:k1<3
  ·have t2:decide (k1<3)=true:=by simpa using h3
   clear h3
   go_wp2_with fail
   refine(DN.out 30 _ hD1 (by decide) (by decide)).mono ?_
   rintro e w2 ⟨k2,p2,q2,rfl,hD2,hg2⟩
   have hG2:=grown_trans hG1 hg2
   have hz2:=hz1.own hg2 (by simp;omega)
   have hw2:w1.heap.size≤w2.heap.size:=hg2.size
   go_wp2_with fail
   refine(NU.out k2 _).mono ?_
   rintro e w3 ⟨rfl,hE3⟩
   have hD3:=hD2.ext hE3
   have hz3:=hz2.ext hE3
   have hG3:=grown_trans hG2 (grown_of hE3 _)
   have hw3:w2.heap.size≤w3.heap.size:=hE3.sz
   unfold Ex.cells
   obtain⟨u0,u1,u2,u3,u4,u5,u6⟩:=hz3.cells
   obtain⟨f0,f1,f2,f3,f4,f5,f6⟩:=hz3.free
   go_wp2_with fail
   exact made_leaf_fin rfl (numE k2) (num_rt (by omega)) rfl hz3 hbl hD3 hG3 (szA_pos m) rfl
  ·have t2:decide (k1<3)=false:=by simpa using h3
   clear h3
   by_cases e3:k1=3
   ·subst e3
    have hEr:Ext w1 (w1.alloc (.cells #[.int .i64 4,.int .i64 7,.int .i64 8,.int .i64 5] 3)):=Ext.alloc _ _
    go_wp2_with fail
    refine(DN.out 4 _ (hD1.ext hEr) (by decide) (by decide)).mono ?_
    rintro e w2 ⟨k2,p2,q2,rfl,hD2,hg2⟩
    obtain⟨k2,rfl⟩:=Int.eq_ofNat_of_zero_le p2
    have hG2:=grown_trans (grown_trans hG1 (grown_of hEr _)) hg2
    have hz2:=(hz1.ext hEr).own hg2 (by simp;omega)
    have hw2:w1.heap.size≤w2.heap.size:=Nat.le_trans hEr.sz hg2.size
    have hbr:b<w1.heap.size:=by omega
    have hv :∃n:Int,w2.cell? ⟨w1.heap.size,k2,none⟩=some (.int .i64 n)∧(1≤n∧n≤9)∧varTy n=1:=by
     have key :∀v,(#[.int .i64 4,.int .i64 7,.int .i64 8,.int .i64 5]:Array Value)[k2]?=some v→w2.cell? ⟨w1.heap.size,k2,none⟩=some v:=fun v hv=>by
      rw[grown_cell hg2 (by simp) (by simp;omega),World.cell?_alloc_new];exact hv
     rcases(by omega:k2=0∨k2=1∨k2=2∨k2=3) with rfl|rfl|rfl|rfl<;>exact⟨_,key _ rfl,by decide⟩
    obtain⟨n,hv,hn,hty⟩:=hv
    have HTY:=zQ hty
    clear hty
    go_wp2_with fail
    refine(VA.out n _).mono ?_
    rintro e w3 ⟨rfl,hE3⟩
    have hD3:=hD2.ext hE3
    have hz3:=hz2.ext hE3
    have hG3:=grown_trans hG2 (grown_of hE3 _)
    have hw3:w2.heap.size≤w3.heap.size:=hE3.sz
    unfold Ex.cells
    obtain⟨u0,u1,u2,u3,u4,u5,u6⟩:=hz3.cells
    obtain⟨f0,f1,f2,f3,f4,f5,f6⟩:=hz3.free
    go_wp2_with fail
    exact made_leaf_fin rfl (varE n) (var_rt hn HTY.out) rfl hz3 hbl hD3 hG3 (szA_pos m) rfl
   ·have e13:(k1 == 3)=false:=by rw[beq_eq_false_iff_ne];omega
    by_cases e4:k1=4
    ·subst e4
     go_wp2_with fail
     refine(CM.out  _ hD1).mono ?_
     rintro e w2 ⟨x0,A0,c0,d0,hR0,hs0,rfl,hX0,hD2,hg2⟩
     have hG2:=grown_trans hG1 hg2
     have hz2:=hz1.own hg2 (by simp;omega)
     have hw2:w1.heap.size≤w2.heap.size:=hg2.size
     unfold Ex.cells
     go_upto_region 8 with fail
     obtain⟨w3,hwq3⟩ :∃q,(w2.alloc (.cells #[.int .i64 x0.op,.int .i64 x0.var,.int .i64 x0.ty,.int .i64 x0.n,.bool x0.b,.string ⟨x0.s.toArray⟩,.slice A0 x0.l.length c0] 47))=q:=⟨_,rfl⟩
     have hE3:Ext w2 w3:=by rw[←hwq3];exact Ext.alloc _ _
     have hI0:InBlk w3 w2.heap.size x0 (.slice A0 x0.l.length c0):=by rw[←hwq3];exact InBlk.new _ _ _
     rw[hwq3]
     obtain⟨ba0,hba0⟩ :∃q,w2.heap.size=q:=⟨_,rfl⟩
     rw[hba0]at hI0 ⊢
     have hD3:=hD2.ext hE3
     have hz3:=hz2.ext hE3
     have hG3:=grown_trans hG2 (grown_of hE3 _)
     have hw3:w2.heap.size≤w3.heap.size:=hE3.sz
     replace hX0:=exl_ext hX0 hE3
     have hbb0:b<ba0:=by rw[←hba0];omega
     clear hwq3
     go_wp2_with fail
     refine(IH.out _ _ (by omega) hD3).mono ?_
     rintro e w4 ⟨x1,A1,c1,d1,hR1,hs1,rfl,hX1,hD4,hg4⟩
     have hG4:=grown_trans hG3 hg4
     have hz4:=hz3.own hg4 (by simp;omega)
     have hw4:w3.heap.size≤w4.heap.size:=hg4.size
     replace hX0:=exl_own hX0 hg4 (by omega)
     unfold Ex.cells
     replace hI0:=hI0.own hg4 (by simp;omega)
     go_upto_region 9 with fail
     obtain⟨w5,hwq5⟩ :∃q,(w4.alloc (.cells #[.int .i64 x1.op,.int .i64 x1.var,.int .i64 x1.ty,.int .i64 x1.n,.bool x1.b,.string ⟨x1.s.toArray⟩,.slice A1 x1.l.length c1] 47))=q:=⟨_,rfl⟩
     have hE5:Ext w4 w5:=by rw[←hwq5];exact Ext.alloc _ _
     have hI1:InBlk w5 w4.heap.size x1 (.slice A1 x1.l.length c1):=by rw[←hwq5];exact InBlk.new _ _ _
     rw[hwq5]
     obtain⟨ba1,hba1⟩ :∃q,w4.heap.size=q:=⟨_,rfl⟩
     rw[hba1]at hI1 ⊢
     have hD5:=hD4.ext hE5
     have hz5:=hz4.ext hE5
     have hG5:=grown_trans hG4 (grown_of hE5 _)
     have hw5:w4.heap.size≤w5.heap.size:=hE5.sz
     replace hX1:=exl_ext hX1 hE5
     have hbb1:b<ba1:=by rw[←hba1];omega
     clear hwq5
     replace hI0:=hI0.ext hE5
     replace hX0:=exl_ext hX0 hE5
     have HI0:=zQ (fun(V:World) (h:DrS b w5.drew V)=>((hI0.ext (Ext.drew w5)).own h.1 (by simp;omega):InBlk V ba0 x0 (.slice A0 x0.l.length c0)))
     have HX0:=zQ (fun(V:World) (h:DrS b w5.drew V)=>exl_own (exl_ext (exl_lo (lo':=w.heap.size+1) hX0 (by omega)) (Ext.drew w5)) h.1 (show b<w.heap.size+1 by omega))
     have HR0:=zQ hR0
     have HI1:=zQ (fun(V:World) (h:DrS b w5.drew V)=>((hI1.ext (Ext.drew w5)).own h.1 (by simp;omega):InBlk V ba1 x1 (.slice A1 x1.l.length c1)))
     have HX1:=zQ (fun(V:World) (h:DrS b w5.drew V)=>exl_own (exl_ext (exl_lo (lo':=w.heap.size+1) hX1 (by omega)) (Ext.drew w5)) h.1 (show b<w.heap.size+1 by omega))
     have HR1:=zQ hR1
     have HD:=zQ (fun(V:World) (h:DrS b w5.drew V)=>h.2 (hD5.ext (Ext.drew w5)))
     have HZ:=zQ (fun(V:World) (h:DrS b w5.drew V)=>((hz5.ext (Ext.drew w5)).own h.1 (by simp;omega):Z7 V w.heap.size))
     have HG:=zQ (fun(V:World) (h:DrS b w5.drew V)=>grown_trans (grown_trans hG5 (grown_of (Ext.drew w5) _)) h.1)
     have HSZ:=zQ (fun(V:World) (h:DrS b w5.drew V)=>(by have h1:=(HG.out V h).size;have h2:w5.heap.size≤V.heap.size:=h.1.size;omega:w.heap.size+1≤V.heap.size))
     clear hI0 hX0 hR0 hI1 hX1 hR1 hD5 hz5 hG5
     apply wp_region_rel (E:=DrS b) (DrS.refl b) (@DrS.trans b) (l:=[_,_,_,_,_,_,_,_]) (t:=[_]) [some 36,some 37,some 38,some 39,some 40,some 41,some 42,some 43,none] [[],[],[],[],[3],[2,4],[0,1,5],[6],[7]] [8,8,8,8,8,8,8,8] [eqr _,eqr _,eqr _,eqr _,eqr _,(kidP b (w.heap.size+1) (show b<w.heap.size+1 by omega) 1 (szA k)),(rowP b (w.heap.size+1) (show b<w.heap.size+1 by omega) (fun l =>∃y,l=[x0,x1,y]∧Rt y 1∧y.size≤szA k) 3),(opP b (w.heap.size+1) (show b<w.heap.size+1 by omega) (fun o=>o=13) (fun l =>∃y,l=[x0,x1,y]∧Rt y 1∧y.size≤szA k) 3)] (by kernel_rfl) (by kernel_rfl) ⟨?o0,?o1,?o2,?o3,?o4,?o5,?o6,?o7,trivial⟩ ?last
     case o2|o3|o4=>
      intro xv W hE hp
      try have q0:xv _=_:=hp.1
      clear hp
      simp only[putD,zC,zB,zE,zD,Act.put,zM,zO,zN]
      refine OpGoal.plain ?_
      go_wp2_with fail
      exact⟨rfl,(DrS.refl b) _,rfl⟩
     case o0|o1=>
      intro xv W hE hp
      try have q0:xv _=_:=hp.1
      clear hp
      obtain⟨i0,i1,i2,i3,i4,i5,i6⟩:=(HI0.out W hE).cells
      obtain⟨j0,j1,j2,j3,j4,j5,j6⟩:=(HI1.out W hE).cells
      simp only[putD,zC,zB,zE,zD,Act.put,zM,zO,zN]
      refine OpGoal.plain ?_
      go_wp2_with fail
      exact⟨rfl,(DrS.refl b) _,rfl⟩
     case o5=>
      intro xv W hE hp
      have r2:xv 2=_:=hp.1
      have r4:xv 4=_:=hp.2.1
      clear hp
      simp only[putD,zC,zB,zE,zD,Act.put,zM,zO,zN]
      refine OpGoal.plain ?_
      go_wp2_with fail
      refine(IH.out _ W (by omega) (HD.out W hE)).mono ?_
      rintro e w' ⟨x,A,c,d,hR,hs,rfl,hX,hD',hg'⟩
      have hsz:=HSZ.out W hE
      unfold Ex.cells
      go_wp2_with fail
      exact⟨rfl,⟨hg',fun _=>hD'⟩,x,A,c,d,rfl,hR,hs,exl_lo hX hsz⟩
     case o6=>
      intro xv W hE hp
      have r0:xv 0=_:=hp.1
      have r1:xv 1=_:=hp.2.1
      obtain⟨y5,A5,c5,d5,r5,hR5,hs5,hX5⟩:=hp.2.2.1
      clear hp
      simp only[putD,zC,zB,zE,zD,Act.put,zM,zO,zN]
      refine OpGoal.plain ?_
      go_wp2_with fail
      have hx0:=HX0.out W hE
      have hx1:=HX1.out W hE
      exact⟨rfl,DrS.ext (Ext.alloc _ _),W.heap.size,[x0,x1,y5],_,rfl,⟨y5,rfl,hR5,hs5⟩,rfl,row3L W _ (HSZ.out W hE) x0 A0 c0 d0 x1 A1 c1 d1 y5 A5 c5 d5 hx0 hx1 hX5⟩
     case o7=>
      intro xv W hE hp
      obtain⟨g6,l6,d6,r6,hP6,hn6,hX6⟩:=hp.1
      clear hp
      simp only[putD,zC,zB,zE,zD,Act.put,zM,zO,zN]
      refine OpGoal.plain ?_
      go_wp2_with fail
      exact⟨rfl,DrS.refl b _,_,g6,l6,d6,rfl,rfl,hP6,hn6,hX6⟩
     case last=>
      intro xv W hE hp
      have r0:xv 0=_:=hp.1
      have r1:xv 1=_:=hp.2.1
      have r2:xv 2=_:=hp.2.2.1
      have r3:xv 3=_:=hp.2.2.2.1
      have r4:xv 4=_:=hp.2.2.2.2.1
      obtain⟨y5,A5,c5,d5,r5,hR5,hs5,hX5⟩:=hp.2.2.2.2.2.1
      obtain⟨g6,l6,d6,r6,hP6,hn6,hX6⟩:=hp.2.2.2.2.2.2.1
      obtain⟨o7,g7,l7,d7,r7,hQ7,hP7,hn7,hX7⟩:=hp.2.2.2.2.2.2.2.1
      clear hp
      simp only[putD,zC,zB,zE,zD,Act.put,zF,zG,zK,zL,zI,zA,zM,zO,zN]
      obtain⟨y,rfl,hRy,hsy⟩:=hP7
      subst hQ7
      rw[r7]
      have hzf:=HZ.out W hE
      have HXF:=zQ hX7
      obtain⟨u0,u1,u2,u3,u4,u5,u6⟩:=hzf.cells
      obtain⟨f0,f1,f2,f3,f4,f5,f6⟩:=hzf.free
      have HZF:=zQ hzf
      have HDF:=zQ (HD.out W hE)
      have HGF:=zQ (HG.out W hE)
      clear hzf hX7
      go_wp2_with fail
      exact made_ret_fin rfl (.mk 13 0 0 0 false [] [x0,x1,y]) (some ⟨g7,0,none⟩) _ d7 (Rt.ite 1 x0 x1 y HR0.out HR1.out hRy) (by rw[size_3'];(try rw[hk]);show _≤5+2*szA k;omega) HXF.out HZF.out hbl HDF.out HGF.out _ hn7.symm rfl
    ·have e14:(k1 == 4)=false:=by rw[beq_eq_false_iff_ne];omega
     clear e3 e4
     go_wp2_with fail
     refine(IH.out _ _ (by omega) hD1).mono ?_
     rintro e w2 ⟨x0,A0,c0,d0,hR0,hs0,rfl,hX0,hD2,hg2⟩
     have hG2:=grown_trans hG1 hg2
     have hz2:=hz1.own hg2 (by simp;omega)
     have hw2:w1.heap.size≤w2.heap.size:=hg2.size
     unfold Ex.cells
     go_upto_region 11 with fail
     obtain⟨w3,hwq3⟩ :∃q,(w2.alloc (.cells #[.int .i64 x0.op,.int .i64 x0.var,.int .i64 x0.ty,.int .i64 x0.n,.bool x0.b,.string ⟨x0.s.toArray⟩,.slice A0 x0.l.length c0] 47))=q:=⟨_,rfl⟩
     have hE3:Ext w2 w3:=by rw[←hwq3];exact Ext.alloc _ _
     have hI0:InBlk w3 w2.heap.size x0 (.slice A0 x0.l.length c0):=by rw[←hwq3];exact InBlk.new _ _ _
     rw[hwq3]
     obtain⟨ba0,hba0⟩ :∃q,w2.heap.size=q:=⟨_,rfl⟩
     rw[hba0]at hI0 ⊢
     have hD3:=hD2.ext hE3
     have hz3:=hz2.ext hE3
     have hG3:=grown_trans hG2 (grown_of hE3 _)
     have hw3:w2.heap.size≤w3.heap.size:=hE3.sz
     replace hX0:=exl_ext hX0 hE3
     have hbb0:b<ba0:=by rw[←hba0];omega
     clear hwq3
     have HI0:=zQ (fun(V:World) (h:DrS b w3.drew V)=>((hI0.ext (Ext.drew w3)).own h.1 (by simp;omega):InBlk V ba0 x0 (.slice A0 x0.l.length c0)))
     have HX0:=zQ (fun(V:World) (h:DrS b w3.drew V)=>exl_own (exl_ext (exl_lo (lo':=w.heap.size+1) hX0 (by omega)) (Ext.drew w3)) h.1 (show b<w.heap.size+1 by omega))
     have HR0:=zQ hR0
     have HD:=zQ (fun(V:World) (h:DrS b w3.drew V)=>h.2 (hD3.ext (Ext.drew w3)))
     have HZ:=zQ (fun(V:World) (h:DrS b w3.drew V)=>((hz3.ext (Ext.drew w3)).own h.1 (by simp;omega):Z7 V w.heap.size))
     have HG:=zQ (fun(V:World) (h:DrS b w3.drew V)=>grown_trans (grown_trans hG3 (grown_of (Ext.drew w3) _)) h.1)
     have HSZ:=zQ (fun(V:World) (h:DrS b w3.drew V)=>(by have h1:=(HG.out V h).size;have h2:w3.heap.size≤V.heap.size:=h.1.size;omega:w.heap.size+1≤V.heap.size))
     clear hI0 hX0 hR0 hD3 hz3 hG3
     apply wp_region_rel (E:=DrS b) (DrS.refl b) (@DrS.trans b) (l:=[_,_,_,_,_,_,_,_,_,_,_,_]) (t:=[_]) [some 48,some 49,some 50,some 51,some 52,some 53,some 54,some 55,some 56,some 57,some 58,some 59,none] [[],[],[1],[0,2],[3],[],[],[],[7],[6,8],[5,9],[4,10],[11]] [12,12,12,12,12,12,12,12,12,12,12,12] [(intsP b [8,9,10,11,12] 5),eqr _,(numP b 0 5),(atIP b (fun o=>8≤o∧o≤12)),(intP b (fun o=>8≤o∧o≤12)),eqr _,eqr _,eqr _,eqr _,(kidP b (w.heap.size+1) (show b<w.heap.size+1 by omega) 1 (szA k)),(rowP b (w.heap.size+1) (show b<w.heap.size+1 by omega) (fun l =>∃y,l=[x0,y]∧Rt y 1∧y.size≤szA k) 2),(opP b (w.heap.size+1) (show b<w.heap.size+1 by omega) (fun o=>8≤o∧o≤12) (fun l =>∃y,l=[x0,y]∧Rt y 1∧y.size≤szA k) 2)] (by kernel_rfl) (by kernel_rfl) ⟨?o0,?o1,?o2,?o3,?o4,?o5,?o6,?o7,?o8,?o9,?o10,?o11,trivial⟩ ?last
     case o1|o6|o7|o8=>
      intro xv W hE hp
      try have q0:xv _=_:=hp.1
      clear hp
      simp only[putD,zC,zB,zE,zD,Act.put,zM,zO,zN]
      refine OpGoal.plain ?_
      go_wp2_with fail
      exact⟨rfl,(DrS.refl b) _,rfl⟩
     case o0=>
      intro xv W hE _
      simp only[putD,zC,zE]
      refine OpGoal.plain ?_
      go_wp2_with fail
      exact⟨rfl,DrS.ext (Ext.alloc _ _),W.heap.size,rfl,by have:=HSZ.out W hE;omega,by simp,fun j x hj=>by rw[World.cell?_alloc_new];match j,hj with|0,h=>cases h;rfl|1,h=>cases h;rfl|2,h=>cases h;rfl|3,h=>cases h;rfl|4,h=>cases h;rfl⟩
     case o2=>
      intro xv W hE hp
      have r1:xv 1=_:=hp.1
      clear hp
      simp only[putD,zC,zB,zE,zD,Act.put,zM,zO,zN]
      refine OpGoal.plain ?_
      go_wp2_with fail
      refine(DN.out 5 W (HD.out W hE) (by decide) (by decide)).mono ?_
      rintro e w' ⟨k,ka,kb,rfl,hD',hg⟩
      go_wp2_with fail
      exact⟨rfl,⟨hg,fun _=>hD'⟩,k,rfl,ka,kb⟩
     case o3=>
      intro xv W hE hp
      obtain⟨g0,r0,lb0,lt0,hc0⟩:=hp.1
      obtain⟨k2,r2,lo2,hi2⟩:=hp.2.1
      clear hp
      obtain⟨jj,rfl⟩ :∃jj:Nat,k2=(jj:Int):=⟨k2.toNat,by omega⟩
      simp only[putD,zC,zB,zE,zD,Act.put,zM,zO,zN]
      refine OpGoal.plain ?_
      go_wp2_with fail
      obtain⟨x,hx,hQx⟩ :∃x:Int,[8,9,10,11,12][jj]?=some x∧8≤x∧x≤12:=by
       rcases(by omega:jj=0∨jj=1∨jj=2∨jj=3∨jj=4) with rfl|rfl|rfl|rfl|rfl<;>exact⟨_,rfl,by decide⟩
      exact⟨rfl,DrS.refl b _,g0,jj,x,rfl,lb0,lt0,hQx,hc0 jj x hx⟩
     case o4=>
      intro xv W hE hp
      obtain⟨g3,j3,x3,r3,lb3,lt3,hQ3,hc3⟩:=hp.1
      clear hp
      obtain⟨j0,j1,j2,j3,j4,j5,j6⟩:=(HI0.out W hE).cells
      simp only[putD,zC,zB,zE,zD,Act.put,zM,zO,zN]
      refine OpGoal.plain ?_
      go_wp2_with fail
      exact⟨rfl,DrS.refl b _,x3,rfl,hQ3⟩
     case o5=>
      intro xv W hE _
      obtain⟨j0,j1,j2,j3,j4,j5,j6⟩:=(HI0.out W hE).cells
      simp only[putD,zC,zE,zD]
      refine OpGoal.plain ?_
      go_wp2_with fail
      exact⟨rfl,(DrS.refl b) _,rfl⟩
     case o9=>
      intro xv W hE hp
      have r6:xv 6=_:=hp.1
      have r8:xv 8=_:=hp.2.1
      clear hp
      simp only[putD,zC,zB,zE,zD,Act.put,zM,zO,zN]
      refine OpGoal.plain ?_
      go_wp2_with fail
      refine(IH.out _ W (by omega) (HD.out W hE)).mono ?_
      rintro e w' ⟨x,A,c,d,hR,hs,rfl,hX,hD',hg'⟩
      have hsz:=HSZ.out W hE
      unfold Ex.cells
      go_wp2_with fail
      exact⟨rfl,⟨hg',fun _=>hD'⟩,x,A,c,d,rfl,hR,hs,exl_lo hX hsz⟩
     case o10=>
      intro xv W hE hp
      have r5:xv 5=_:=hp.1
      obtain⟨y9,A9,c9,d9,r9,hR9,hs9,hX9⟩:=hp.2.1
      clear hp
      simp only[putD,zC,zB,zE,zD,Act.put,zM,zO,zN]
      refine OpGoal.plain ?_
      go_wp2_with fail
      have hx0:=HX0.out W hE
      exact⟨rfl,DrS.ext (Ext.alloc _ _),W.heap.size,[x0,y9],_,rfl,⟨y9,rfl,hR9,hs9⟩,rfl,row2L W _ (HSZ.out W hE) x0 A0 c0 d0 y9 A9 c9 d9 hx0 hX9⟩
     case o11=>
      intro xv W hE hp
      obtain⟨o4,r4,hQ4⟩:=hp.1
      obtain⟨g10,l10,d10,r10,hP10,hn10,hX10⟩:=hp.2.1
      clear hp
      simp only[putD,zC,zB,zE,zD,Act.put,zM,zO,zN]
      refine OpGoal.plain ?_
      go_wp2_with fail
      exact⟨rfl,DrS.refl b _,o4,g10,l10,d10,rfl,hQ4,hP10,hn10,hX10⟩
     case last=>
      intro xv W hE hp
      obtain⟨g0,r0,lb0,lt0,hc0⟩:=hp.1
      have r1:xv 1=_:=hp.2.1
      obtain⟨k2,r2,lo2,hi2⟩:=hp.2.2.1
      obtain⟨g3,j3,x3,r3,lb3,lt3,hQ3,hc3⟩:=hp.2.2.2.1
      obtain⟨o4,r4,hQ4⟩:=hp.2.2.2.2.1
      have r5:xv 5=_:=hp.2.2.2.2.2.1
      have r6:xv 6=_:=hp.2.2.2.2.2.2.1
      have r7:xv 7=_:=hp.2.2.2.2.2.2.2.1
      have r8:xv 8=_:=hp.2.2.2.2.2.2.2.2.1
      obtain⟨y9,A9,c9,d9,r9,hR9,hs9,hX9⟩:=hp.2.2.2.2.2.2.2.2.2.1
      obtain⟨g10,l10,d10,r10,hP10,hn10,hX10⟩:=hp.2.2.2.2.2.2.2.2.2.2.1
      obtain⟨o11,g11,l11,d11,r11,hQ11,hP11,hn11,hX11⟩:=hp.2.2.2.2.2.2.2.2.2.2.2.1
      clear hp
      simp only[putD,zC,zB,zE,zD,Act.put,zF,zG,zK,zL,zI,zA,zM,zO,zN]
      obtain⟨y,rfl,hRy,hsy⟩:=hP11
      rw[r11]
      have hzf:=HZ.out W hE
      have HXF:=zQ hX11
      obtain⟨u0,u1,u2,u3,u4,u5,u6⟩:=hzf.cells
      obtain⟨f0,f1,f2,f3,f4,f5,f6⟩:=hzf.free
      have HZF:=zQ hzf
      have HDF:=zQ (HD.out W hE)
      have HGF:=zQ (HG.out W hE)
      clear hzf hX11
      go_wp2_with fail
      exact made_ret_fin rfl (.mk o11 0 0 0 false [] [x0,y]) (some ⟨g11,0,none⟩) _ d11 (Rt.sum o11 hQ11 x0 y HR0.out hRy) (by rw[size_2'];(try rw[hk]);show _≤5+2*szA k;omega) HXF.out HZF.out hbl HDF.out HGF.out _ hn11.symm rfl
theorem amount_all :∀m:Nat,m≤2→AmtC m
 | 0,h=>amount_step 0 h fun k hk=>by omega
 | m+1,h=>amount_step (m+1) h fun k hk=>by
  obtain rfl:k=m:=by omega
  exact amount_all k (by omega)
end Go.Proofs.YtmiencglfhpmeaaGreatDoor
