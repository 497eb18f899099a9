/- Made rules in memory: what the reference's Made hands back. -/
import Derived.Test.YtmiencglfhpmeaaGreatDoorKQUx
import Derived.Test.YtmiencglfhpmeaaGreatDoorKQSt
import Derived.ArgAppend
import Derived.Test.YtmiencglfhpmeaaGreatDoorKQXg
open List renaming cons_append → zA, flatten_cons → zB, foldl_cons → zC, foldl_nil → zD, getD_cons_succ → zE, getD_cons_zero → zF, getElem?_cons_zero → zG, getElem?_eq_getElem → zH, getElem?_eq_some_iff → zI, getElem_mem → zJ, length_cons → zK, length_map → zL, length_nil → zM, length_set → zN, map_cons → zO, map_set → zP, mem_cons → zQ, mem_or_eq_of_mem_set → zR, mem_singleton → zS, nil_append → zT, not_mem_nil → zU, range_succ → zV, range_zero → zW, setIfInBounds_toArray → zX, set_append_right → zY, set_cons_succ → zZ, set_cons_zero → xA
open Nat renaming le_of_eq → xB, le_trans → xC, lt_of_lt_of_le → xD, zero_add → xE
open Option renaming some.injEq → xF
open Array renaming getElem?_eq_some_iff → xG
open Go.Lib renaming hid → xH
set_option linter.unusedSimpArgs false
set_option linter.unusedVariables false
namespace Go.Proofs.YtmiencglfhpmeaaGreatDoor
open Go.RowKit Hach
structure MdB (W:World) (lo g c d:Nat) (us:List Rn) (l:List Rl):Prop where
 m:us.map (·.r)=l
 o:OwnR W lo (.slice (some ⟨g,0,none⟩) us.length c) us
 k:KidsR W (fun k=>lo≤k∧k<W.heap.size∧k≠g) d us
theorem MdB.lt {W:World}{lo g c d:Nat}{us:List Rn}{l:List Rl}(h:MdB W lo g c d us l):lo≤g∧g<W.heap.size:=h.o.lt g rfl
theorem MdB.len {W:World}{lo g c d:Nat}{us:List Rn}{l:List Rl}(h:MdB W lo g c d us l):us.length=l.length:=by rw[←h.m,zL]
theorem MdB.cap {W:World}{lo g c d:Nat}{us:List Rn}{l:List Rl}(h:MdB W lo g c d us l):l.length≤c∧c<9223372036854775808:=h.len▸h.o.cap
theorem MdB.ext {W W':World}{lo g c d:Nat}{us:List Rn}{l:List Rl}(h:MdB W lo g c d us l) (hE:Ext W W'):MdB W' lo g c d us l:=
 ⟨h.m,h.o.ext hE,KidsR.more (KidsR.keep h.k fun b hb o=>hE.old (p:=⟨b,o,none⟩) hb.2.1) fun b hb=>⟨hb.1,xD hb.2.1 hE.sz,hb.2.2⟩⟩
theorem MdB.at_ {W:World}{lo g c d:Nat}{us:List Rn}{l:List Rl}(h:MdB W lo g c d us l) :∀(j:Nat) (u:Rn),us[j]?=some u→W.rangeAt g (j*30) u.cells:=fun j u hj=>by
 obtain⟨A,c',e,h1⟩:=h.o.form
 obtain⟨b,eA,_,_,eb,h2⟩:=h1 (by have:=(zI.1 hj).1;omega)
 simp only[Value.ownBlock,xF]at eb
 subst eb
 exact h2 j u hj
theorem MdB.rlb {W:World}{lo g c d:Nat}{us:List Rn}{l:List Rl}(h:MdB W lo g c d us l):RlB W W.heap.size d (some ⟨g,0,none⟩) l:=
 h.m▸(OwnR.list h.o (KidsR.more h.k fun b hb=>hb.2.1) (S:=fun b=>b<W.heap.size) fun b _ h2=>h2).1
def MadeL (w:World) (e:Ending) (w':World):Prop :=∃(l:List Rl) (us:List Rn) (g c d:Nat),Mk l∧e=.returned (.slice (some ⟨g,0,none⟩) l.length c)∧MdB w' w.heap.size g c d us l∧Ext w w'
structure MdSt (w1 wr:World) (b:Nat) (ov:Value) (us:List Rn) (d:Nat):Prop where
 o:OwnR wr w1.heap.size ov us
 r:DrA wr b
 g:w1.grownBy wr (some b)
 k:KidsR wr (SO w1.heap.size wr ov) d us
 m:Mk (us.map (·.r))
theorem MdSt.next {w1 wr wF wz:World}{b lo d D:Nat}{ov v':Value}{us:List Rn}{u:Rn}(h:MdSt w1 wr b ov us d) (hlt:b<w1.heap.size) (hg:wr.grownBy wF (some b)) (hR:DrA wF b) (hd:d≤D)
  (hk:u.kids wF (fun k=>lo≤k∧k<wF.heap.size) D) (hlo:wr.heap.size≤lo) (hm:Mk ((us++[u]).map (·.r))) (ho:OwnR wz w1.heap.size v' (us++[u])) (hgz:wF.grownBy wz ov.ownBlock) (hn:v'.ownBlock=ov.ownBlock∨v'.ownBlock=some wF.heap.size):MdSt w1 wz b v' (us++[u]) D:=by
 have h1:=grown_trans h.g hg
 refine⟨ho,hR.own hgz (fun g e=>?_),Wr.grown_own h1 hgz (fun g e=>(h.o.lt g e).1),?_,hm⟩
 ·have:=h.o.lt g e;omega
 ·refine KidsR.step (lo:=lo) (KidsR.deep (KidsR.more (KidsR.keep h.k fun k hk o=>grown_cell hg hk.2.1 (fun e=>?_) o) fun k hk=>?_) hd) hk ?_ (fun k e=>?_) hgz hn
  ·simp only[xF]at e;have:=hk.1;omega
  ·exact⟨hk.1,xD hk.2.1 hg.size,hk.2.2⟩
  ·have:=h.g.size;omega
  ·have:=(h.o.lt k e).2;omega
theorem MdSt.fin {w w1 wr:World}{b d:Nat}{ov:Value}{us:List Rn}(h:MdSt w1 wr b ov us d) (hE:Ext w w1) (hb:w.heap.size≤b):MadeL w (.returned ov) wr:=by
 obtain⟨A,c,e,h1⟩:=h.o.form
 have hp:=h.m.pos
 rw[zL]at hp
 obtain⟨g,eA,hg1,hg2,_,_⟩:=h1 hp
 subst e;subst eA
 have hsz:=hE.sz
 refine⟨us.map (·.r),us,g,c,d,h.m,by rw[zL],⟨rfl,?_,KidsR.more h.k fun k hk=>⟨by have:=hk.1;omega,hk.2.1,fun e=>hk.2.2 (by rw[e];rfl)⟩⟩,ext_fresh hE h.g hb⟩
 obtain⟨h2,h3⟩:=h.o
 refine⟨h2,h3.imp id ?_⟩
 rintro⟨g',cap,cur,k1,k2,k3⟩
 exact⟨g',cap,cur,k1,by omega,k3⟩
theorem MdSt.draw {w1 wr wF:World}{b d:Nat}{ov:Value}{us:List Rn}(h:MdSt w1 wr b ov us d) (hlt:b<w1.heap.size) (hg:wr.grownBy wF (some b)) (hR:DrA wF b):MdSt w1 wF b ov us d:=by
 refine⟨h.o.keep hg ?_,hR,grown_trans h.g hg,?_,h.m⟩
 ·by_cases e:ov.ownBlock=none
  ·exact .inl e
  ·exact .inr fun e=>by have:=(h.o.lt b e).1;omega
 ·refine KidsR.more (KidsR.keep h.k fun k hk o=>grown_cell hg hk.2.1 (fun e=>?_) o) fun k hk=>⟨hk.1,xD hk.2.1 hg.size,hk.2.2⟩
  simp only[xF]at e;have:=hk.1;omega
theorem MdSt.first {w1 W:World}{b d:Nat}{u:Rn}(hD:DrA W b) (hg:w1.grownBy W (some b)) (hk:u.kids W (fun k=>w1.heap.size≤k∧k<W.heap.size) d) (hm:Mk [u.r]):MdSt w1 (W.alloc (.cells u.cells.toArray 49)) b (.slice (some ⟨W.heap.size,0,none⟩) 1 1) [u] d:=by
 have hE:=Ext.alloc W (.cells u.cells.toArray 49)
 refine⟨OwnR.one W _ hg.size u,hD.ext hE,grown_trans hg (grown_of hE _),fun y hy=>?_,hm⟩
 rw[zS.1 hy]
 refine(hk.keep fun k hk o=>hE.old (p:=⟨k,o,none⟩) hk.2).more fun k hk=>⟨hk.1,xD hk.2 hE.sz,fun e=>?_⟩
 simp only[Value.ownBlock,xF]at e;omega
theorem store_Rb {ops:Array Oper}{rest:List Oper}{op:Oper}{a:Act}{w:World}{Q:Exit→Act→World→Prop}(g:Nat) (C:List Value) (u:Rn) (h:w.heap[g]?=some (.cells C.toArray 49 (0,0))) (hC:C.length=30) (hgd:op.guard=none) (x y:Operand) (hop:op.op=.store 49 x y) (hx:a.eval x=.pointer (some ⟨g,0,none⟩)) (hy:a.eval y=.agg u.cells.toArray)
  (hk :∀w',RnB w' g u→w.grownBy w' (some g)→wpList Tryz.prog ops Q rest (a.put op.dst undef) w'):wpList Tryz.prog ops Q (op::rest) a w:=by
 have h30:u.cells.length=30:=rfl
 have hp:=put_mid u.cells C [] [] w (by simpa using h) (by rw[hC,h30])
 obtain⟨i0,hi,_,hz1,_⟩:=info_parts infoR
 refine wpList_store_mid hgd 49 x y hop g 0 u.cells.toArray hx hy (fun j hj=>?_) (by rw[hi];simp[hz1,h30]) (all_oneCell_toArray (rn_one u)) (hk _ (by have:=hp.1;simp only[zT,List.append_nil,zM]at this;exact this) hp.2)
 have hj30:j<30:=by rw[←h30];simpa using hj
 refine⟨?_,by simp[World.frozen?,h]⟩
 have hj2:j<C.length:=by omega
 simp[World.cell?,h,hj2]
theorem zero30_int {W:World}{g:Nat}{T:TypeId}(h:W.heap[g]?=some (.cells zero30 T (0,0))) {i:Nat}{n:Int}(hc:W.cell? ⟨g,i,none⟩=some (.int .i64 n)):n=0:=by
 have h1:zero30[i]?=some (.int .i64 n):=by simpa[World.cell?,h]using hc
 have h2:(Value.int .i64 n)∈zero30.toList:=by
  obtain⟨hi,e⟩:=xG.1 h1
  rw[←e];exact Array.getElem_mem_toList hi
 simpa[zero30]using h2
theorem rt_op {x:Ex}{t:Int}(h:Rt x t):1≤x.op ∧∀y∈x.l,∃t',Rt y t':=by
 cases h with
 | con v h=>exact⟨by show(1:Int)≤1;omega,fun y hy=>by cases hy⟩
 | var v h=>exact⟨by show(1:Int)≤2;omega,fun y hy=>by cases hy⟩
 | not a ha=>exact⟨by show(1:Int)≤3;omega,fun y hy=>by
   simp only[Ex.l,zQ,zU,or_false]at hy;subst hy;exact⟨_,ha⟩⟩
 | log op h a b ha hb=>exact⟨by show(1:Int)≤op;omega,fun y hy=>by
   simp only[Ex.l,zQ,zU,or_false]at hy
   rcases hy with rfl|rfl
   ·exact⟨_,ha⟩
   ·exact⟨_,hb⟩⟩
 | eq t a b ha hb=>exact⟨by show(1:Int)≤6;omega,fun y hy=>by
   simp only[Ex.l,zQ,zU,or_false]at hy
   rcases hy with rfl|rfl
   ·exact⟨_,ha⟩
   ·exact⟨_,hb⟩⟩
 | less a b ha hb=>exact⟨by show(1:Int)≤7;omega,fun y hy=>by
   simp only[Ex.l,zQ,zU,or_false]at hy
   rcases hy with rfl|rfl
   ·exact⟨_,ha⟩
   ·exact⟨_,hb⟩⟩
 | sum op h a b ha hb=>exact⟨by show(1:Int)≤op;omega,fun y hy=>by
   simp only[Ex.l,zQ,zU,or_false]at hy
   rcases hy with rfl|rfl
   ·exact⟨_,ha⟩
   ·exact⟨_,hb⟩⟩
 | ite t a b c ha hb hc=>exact⟨by show(1:Int)≤13;omega,fun y hy=>by
   simp only[Ex.l,zQ,zU,or_false]at hy
   rcases hy with rfl|rfl|rfl
   ·exact⟨_,ha⟩
   ·exact⟨_,hb⟩
   ·exact⟨_,hc⟩⟩
theorem exl_ne {W:World}{S:Nat→Prop}{g:Nat}{T:TypeId}(hg:W.heap[g]?=some (.cells zero30 T (0,0))) :∀ {d:Nat}{A:Option Addr}{l:List Ex},(∀y∈l,∃t,Rt y t)→ExL W S d A l→ExL W (fun k=>S k∧k≠g) d A l
 | 0,_,_,_,h=>h
 | d+1,A,l,hr,h=>fun hl=>by
  obtain⟨b,o,e,hb,hx⟩:=h hl
  refine⟨b,o,e,⟨hb,?_⟩,fun j x hj=>?_⟩
  ·rintro rfl
   have hp:0<l.length:=List.length_pos_iff.2 hl
   obtain⟨A',c',_,h2⟩:=hx 0 l[0] (zH hp)
   obtain⟨t,ht⟩:=hr l[0] (zJ hp)
   have h3:=zero30_int hg (h2 0 (.int .i64 (l[0]).op) rfl)
   have h4:=(rt_op ht).1
   omega
  ·obtain⟨A',c',h1,h2⟩:=hx j x hj
   have hm:x∈l:=List.mem_of_getElem? hj
   obtain⟨t,ht⟩:=hr x hm
   exact⟨A',c',exl_ne hg (rt_op ht).2 h1,h2⟩
theorem kids_ne {W:World}{S:Nat→Prop}{g d:Nat}{T:TypeId}{u:Rn}(hg:W.heap[g]?=some (.cells zero30 T (0,0))) (hm:Mk1 u.r) (h:u.kids W S d):u.kids W (fun k=>S k∧k≠g) d:=
 ⟨exl_ne hg (rt_op (tyE_rt hm.e1).1).2 h.k1,exl_ne hg (rt_op (tyE_rt hm.e2).1).2 h.k2,exl_ne hg (rt_op (tyE_rt hm.e3).1).2 h.k3,exl_ne hg (rt_op (tyE_rt hm.e4).1).2 h.k4⟩
def rlvP (b lo:Nat) (hb:b<lo) (P:Rl→Prop):SPr (DrS b):=⟨fun v W =>∃(u:Rn) (d:Nat),v=.agg #[.string ⟨u.r.nm.toArray⟩,.int .i64 u.r.pr,.int .i64 u.r.e1.op,.int .i64 u.r.e1.var,.int .i64 u.r.e1.ty,.int .i64 u.r.e1.n,.bool u.r.e1.b,.string ⟨u.r.e1.s.toArray⟩,.slice u.A1 u.r.e1.l.length u.c1,.int .i64 u.r.e2.op,.int .i64 u.r.e2.var,.int .i64 u.r.e2.ty,.int .i64 u.r.e2.n,.bool u.r.e2.b,.string ⟨u.r.e2.s.toArray⟩,.slice u.A2 u.r.e2.l.length u.c2,.int .i64 u.r.e3.op,.int .i64 u.r.e3.var,.int .i64 u.r.e3.ty,.int .i64 u.r.e3.n,.bool u.r.e3.b,.string ⟨u.r.e3.s.toArray⟩,.slice u.A3 u.r.e3.l.length u.c3,.int .i64 u.r.e4.op,.int .i64 u.r.e4.var,.int .i64 u.r.e4.ty,.int .i64 u.r.e4.n,.bool u.r.e4.b,.string ⟨u.r.e4.s.toArray⟩,.slice u.A4 u.r.e4.l.length u.c4]∧P u.r∧u.kids W (fun k=>lo≤k∧k<W.heap.size) d,fun h hE=>by
 obtain⟨u,d,e,h1,h2⟩:=h
 exact⟨u,d,e,h1,exl_own h2.k1 hE.1 hb,exl_own h2.k2 hE.1 hb,exl_own h2.k3 hE.1 hb,exl_own h2.k4 hE.1 hb⟩⟩
def zrP (b lo:Nat) (hb:b<lo):SPr (DrS b):=⟨fun v W =>∃g,v=.pointer (some ⟨g,0,none⟩)∧lo≤g∧W.heap[g]?=some (.cells zero30 49 (0,0)),fun h hE=>by
 obtain⟨g,e,h1,h2⟩:=h
 exact⟨g,e,h1,(hE.1.block g (xG.1 h2).1 (by simp;omega)).trans h2⟩⟩
def strsP (b:Nat) (L:List (List UInt8)) (n:Nat):SPr (DrS b):=⟨fun v W =>∃g,v=.slice (some ⟨g,0,none⟩) n n∧b<g∧g<W.heap.size ∧∀j,j<n→W.cell? ⟨g,j,none⟩=some (.string ⟨(L.getD j []).toArray⟩),fun h hE=>by
 obtain⟨g,e,h1,h2,h3⟩:=h
 exact⟨g,e,h1,xD h2 hE.1.size,fun j hj=>(grown_cell hE.1 h2 (by simp;omega) j).trans (h3 j hj)⟩⟩
def atSP (b:Nat) (Q:List UInt8→Prop):SPr (DrS b):=⟨fun v W =>∃(g j:Nat) (s:List UInt8),v=.pointer (some ⟨g,j,none⟩)∧b<g∧g<W.heap.size∧Q s∧W.cell? ⟨g,j,none⟩=some (.string ⟨s.toArray⟩),fun h hE=>by
 obtain⟨g,j,s,e,h1,h2,hj,h3⟩:=h
 exact⟨g,j,s,e,h1,xD h2 hE.1.size,hj,(grown_cell hE.1 h2 (by simp;omega) j).trans h3⟩⟩
def strP (b:Nat) (Q:List UInt8→Prop):SPr (DrS b):=⟨fun v _ =>∃s:List UInt8,v=.string ⟨s.toArray⟩∧Q s,fun h _=>h⟩
end Go.Proofs.YtmiencglfhpmeaaGreatDoor
namespace Go.Proofs.YtmiencglfhpmeaaGreatDoor
open Go.RowKit Hach
set_option maxRecDepth 100000 in
set_option maxHeartbeats 16000000 in
theorem rMade_any (A:Option Addr) (n c:Nat) (w:World) (hL:LI w A n):Calls Tryz.prog 25 #[.slice A n c] w (MadeL w):=by
 have hD1:=DrA.new c hL
 have hE1:Ext w (w.alloc (.cells #[.slice A n c,.int .i64 0] 86)):=Ext.alloc _ _
 obtain⟨w1,hw1⟩ :∃q,w.alloc (.cells #[.slice A n c,.int .i64 0] 86)=q:=⟨_,rfl⟩
 obtain⟨b,hb⟩ :∃q,w.heap.size=q:=⟨_,rfl⟩
 have hb1:b<w1.heap.size:=by rw[←hw1,←hb];simp
 rw[hw1]at hD1 hE1
 rw[hb]at hD1
 have hbw:w.heap.size≤b:=xB hb
 have HBW:=xH hbw
 have HW1:=xH hw1
 have HB1:=xH hb
 have HE1:=xH hE1
 obtain⟨w2,hw2⟩ :∃q,w1.alloc (.cells #[.int .i64 1,.int .i64 0,.int .i64 2,.int .i64 0,.bool true,.string ⟨#[]⟩,.slice none 0 0] 47)=q:=⟨_,rfl⟩
 have hI2:InBlk w2 w1.heap.size yesE (.slice none 0 0):=by rw[←hw2];exact InBlk.new w1 yesE _
 have hE2:Ext w1 w2:=by rw[←hw2];exact Ext.alloc _ _
 have hD2:=hD1.ext hE2
 have HW2:=xH hw2
 have HI:=xH (fun(V:World) (h:DrS b w2.drew V)=>((hI2.ext (Ext.drew w2)).own h.1 (by simp;omega):InBlk V w1.heap.size yesE (.slice none 0 0)))
 have HD:=xH (fun(V:World) (h:DrS b w2.drew V)=>h.2 (hD2.ext (Ext.drew w2)))
 have HSZ:=xH (fun(V:World) (h:DrS b w2.drew V)=>(xC hE2.sz h.1.size:w1.heap.size≤V.heap.size))
 have HG:=xH (fun(V:World) (h:DrS b w2.drew V)=>(grown_trans (grown_of (hE2.trans (Ext.drew w2)) (some b)) h.1:w1.grownBy V (some b)))
 have DN:=xH (fun(m:Int) (W:World) (h:DrA W b) (h1:0<m) (h2:m<4294967296)=>draw_any m b W h h1 h2)
 have NU:=xH (fun(n:Int) (W:World)=>number_any' n W)
 have AM1:=xH (fun(W:World) (h:DrA W b)=>amount_all 1 (by decide) 1 b W rfl h)
 have AM2:=xH (fun(W:World) (h:DrA W b)=>amount_all 2 (by decide) 2 b W rfl h)
 have CO2:=xH (fun(W:World) (h:DrA W b)=>cond_all 2 (by decide) 2 b W rfl h)
 unfold New0 at NU
 unfold dp at DN AM1 AM2 CO2
 clear hw1 hb hE1 hw2 hI2 hE2 hD2 hD1 hL hbw
 go_enter Tryz.func25,Tryz.ntmps25
 go_upto_region 2 with fail
 rw[HW1.out,HB1.out]
 go_upto_region 3 with fail
 rw[HW2.out]
 apply wp_region_rel (E:=DrS b) (DrS.refl b) (@DrS.trans b) (l:=[_,_,_,_,_,_,_,_,_,_,_,_]) (t:=[_,_]) [some 14,some 15,some 16,some 17,some 18,some 19,some 20,some 21,some 22,some 23,some 24,some 25,some 26,some 5] [[],[],[1],[],[3],[4],[5],[],[7],[8],[9],[0,2,6,10],[11],[12]] [11,2,11,4,6,6,11,8,10,10,11,12] [eqr _,eqr _,(kidP b w1.heap.size hb1 1 (szA 1)),eqr _,(numP b 0 3),(numP b 1 4),(kidP b w1.heap.size hb1 1 1),eqr _,(numP b 0 4),(numP b 1 5),(kidP b w1.heap.size hb1 1 1),(rlvP b w1.heap.size hb1 (fun r=>r.nm=[97,108,108]∧r.pr=0∧r.e1=yesE∧Mk1 r))] (by kernel_rfl) (by kernel_rfl) ⟨?o0,?o1,?o2,?o3,?o4,?o5,?o6,?o7,?o8,?o9,?o10,?o11,trivial⟩ ?last
 case o1|o3|o7=>
  intro xv W hE hp
  try have q0:xv _=_:=hp.1
  clear hp
  simp only[putD,zD,zC,zF,zE,Act.put,zX,xA,zZ]
  refine OpGoal.plain ?_
  go_wp2_with fail
  exact⟨rfl,(DrS.refl b) _,rfl⟩
 case o0=>
  intro xv W hE _
  obtain⟨j0,j1,j2,j3,j4,j5,j6⟩:=(HI.out W hE).cells
  simp only[putD,zD,zF]
  refine OpGoal.plain ?_
  go_wp2_with fail
  exact⟨rfl,(DrS.refl b) _,rfl⟩
 case o2=>
  intro xv W hE hp
  have r1:xv 1=_:=hp.1
  clear hp
  simp only[putD,zD,zC,zF,zE,Act.put,zX,xA,zZ]
  refine OpGoal.plain ?_
  go_wp2_with fail
  refine(AM1.out W (HD.out W hE)).mono ?_
  rintro e w' ⟨x,A,c,d,hR,hs,rfl,hX,hD',hg'⟩
  have hsz:=HSZ.out W hE
  unfold Ex.cells
  go_wp2_with fail
  exact⟨rfl,⟨hg',fun _=>hD'⟩,x,A,c,d,rfl,hR,hs,exl_lo hX hsz⟩
 case o4=>
  intro xv W hE hp
  have r3:xv 3=_:=hp.1
  clear hp
  simp only[putD,zD,zC,zF,zE,Act.put,zX,xA,zZ]
  refine OpGoal.plain ?_
  go_wp2_with fail
  refine(DN.out 3 W (HD.out W hE) (by decide) (by decide)).mono ?_
  rintro e w' ⟨k,ka,kb,rfl,hD',hg⟩
  go_wp2_with fail
  exact⟨rfl,⟨hg,fun _=>hD'⟩,k,rfl,ka,kb⟩
 case o5=>
  intro xv W hE hp
  obtain⟨k4,r4,lo4,hi4⟩:=hp.1
  clear hp
  simp only[putD,zD,zC,zF,zE,Act.put,zX,xA,zZ]
  refine OpGoal.plain ?_
  go_wp2_with fail
  exact⟨rfl,DrS.refl b _,1+k4,rfl,by omega,by omega⟩
 case o6=>
  intro xv W hE hp
  obtain⟨k5,r5,lo5,hi5⟩:=hp.1
  clear hp
  simp only[putD,zD,zC,zF,zE,Act.put,zX,xA,zZ]
  refine OpGoal.plain ?_
  go_wp2_with fail
  refine(NU.out k5 W).mono ?_
  rintro e w' ⟨rfl,hE9⟩
  unfold Ex.cells
  go_wp2_with fail
  exact⟨rfl,DrS.ext hE9,numE k5,none,0,0,rfl,num_rt (by omega),xB (num_size _),ExL.nil _ _ _ _⟩
 case o8=>
  intro xv W hE hp
  have r7:xv 7=_:=hp.1
  clear hp
  simp only[putD,zD,zC,zF,zE,Act.put,zX,xA,zZ]
  refine OpGoal.plain ?_
  go_wp2_with fail
  refine(DN.out 4 W (HD.out W hE) (by decide) (by decide)).mono ?_
  rintro e w' ⟨k,ka,kb,rfl,hD',hg⟩
  go_wp2_with fail
  exact⟨rfl,⟨hg,fun _=>hD'⟩,k,rfl,ka,kb⟩
 case o9=>
  intro xv W hE hp
  obtain⟨k8,r8,lo8,hi8⟩:=hp.1
  clear hp
  simp only[putD,zD,zC,zF,zE,Act.put,zX,xA,zZ]
  refine OpGoal.plain ?_
  go_wp2_with fail
  exact⟨rfl,DrS.refl b _,1+k8,rfl,by omega,by omega⟩
 case o10=>
  intro xv W hE hp
  obtain⟨k9,r9,lo9,hi9⟩:=hp.1
  clear hp
  simp only[putD,zD,zC,zF,zE,Act.put,zX,xA,zZ]
  refine OpGoal.plain ?_
  go_wp2_with fail
  refine(NU.out k9 W).mono ?_
  rintro e w' ⟨rfl,hE9⟩
  unfold Ex.cells
  go_wp2_with fail
  exact⟨rfl,DrS.ext hE9,numE k9,none,0,0,rfl,num_rt (by omega),xB (num_size _),ExL.nil _ _ _ _⟩
 case o11=>
  intro xv W hE hp
  have r0:xv 0=_:=hp.1
  obtain⟨x2,A2,c2,d2,r2,hR2,hs2,hX2⟩:=hp.2.1
  obtain⟨x6,A6,c6,d6,r6,hR6,hs6,hX6⟩:=hp.2.2.1
  obtain⟨x10,A10,c10,d10,r10,hR10,hs10,hX10⟩:=hp.2.2.2.1
  clear hp
  simp only[putD,zD,zC,zF,zE,Act.put,zX,xA,zZ]
  refine OpGoal.plain ?_
  go_wp2_with fail
  exact⟨rfl,DrS.refl b _,⟨⟨[97,108,108],0,yesE,x2,x6,x10⟩,none,A2,A6,A10,0,c2,c6,c10⟩,d2+d6+d10,rfl,⟨rfl,rfl,rfl,Mk1.of ⟨(by show(0:Int)≤0;decide),(by show(0:Int)≤1000;decide)⟩ yes_rt (by show yesE.size≤60;decide) hR2 (xC hs2 (by decide)) hR6 (xC hs6 (by decide)) hR10 (xC hs10 (by decide))⟩,⟨ExL.nil _ _ _ _,hX2.deep (by omega),hX6.deep (by omega),hX10.deep (by omega)⟩⟩
 case last=>
  intro xv W hE hp
  have r0:xv 0=_:=hp.1
  have r1:xv 1=_:=hp.2.1
  obtain⟨x2,A2,c2,d2,r2,hR2,hs2,hX2⟩:=hp.2.2.1
  have r3:xv 3=_:=hp.2.2.2.1
  obtain⟨k4,r4,lo4,hi4⟩:=hp.2.2.2.2.1
  obtain⟨k5,r5,lo5,hi5⟩:=hp.2.2.2.2.2.1
  obtain⟨x6,A6,c6,d6,r6,hR6,hs6,hX6⟩:=hp.2.2.2.2.2.2.1
  have r7:xv 7=_:=hp.2.2.2.2.2.2.2.1
  obtain⟨k8,r8,lo8,hi8⟩:=hp.2.2.2.2.2.2.2.2.1
  obtain⟨k9,r9,lo9,hi9⟩:=hp.2.2.2.2.2.2.2.2.2.1
  obtain⟨x10,A10,c10,d10,r10,hR10,hs10,hX10⟩:=hp.2.2.2.2.2.2.2.2.2.2.1
  obtain⟨u11,d11,r11,hP11,hk11⟩:=hp.2.2.2.2.2.2.2.2.2.2.2.1
  clear hp
  simp only[putD,zD,zC,zF,zE,Act.put,zK,zM,zV,zW,zT,zA,zX,xA,zZ]
  rw[r11]
  have HDW:=HD.out W hE
  have HGW:=HG.out W hE
  have HS4:=xH (MdSt.first HDW HGW hk11 (Mk.first hP11.1 hP11.2.1 hP11.2.2.1 hP11.2.2.2))
  clear HDW HGW hP11 hk11 hE HI HD HSZ HG hR2 hs2 hX2 hR6 hs6 hX6 hR10 hs10 hX10 lo4 hi4 lo5 hi5 lo8 hi8 lo9 hi9
  go_upto_region 4 with fail
  show Code.wp _ _ _ _ (W.alloc (.cells u11.cells.toArray 49))
  obtain⟨w4,hw4⟩ :∃q,W.alloc (.cells u11.cells.toArray 49)=q:=⟨_,rfl⟩
  rw[hw4]at HS4 ⊢
  clear hw4 r0 r1 r2 r3 r4 r5 r6 r7 r8 r9 r10 r11
  go_wp2_with fail
  refine(DN.out 4 _ HS4.out.r (by decide) (by decide)).mono ?_
  rintro e w5 ⟨many,m0,m4,rfl,hD5,hg5⟩
  obtain⟨m,rfl⟩:=Int.eq_ofNat_of_zero_le m0
  have HS5:=xH (HS4.out.draw hb1 hg5 hD5)
  clear hD5 hg5 HS4
  have hm4:m<4:=by omega
  go_wp2_with fail
  go_loopw [5,7] (fun ov kv wr =>∃(k:Nat) (us:List Rn) (d:Nat),k≤m∧kv=.int .i64 (k:Int)∧Hid (MdSt w1 wr b ov us d)∧us.length=k+1) (fun _ kv _=>m-(intOf kv).toNat)
  case atStart=>exact⟨0,[u11],d11,Nat.zero_le _,rfl,HS5,rfl⟩
  case round=>
   obtain⟨k,us,d,hk,rfl,HS,hlen⟩:=hrel
   have HLEN:=xH hlen
   have hus4:us.length≤4:=by omega
   clear hlen
   obtain⟨wo,hwo⟩ :∃q,q=wr:=⟨_,rfl⟩
   subst hwo
   obtain⟨A0,c0,e,_⟩:=HS.out.o.form
   subst e
   by_cases hlt:k<m
   ·have t1:decide (k<m)=true:=by simpa using hlt
    have hk3:k<3:=by omega
    have hb2:b<wo.heap.size:=HS.out.r.lt
    have HD:=xH (fun(V:World) (h:DrS b wo.drew V)=>h.2 (HS.out.r.ext (Ext.drew wo)))
    have HSZ:=xH (fun(V:World) (h:DrS b wo.drew V)=>(show wo.heap.size≤V.heap.size from h.1.size))
    go_upto_region 8 with fail
    apply wp_region_rel (E:=DrS b) (DrS.refl b) (@DrS.trans b) (l:=[_,_,_,_,_,_,_,_,_,_,_,_,_,_,_,_,_]) (t:=[_]) [some 34,some 35,some 36,some 37,some 38,some 39,some 40,some 41,some 42,some 43,some 44,some 45,some 46,some 47,some 48,some 49,some 8,none] [[],[],[0,1],[2],[],[4],[5],[],[7],[],[9],[],[11],[],[13],[3,6,8,10,12,14],[],[15,16]] [17,17,17,17,17,17,17,17,17,17,17,17,17,17,17,17,17] [(strsP b (nmsL.drop 1) 3),eqr _,(atSP b (fun s=>s=nmsL.getD (k+1) [])),(strP b (fun s=>s=nmsL.getD (k+1) [])),eqr _,(numP b 0 3),(numP b 1 4),eqr _,(kidP b wo.heap.size hb2 2 (szC 2)),eqr _,(kidP b wo.heap.size hb2 1 (szA 2)),eqr _,(kidP b wo.heap.size hb2 1 (szA 1)),eqr _,(kidP b wo.heap.size hb2 1 (szA 1)),(rlvP b wo.heap.size hb2 (fun r=>r.nm=nmsL.getD (k+1) []∧Mk1 r)),(zrP b wo.heap.size hb2)] (by kernel_rfl) (by kernel_rfl) ⟨?o0,?o1,?o2,?o3,?o4,?o5,?o6,?o7,?o8,?o9,?o10,?o11,?o12,?o13,?o14,?o15,?o16,trivial⟩ ?last
    case o1|o4|o7|o9|o11|o13=>
     intro xv V hE hp
     try have q0:xv _=_:=hp.1
     clear hp
     simp only[putD,zD,zC,zF,zE,Act.put,zX,xA,zZ]
     refine OpGoal.plain ?_
     go_wp2_with fail
     exact⟨rfl,(DrS.refl b) _,rfl⟩
    case o0=>
     intro xv V hE _
     simp only[putD,zD,zF]
     refine OpGoal.plain ?_
     go_wp2_with fail
     exact⟨rfl,DrS.ext (Ext.alloc _ _),V.heap.size,rfl,by have:=HSZ.out V hE;omega,by simp,fun j hj=>by rw[World.cell?_alloc_new];rcases(by omega:j=0∨j=1∨j=2) with rfl|rfl|rfl<;>rfl⟩
    case o2=>
     intro xv V hE hp
     obtain⟨g0,r0,lb0,lt0,hc0⟩:=hp.1
     have r1:xv 1=_:=hp.2.1
     clear hp
     simp only[putD,zD,zC,zF,zE,Act.put,zX,xA,zZ]
     refine OpGoal.plain ?_
     go_wp2_with fail
     exact⟨rfl,DrS.refl b _,g0,k,nmsL.getD (k+1) [],rfl,lb0,lt0,rfl,by rw[hc0 k hk3];simp[List.getD_eq_getElem?_getD,Nat.add_comm]⟩
    case o3=>
     intro xv V hE hp
     obtain⟨g2,j2,s2,r2,lb2,lt2,hQ2,hc2⟩:=hp.1
     clear hp
     have HQ2:=xH hQ2
     clear hQ2
     simp only[putD,zD,zC,zF,zE,Act.put,zX,xA,zZ]
     refine OpGoal.plain ?_
     go_wp2_with fail
     exact⟨rfl,DrS.refl b _,s2,rfl,HQ2.out⟩
    case o5=>
     intro xv V hE hp
     have r4:xv 4=_:=hp.1
     clear hp
     simp only[putD,zD,zC,zF,zE,Act.put,zX,xA,zZ]
     refine OpGoal.plain ?_
     go_wp2_with fail
     refine(DN.out 3 V (HD.out V hE) (by decide) (by decide)).mono ?_
     rintro e w' ⟨k,ka,kb,rfl,hD',hg⟩
     go_wp2_with fail
     exact⟨rfl,⟨hg,fun _=>hD'⟩,k,rfl,ka,kb⟩
    case o6=>
     intro xv V hE hp
     obtain⟨k5,r5,lo5,hi5⟩:=hp.1
     clear hp
     simp only[putD,zD,zC,zF,zE,Act.put,zX,xA,zZ]
     refine OpGoal.plain ?_
     go_wp2_with fail
     exact⟨rfl,DrS.refl b _,1+k5,rfl,by omega,by omega⟩
    case o8=>
     intro xv V hE hp
     have r7:xv 7=_:=hp.1
     clear hp
     simp only[putD,zD,zC,zF,zE,Act.put,zX,xA,zZ]
     refine OpGoal.plain ?_
     go_wp2_with fail
     refine(CO2.out V (HD.out V hE)).mono ?_
     rintro e w' ⟨x,A,c,d,hR,hs,rfl,hX,hD',hg'⟩
     have hsz:=HSZ.out V hE
     unfold Ex.cells
     go_wp2_with fail
     exact⟨rfl,⟨hg',fun _=>hD'⟩,x,A,c,d,rfl,hR,hs,exl_lo hX hsz⟩
    case o10=>
     intro xv V hE hp
     have r9:xv 9=_:=hp.1
     clear hp
     simp only[putD,zD,zC,zF,zE,Act.put,zX,xA,zZ]
     refine OpGoal.plain ?_
     go_wp2_with fail
     refine(AM2.out V (HD.out V hE)).mono ?_
     rintro e w' ⟨x,A,c,d,hR,hs,rfl,hX,hD',hg'⟩
     have hsz:=HSZ.out V hE
     unfold Ex.cells
     go_wp2_with fail
     exact⟨rfl,⟨hg',fun _=>hD'⟩,x,A,c,d,rfl,hR,hs,exl_lo hX hsz⟩
    case o12=>
     intro xv V hE hp
     have r11:xv 11=_:=hp.1
     clear hp
     simp only[putD,zD,zC,zF,zE,Act.put,zX,xA,zZ]
     refine OpGoal.plain ?_
     go_wp2_with fail
     refine(AM1.out V (HD.out V hE)).mono ?_
     rintro e w' ⟨x,A,c,d,hR,hs,rfl,hX,hD',hg'⟩
     have hsz:=HSZ.out V hE
     unfold Ex.cells
     go_wp2_with fail
     exact⟨rfl,⟨hg',fun _=>hD'⟩,x,A,c,d,rfl,hR,hs,exl_lo hX hsz⟩
    case o14=>
     intro xv V hE hp
     have r13:xv 13=_:=hp.1
     clear hp
     simp only[putD,zD,zC,zF,zE,Act.put,zX,xA,zZ]
     refine OpGoal.plain ?_
     go_wp2_with fail
     refine(AM1.out V (HD.out V hE)).mono ?_
     rintro e w' ⟨x,A,c,d,hR,hs,rfl,hX,hD',hg'⟩
     have hsz:=HSZ.out V hE
     unfold Ex.cells
     go_wp2_with fail
     exact⟨rfl,⟨hg',fun _=>hD'⟩,x,A,c,d,rfl,hR,hs,exl_lo hX hsz⟩
    case o15=>
     intro xv V hE hp
     obtain⟨s3,r3,hQ3⟩:=hp.1
     obtain⟨k6,r6,lo6,hi6⟩:=hp.2.1
     obtain⟨x8,A8,c8,d8,r8,hR8,hs8,hX8⟩:=hp.2.2.1
     obtain⟨x10,A10,c10,d10,r10,hR10,hs10,hX10⟩:=hp.2.2.2.1
     obtain⟨x12,A12,c12,d12,r12,hR12,hs12,hX12⟩:=hp.2.2.2.2.1
     obtain⟨x14,A14,c14,d14,r14,hR14,hs14,hX14⟩:=hp.2.2.2.2.2.1
     clear hp
     have HQ3:=xH hQ3
     clear hQ3
     simp only[putD,zD,zC,zF,zE,Act.put,zX,xA,zZ]
     refine OpGoal.plain ?_
     go_wp2_with fail
     exact⟨rfl,DrS.refl b _,⟨⟨s3,k6,x8,x10,x12,x14⟩,A8,A10,A12,A14,c8,c10,c12,c14⟩,d8+d10+d12+d14,rfl,⟨HQ3.out,Mk1.of ⟨(by omega:0≤k6),(by omega:k6≤1000)⟩ hR8 (xC hs8 (by decide)) hR10 (xC hs10 (by decide)) hR12 (xC hs12 (by decide)) hR14 (xC hs14 (by decide))⟩,⟨hX8.deep (by omega),hX10.deep (by omega),hX12.deep (by omega),hX14.deep (by omega)⟩⟩
    case o16=>
     intro xv V hE _
     simp only[putD,zD,zF,zE]
     refine OpGoal.plain ?_
     go_wp2_with fail
     exact⟨rfl,DrS.ext (Ext.alloc _ _),V.heap.size,rfl,HSZ.out V hE,Go.heap_alloc_new _ _⟩
    case last=>
     intro xv V hE hp
     obtain⟨g0,r0,lb0,lt0,hc0⟩:=hp.1
     have r1:xv 1=_:=hp.2.1
     obtain⟨g2,j2,s2,r2,lb2,lt2,hQ2,hc2⟩:=hp.2.2.1
     obtain⟨s3,r3,hQ3⟩:=hp.2.2.2.1
     have r4:xv 4=_:=hp.2.2.2.2.1
     obtain⟨k5,r5,lo5,hi5⟩:=hp.2.2.2.2.2.1
     obtain⟨k6,r6,lo6,hi6⟩:=hp.2.2.2.2.2.2.1
     have r7:xv 7=_:=hp.2.2.2.2.2.2.2.1
     obtain⟨x8,A8,c8,d8,r8,hR8,hs8,hX8⟩:=hp.2.2.2.2.2.2.2.2.1
     have r9:xv 9=_:=hp.2.2.2.2.2.2.2.2.2.1
     obtain⟨x10,A10,c10,d10,r10,hR10,hs10,hX10⟩:=hp.2.2.2.2.2.2.2.2.2.2.1
     have r11:xv 11=_:=hp.2.2.2.2.2.2.2.2.2.2.2.1
     obtain⟨x12,A12,c12,d12,r12,hR12,hs12,hX12⟩:=hp.2.2.2.2.2.2.2.2.2.2.2.2.1
     have r13:xv 13=_:=hp.2.2.2.2.2.2.2.2.2.2.2.2.2.1
     obtain⟨x14,A14,c14,d14,r14,hR14,hs14,hX14⟩:=hp.2.2.2.2.2.2.2.2.2.2.2.2.2.2.1
     obtain⟨u15,d15,r15,hP15,hk15⟩:=hp.2.2.2.2.2.2.2.2.2.2.2.2.2.2.2.1
     obtain⟨g16,r16,lo16,hz16⟩:=hp.2.2.2.2.2.2.2.2.2.2.2.2.2.2.2.2.1
     clear hp
     simp only[putD,zD,zC,zF,zE,Act.put,zK,zM,zV,zW,zT,zA,zX,xA,zZ]
     rw[r15,r16]
     have hgV:wo.grownBy V (some b):=grown_trans (grown_of (Ext.drew wo) _) hE.1
     have hDV:=HD.out V hE
     have hkn:=kids_ne hz16 hP15.2 hk15
     have hltg:g16<V.heap.size:=(xG.1 hz16).1
     have HDV:=xH hDV
     have HGV:=xH hgV
     have HKN:=xH hkn
     have HP15:=xH hP15
     clear hE hDV hgV hkn hk15 hP15 HD HSZ lb0 lt0 hc0 lb2 lt2 hQ2 hc2 hQ3 hR8 hs8 hX8 hR10 hs10 hX10 hR12 hs12 hX12 hR14 hs14 hX14 lo5 hi5 lo6 hi6
     go_upto_region 9 with(refine store_Rb g16 zero30.toList u15 hz16 rfl rfl _ _ rfl rfl rfl ?_;intro wS hBS hgS)
     have HGS:=xH (grown_fresh HGV.out lo16 hgS)
     have HDS:=xH (HDV.out.own hgS fun g e=>by simp only[xF]at e;omega)
     have HK:Hid (u15.kids wS (fun k=>wo.heap.size≤k∧k<wS.heap.size) d15):=xH ((HKN.out.keep fun k hk o=>grown_cell hgS hk.1.2 (by have:=hk.2;simp;omega) o).more fun k hk=>⟨hk.1.1,xD hk.1.2 hgS.size⟩)
     have hrx:=hBS.range
     unfold Rn.cells at hrx
     have HOWN:Hid (OwnR (wS.alloc (.cells u15.cells.toArray 49)) w1.heap.size (.slice A0 us.length c0) us):=xH ((HS.out.o.keep HGS.out (by by_cases e:(Value.slice A0 us.length c0).ownBlock=none;exact .inl e;exact .inr (fun h=>by have:=(HS.out.o.lt b h).1;omega))).ext (Ext.alloc _ _))
     have HCG:Hid (∀(j:Nat) (t:Rn),[u15][j]?=some t→(wS.alloc (.cells u15.cells.toArray 49)).rangeAt wS.heap.size (0+j*30) t.cells):=xH (fun j t ht=>by
      match j,ht with
      | 0,ht=>simp only[zG,xF]at ht;subst ht;exact range_new wS u15.cells _
      | j+1,ht=>simp at ht)
     have hu2:us.length+[u15].length<4294967296:=by simp;omega
     have hb3:w1.heap.size≤(wS.alloc (.cells u15.cells.toArray 49)).heap.size:=xC HS.out.g.size (xC HGS.out.size (by simp))
     clear hz16 HKN HGV HDV hgS hBS
     go_wp2_with (first|(refine load_R rfl _ rfl g16 0 _ hrx rfl rfl ?_)|(at_builtin;refine app_R rfl 50 52 rfl w1.heap.size (.slice A0 us.length c0) us rfl HOWN.out wS.heap.size 0 1 [u15] rfl HCG.out hu2 hb3 ?_;intro v' wz ho hgz hnz))
     have HE5:Ext wS (wS.alloc (.cells u15.cells.toArray 49)):=Ext.alloc _ _
     have HKF:=(HK.out.keep (w':=wS.alloc (.cells u15.cells.toArray 49)) (fun b hb o=>HE5.old (p:=⟨b,o,none⟩) hb.2)).more (S':=fun k=>wo.heap.size≤k∧k<(wS.alloc (.cells u15.cells.toArray 49)).heap.size) (fun b hb=>⟨hb.1,xD hb.2 HE5.sz⟩)
     have hmk:Mk ((us++[u15]).map (·.r)):=by
      rw[List.map_append]
      exact HS.out.m.snoc (r:=u15.r) (by rw[zL,HLEN.out];omega) (by rw[zL,HLEN.out];exact HP15.out.1) HP15.out.2
     have HNX:=xH (HS.out.next hb1 (grown_trans HGS.out (grown_of HE5 _)) (HDS.out.ext HE5) (Nat.le_add_right d d15) (HKF.deep (Nat.le_add_left _ _)) (Nat.le_refl _) hmk ho hgz hnz)
     clear HE5 HKF hmk ho hgz hnz hrx HOWN HCG hu2 hb3 HK HGS HDS HS
     go_roundw
     case rel=>exact⟨k+1,us++[u15],_,by omega,by go_num,HNX,by have:=HLEN.out;simp;omega⟩
     case measure=>simp[intOf];omega
   ·have t1:decide (k<m)=false:=by simpa using hlt
    clear hk hlt
    go_wp2_with fail
    go_ret
    exact HS.out.fin HE1.out HBW.out
end Go.Proofs.YtmiencglfhpmeaaGreatDoor
namespace Go.Proofs.YtmiencglfhpmeaaGreatDoor
open Go.RowKit Hach
theorem rns_set (p:Int) :∀(us:List Rn) (k:Nat) (hk:k<us.length),((us.set k ((us[k]).setP p)).map Rn.cells).flatten=((us.map Rn.cells).flatten).set (k*30+1) (.int .i64 p)
 | u::us,0,_=>by
  simp only[xA,List.getElem_cons_zero,zO,zB]
  rfl
 | u::us,k+1,hk=>by
  have h30:u.cells.length=30:=rfl
  have ih:=rns_set p us k (by simpa using hk)
  simp only[zZ,List.getElem_cons_succ,zO,zB]
  rw[ih,zY _ _ (by rw[h30];omega),h30,show(k+1)*30+1-30=k*30+1 by omega]
theorem kids_setP {W:World}{S:Nat→Prop}{d:Nat}{u:Rn}(h:u.kids W S d) (p:Int):(u.setP p).kids W S d:=⟨h.k1,h.k2,h.k3,h.k4⟩
def prSet (r:Rl) (p:Int):Rl:=⟨r.nm,p,r.e1,r.e2,r.e3,r.e4⟩
theorem MdB.setP {W:World}{lo g c d:Nat}{us:List Rn}{l:List Rl}(h:MdB W lo g c d us l) {k:Nat}{u:Rn}(hu:us[k]?=some u) (p:Int) :
  MdB (W.setCell ⟨g,k*30+1,none⟩ (.int .i64 p)) lo g c d (us.set k (u.setP p)) (l.set k (prSet u.r p))∧W.grownBy (W.setCell ⟨g,k*30+1,none⟩ (.int .i64 p)) (some g):=by
 obtain⟨hk,rfl⟩:=zI.1 hu
 obtain⟨h1,h2⟩:=World.ownsRow.stored (show W.ownsRow lo 49 30 (.slice (some ⟨g,0,none⟩) us.length c) us.length (us.map Rn.cells).flatten from h.o) (k*30+1) (.int .i64 p)
 refine⟨⟨?_,?_,fun y hy=>?_⟩,h2⟩
 ·rw[zP,h.m];rfl
 ·unfold OwnR
  rw[zN,rns_set p us k hk]
  exact h1
 ·have key :∀y∈us,y.kids (W.setCell ⟨g,k*30+1,none⟩ (.int .i64 p)) (fun b=>lo≤b∧b<(W.setCell ⟨g,k*30+1,none⟩ (.int .i64 p)).heap.size∧b≠g) d:=fun y hy=>
   ((h.k y hy).keep fun b hb o=>grown_cell h2 hb.2.1 (by have:=hb.2.2;simp;omega) o).more fun b hb=>⟨hb.1,xD hb.2.1 h2.size,hb.2.2⟩
  rcases zR hy with hy|rfl
  ·exact key y hy
  ·exact kids_setP (key _ (zJ hk)) p
theorem MdB.pr_cell {W:World}{lo g c d:Nat}{us:List Rn}{l:List Rl}(h:MdB W lo g c d us l) {k:Nat}{u:Rn}(hu:us[k]?=some u):W.cell? ⟨g,k*30+1,none⟩=some (.int .i64 u.r.pr)∧W.frozen? ⟨g,k*30+1,none⟩=false:=
 ⟨h.at_ k u hu 1 _ rfl,World.ownsRow.frozenAt (show W.ownsRow lo 49 30 (.slice (some ⟨g,0,none⟩) us.length c) us.length (us.map Rn.cells).flatten from h.o) _⟩
end Go.Proofs.YtmiencglfhpmeaaGreatDoor
namespace Go.Proofs.YtmiencglfhpmeaaGreatDoor
open Go.RowKit Hach
theorem OwnR.low {W:World}{b b':Nat}{v:Value}{us:List Rn}(h:OwnR W b v us) (hb:b'≤b):OwnR W b' v us:=by
 obtain⟨h2,h3⟩:=h
 refine⟨h2,h3.imp id ?_⟩
 rintro⟨g',cap,cur,k1,k2,k3⟩
 exact⟨g',cap,cur,k1,by omega,k3⟩
def RowB (W:World) (v:Value) (l:List Rl):Prop :=∃(A:Option Addr) (c d:Nat),v=.slice A l.length c∧RlB W W.heap.size d A l∧l.length≤c∧c<9223372036854775808
theorem RowB.ext {W W':World}{v:Value}{l:List Rl}(h:RowB W v l) (hE:Ext W W'):RowB W' v l:=by
 obtain⟨A,c,d,e,h1,h2⟩:=h
 exact⟨A,c,d,e,RlL.ext h1 hE,h2⟩
theorem RowB.own {W:World}{base d:Nat}{v:Value}{vs:List Rn}{l:List Rl}(h:OwnR W base v vs) (hk:KidsR W (fun b=>b<W.heap.size) d vs) (hl:vs.map (·.r)=l):RowB W v l:=by
 obtain⟨A,c,e,_⟩:=h.form
 subst e;subst hl
 have:=(OwnR.list h hk (S:=fun b=>b<W.heap.size) fun b _ h2=>h2).1
 exact⟨A,c,d,by rw[zL],this,by rw[zL];exact h.cap⟩
theorem RowB.look {W:World}{v:Value}{l:List Rl}(h:RowB W v l) (x:En) (hl:l.length<4294967296) (hok :∀r∈l,r.ok):Calls Tryz.prog 16 #[v,x.v] W (LookR l x W):=by
 obtain⟨A,c,d,rfl,h1,h2,h3⟩:=h
 exact Look_any l x A c d W h1 hl h2 h3 hok
theorem MdB.row {W:World}{lo g c d:Nat}{us:List Rn}{l:List Rl}(h:MdB W lo g c d us l):RowB W (.slice (some ⟨g,0,none⟩) l.length c) l:=⟨_,c,d,rfl,h.rlb,h.cap⟩
theorem MdB.kidsB {W:World}{lo g c d:Nat}{us:List Rn}{l:List Rl}(h:MdB W lo g c d us l):KidsR W (fun b=>b<W.heap.size) d us:=KidsR.more h.k fun _ hb=>hb.2.1
end Go.Proofs.YtmiencglfhpmeaaGreatDoor
namespace Go.Proofs.YtmiencglfhpmeaaGreatDoor
open Go.RowKit Hach
def OnceS (B:Nat) (T:TypeId) (Z X:Array Value) (W W':World):Prop:=Below B W W' ∧∀k,B≤k→k<W.heap.size→W'.heap[k]?=W.heap[k]?∨(W.heap[k]?=some (.cells Z T (0,0))∧W'.heap[k]?=some (.cells X T (0,0)))
theorem OnceS.refl (B:Nat) (T:TypeId) (Z X:Array Value) (W:World):OnceS B T Z X W W:=⟨Below.refl _ W,fun _ _ _=>.inl rfl⟩
theorem OnceS.trans (B:Nat) (T:TypeId) (Z X:Array Value) {U V W:World}(h:OnceS B T Z X U V) (k:OnceS B T Z X V W):OnceS B T Z X U W:=by
 refine⟨Below.trans h.1 k.1,fun j hj hl=>?_⟩
 have h1:=h.2 j hj hl
 have h2:=k.2 j hj (xD hl h.1.size)
 rcases h1 with h1|⟨a1,b1⟩<;>rcases h2 with h2|⟨a2,b2⟩
 ·exact .inl (h2.trans h1)
 ·exact .inr ⟨h1▸a2,b2⟩
 ·exact .inr ⟨a1,h2.trans b1⟩
 ·exact .inr ⟨a1,b2⟩
theorem OnceS.ext {B:Nat}{T:TypeId}{Z X:Array Value}{W W':World}(h:Ext W W') (hB:B≤W.heap.size):OnceS B T Z X W W':=
 ⟨below_row' (grown_of h none) hB (fun g e=>by cases e),fun k _ hl=>.inl (h.below.block k hl)⟩
theorem OnceS.put {B:Nat}{T:TypeId}{Z X:Array Value}{W W':World}{g:Nat}(hB:B≤W.heap.size) (hg:B≤g) (h:W.heap[g]?=some (.cells Z T (0,0))∨W.heap[g]?=some (.cells X T (0,0))) (hx:W'.heap[g]?=some (.cells X T (0,0))) (hgr:W.grownBy W' (some g)):OnceS B T Z X W W':=by
 refine⟨below_row' hgr hB (fun k e=>by simp only[xF]at e;omega),fun k hk hl=>?_⟩
 by_cases e:k=g
 ·subst e
  rcases h with h|h
  ·exact .inr ⟨h,hx⟩
  ·exact .inl (hx.trans h.symm)
 ·exact .inl (hgr.block k hl (by simpa using e))
def newL (B:Nat) (T:TypeId) (Z X:Array Value):SPl (OnceS B T Z X):=⟨[],fun _ v W =>∃g,v=.pointer (some ⟨g,0,none⟩)∧B≤g∧(W.heap[g]?=some (.cells Z T (0,0))∨W.heap[g]?=some (.cells X T (0,0))),fun h hE=>by
 obtain⟨g,e,h1,h2⟩:=h
 refine⟨g,e,h1,?_⟩
 rcases hE.2 g h1 (by rcases h2 with h|h<;>exact(xG.1 h).1) with h|⟨_,h⟩
 ·rw[h];exact h2
 ·exact .inr h,fun _ h=>h⟩
def putL (B:Nat) (T:TypeId) (Z X:Array Value) (i:Nat):SPl (OnceS B T Z X):=⟨[i],fun x _ W =>∃g,x i=.pointer (some ⟨g,0,none⟩)∧B≤g∧W.heap[g]?=some (.cells X T (0,0)),fun h hE=>by
 obtain⟨g,e,h1,h2⟩:=h
 refine⟨g,e,h1,?_⟩
 rcases hE.2 g h1 (xG.1 h2).1 with h|⟨_,h⟩
 ·exact h.trans h2
 ·exact h,fun hx h=>by
 obtain⟨g,e,h1⟩:=h
 exact⟨g,(hx _ (zS.2 rfl)).trans e,h1⟩⟩
theorem store_T {ops:Array Oper}{rest:List Oper}{op:Oper}{a:Act}{w:World}{Q:Exit→Act→World→Prop}(T:TypeId) (g:Nat) (C cs:List Value) (h:w.heap[g]?=some (.cells C.toArray T (0,0))) (hC:C.length=cs.length) (hi:(Tryz.prog.info? T).map (·.size)=some cs.length) (h1 :∀v∈cs,v.oneCell'=true) (hgd:op.guard=none) (x y:Operand) (hop:op.op=.store T x y) (hx:a.eval x=.pointer (some ⟨g,0,none⟩)) (hy:a.eval y=.agg cs.toArray)
  (hk :∀w',w'.heap[g]?=some (.cells cs.toArray T (0,0))→w.grownBy w' (some g)→wpList Tryz.prog ops Q rest (a.put op.dst undef) w'):wpList Tryz.prog ops Q (op::rest) a w:=by
 have hp:=put_mid cs C [] [] w (by simpa using h) hC
 refine wpList_store_mid hgd T x y hop g 0 cs.toArray hx hy (fun j hj=>?_) (by rw[hi];simp) (all_oneCell_toArray h1) (hk _ (by have:=hp.1;simp only[zT,List.append_nil,zM]at this;exact this) hp.2)
 have hj2:j<C.length:=by rw[hC];simpa using hj
 refine⟨?_,by simp[World.frozen?,h]⟩
 simp[World.cell?,h,hj2]
theorem cells_of {W:World}{g:Nat}{X:Array Value}{T:TypeId}(h:W.heap[g]?=some (.cells X T (0,0))) (i:Nat) (v:Value) (hv:X[i]?=some v):W.cell? ⟨g,i,none⟩=some v:=by simp[World.cell?,h,hv]
end Go.Proofs.YtmiencglfhpmeaaGreatDoor
namespace Go.Proofs.YtmiencglfhpmeaaGreatDoor
open Go.RowKit Hach
theorem one_row {W:World}{g:Nat}{u:Rn}(h:W.heap[g]?=some (.cells u.cells.toArray 49 (0,0))) :∀(j:Nat) (t:Rn),[u][j]?=some t→W.rangeAt g (0+j*30) t.cells:=fun j t ht=>by
 match j,ht with
 | 0,ht=>simp only[zG,xF]at ht;subst ht;exact RnB.range (show RnB W g u from h)
 | j+1,ht=>simp at ht
end Go.Proofs.YtmiencglfhpmeaaGreatDoor
namespace Go.Proofs.YtmiencglfhpmeaaGreatDoor
open Go.RowKit Hach
def setN:List Value→Nat→List Value→List Value
 | xs,_,[]=>xs
 | xs,j,c::cs=>setN (xs.set j c) (j+1) cs
theorem setN_right :∀(cs a b:List Value) (j:Nat),setN (a++b) (a.length+j) cs=a++setN b j cs
 | [],a,b,j=>rfl
 | c::cs,a,b,j=>by
  rw[setN,setN,zY _ _ (by omega),show a.length+j-a.length=j by omega,show a.length+j+1=a.length+(j+1) by omega,setN_right cs a (b.set j c) (j+1)]
theorem setN_left :∀(cs a b:List Value) (j:Nat),j+cs.length≤a.length→setN (a++b) j cs=setN a j cs++b
 | [],a,b,j,_=>rfl
 | c::cs,a,b,j,h=>by
  rw[zK]at h
  rw[setN,setN,List.set_append_left _ _ (by omega),setN_left cs (a.set j c) b (j+1) (by rw[zN];omega)]
theorem ownsRow_setN {base:Nat}{e:TypeId}{size g n cap:Nat}:∀(cs xs:List Value) (j:Nat) (w:World),w.ownsRow base e size (.slice (some ⟨g,0,none⟩) n cap) n xs→(w.setCells g j cs).ownsRow base e size (.slice (some ⟨g,0,none⟩) n cap) n (setN xs j cs)∧w.grownBy (w.setCells g j cs) (some g)
 | [],xs,j,w,h=>⟨h,grown_of (Ext.refl _) _⟩
 | c::cs,xs,j,w,h=>by
  obtain⟨h1,h2⟩:=World.ownsRow.stored h j c
  obtain⟨h3,h4⟩:=ownsRow_setN cs (xs.set j c) (j+1) _ h1
  exact⟨h3,grown_trans h2 h4⟩
theorem rns_put (off:Nat) (cs:List Value) :∀(us:List Rn) (i:Nat) (u u':Rn),us[i]?=some u→setN u.cells off cs=u'.cells→off+cs.length≤30→setN ((us.map Rn.cells).flatten) (i*30+off) cs=((us.set i u').map Rn.cells).flatten
 | v::us,0,u,u',hu,hc,hl=>by
  simp only[zG,xF]at hu
  subst hu
  simp only[xA,zO,zB]
  rw[Nat.zero_mul,xE,setN_left cs _ _ off (by show off+cs.length≤30;exact hl),hc]
 | v::us,i+1,u,u',hu,hc,hl=>by
  have ih:=rns_put off cs us i u u' (by simpa using hu) hc hl
  have h30:v.cells.length=30:=rfl
  simp only[zZ,zO,zB]
  rw[show(i+1)*30+off=v.cells.length+(i*30+off) by rw[h30];omega,setN_right,ih]
 | [],i,u,u',hu,_,_=>by simp at hu
theorem MdB.put {W:World}{lo g c d d':Nat}{us:List Rn}{l:List Rl}(h:MdB W lo g c d us l) {i:Nat}{u u':Rn}(hu:us[i]?=some u) (off:Nat) (cs:List Value) (hc:setN u.cells off cs=u'.cells) (hl:off+cs.length≤30) (hk:u'.kids W (fun b=>lo≤b∧b<W.heap.size∧b≠g) d') :
  MdB (W.setCells g (i*30+off) cs) lo g c (d+d') (us.set i u') (l.set i u'.r)∧W.grownBy (W.setCells g (i*30+off) cs) (some g):=by
 obtain⟨hi,rfl⟩:=zI.1 hu
 obtain⟨h1,h2⟩:=ownsRow_setN cs (us.map Rn.cells).flatten (i*30+off) W (show W.ownsRow lo 49 30 (.slice (some ⟨g,0,none⟩) us.length c) us.length (us.map Rn.cells).flatten from h.o)
 refine⟨⟨?_,?_,fun y hy=>?_⟩,h2⟩
 ·rw[zP,h.m]
 ·unfold OwnR
  rw[zN,←rns_put off cs us i _ u' hu hc hl]
  exact h1
 ·have key :∀(y:Rn) (e:Nat),y.kids W (fun b=>lo≤b∧b<W.heap.size∧b≠g) e→y.kids (W.setCells g (i*30+off) cs) (fun b=>lo≤b∧b<(W.setCells g (i*30+off) cs).heap.size∧b≠g) e:=fun y e hy=>
   (hy.keep fun b hb o=>grown_cell h2 hb.2.1 (by have:=hb.2.2;simp;omega) o).more fun b hb=>⟨hb.1,xD hb.2.1 h2.size,hb.2.2⟩
  rcases zR hy with hy|rfl
  ·exact(key y d (h.k y hy)).deep (by omega)
  ·exact(key _ d' hk).deep (by omega)
theorem MdB.there {W:World}{lo g c d:Nat}{us:List Rn}{l:List Rl}(h:MdB W lo g c d us l) {i:Nat}{u:Rn}(hu:us[i]?=some u) {j:Nat}(hj:j<30):(∃v,W.cell? ⟨g,i*30+j,none⟩=some v)∧W.frozen? ⟨g,i*30+j,none⟩=false:=by
 refine⟨?_,World.ownsRow.frozenAt (show W.ownsRow lo 49 30 (.slice (some ⟨g,0,none⟩) us.length c) us.length (us.map Rn.cells).flatten from h.o) _⟩
 have h30:u.cells.length=30:=rfl
 exact⟨_,h.at_ i u hu j (u.cells[j]'(by omega)) (zH (by omega))⟩
theorem store_row {ops:Array Oper}{rest:List Oper}{op:Oper}{a:Act}{w:World}{Q:Exit→Act→World→Prop}{lo g c d:Nat}{us:List Rn}{l:List Rl}(h:MdB w lo g c d us l) {i:Nat}{u:Rn}(hu:us[i]?=some u) (off:Nat) (y:Ex) (A:Option Addr) (k:Nat) (hl:off+7≤30) (hgd:op.guard=none) (x z:Operand) (hop:op.op=.store 47 x z) (hx:a.eval x=.pointer (some ⟨g,i*30+off,none⟩)) (hy:a.eval z=.agg (y.cells A k).toArray)
  (hk:wpList Tryz.prog ops Q rest (a.put op.dst undef) (w.setCells g (i*30+off) (y.cells A k))):wpList Tryz.prog ops Q (op::rest) a w:=by
 obtain⟨i0,hi,_,hz1,_⟩:=info_parts infoE
 have h7:(y.cells A k).length=7:=rfl
 refine wpList_store_mid hgd 47 x z hop g (i*30+off) (y.cells A k).toArray hx hy (fun j hj=>?_) (by rw[hi];simp[hz1,h7]) (all_oneCell_toArray (ex_one y A k)) hk
 have hj7:j<7:=by rw[←h7];simpa using hj
 obtain⟨⟨v,hv⟩,hf⟩:=h.there hu (j:=off+j) (by omega)
 rw[←Nat.add_assoc]at hv hf
 exact⟨by rw[hv];rfl,hf⟩
def OddR (M:Nat) (w:World) (e:Ending) (w':World):Prop :=∃(v:Value) (l':List Rl),e=.returned v∧RowB w' v l'∧l'≠[]∧l'.length≤M∧(∀r∈l',r.ok∧r.small)∧Ext w w'
theorem OddR.of {M:Nat}{w W:World}{g c d i:Nat}{us:List Rn}{l:List Rl}{r:Rl}(h:MdB W 0 g c d us (l.set i r)) (hok :∀r∈l,r.ok∧r.small) (hr:r.ok∧r.small) (hne:l≠[]) (hM:l.length≤M) (hE:Ext w W):OddR M w (.returned (.slice (some ⟨g,0,none⟩) l.length c)) W:=by
 have hr':=h.row
 rw[zN]at hr'
 refine⟨_,_,rfl,hr',fun e=>hne (by have:=congrArg List.length e;rw[zN]at this;exact List.length_eq_zero_iff.1 this),by rw[zN];exact hM,fun q hq=>?_,hE⟩
 rcases zR hq with hq|rfl
 ·exact hok q hq
 ·exact hr
theorem app_two {ops:Array Oper}{rest:List Oper}{o:Oper}{a:Act}{w:World}{Q:Exit→Act→World→Prop}(hgd:o.guard=none) (s x:Tmp)
  (ho:o.op=.call { callee:=.builtin .append,args:=#[.tmp s,.tmp x],argTypes:=#[30,30] }) (B:Nat) (v:Value) (us:List Rn) (hpos:1≤us.length) (hs:a.eval (.tmp s)=v) (hown:OwnR w B v us) (hB:B≤w.heap.size) (hsm:us.length<4294967295)
  (g:Nat) (u:Rn) (hx:a.eval (.tmp x)=.slice (some ⟨g,0,none⟩) 1 1) (hg:w.heap[g]?=some (.cells u.cells.toArray 49 (0,0)))
  (h :∀v' w',OwnR w' B v' (us++[u])→((Ext w w' ∧∀k,v'.ownBlock=some k→w.heap.size≤k)∨(v'.ownBlock=v.ownBlock∧w.grownBy w' v.ownBlock))→wpList Tryz.prog ops Q rest (a.put o.dst v') w'):wpList Tryz.prog ops Q (o::rest) a w:=by
 obtain⟨A,cap,e,hrow⟩:=hown.form
 subst e
 obtain⟨b,eA,hb1,hb2,hob,hat⟩:=hrow (by omega)
 subst eA
 by_cases hfull:cap<us.length+1
 ·refine app_G hgd s x ho b 0 cap us hs (fun j t ht=>by rw[xE];exact hat j t ht) g 0 1 [u] hx (one_row hg) (by simpa using hfull) (by simp;omega) ?_
  intro v' w' ho' hE
  exact h v' w' (ho'.low hB) (.inl ⟨hE,fun k hk=>(ho'.lt k hk).1⟩)
 ·obtain⟨i0,hi,hz0,hz1,hz2⟩:=info_parts infoR
  refine wpList_append_fits w hgd _ _ _ ho B 49 i0 30 Tryz.underlying30 hi hz1 b us.length cap (us.map Rn.cells).flatten hs hown ⟨g,0,none⟩ 1 1 u.cells hx rfl (fun j y hj=>?_) (rn_one u) (by omega) ?_
  ·rw[Addr.add_mid]
   exact RnB.range (show RnB w g u from hg) j y hj
  ·intro w' ho' hg'
   have hfl:((us++[u]).map Rn.cells).flatten=(us.map Rn.cells).flatten++u.cells:=by simp
   have hlen:(us++[u]).length=us.length+1:=by simp
   exact h _ w' (by unfold OwnR;rw[hlen,hfl];exact ho') (.inr ⟨rfl,hg'⟩)
end Go.Proofs.YtmiencglfhpmeaaGreatDoor
