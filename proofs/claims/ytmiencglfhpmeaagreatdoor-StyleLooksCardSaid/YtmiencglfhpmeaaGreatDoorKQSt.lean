/- Constants and variables: the contracts of Number, Var, Word, yes, num. -/
import Derived.Test.YtmiencglfhpmeaaGreatDoorKQXp
import Derived.Test.YtmiencglfhpmeaaGreatDoorKQSu
import Derived.Test.YtmiencglfhpmeaaGreatDoorKQSa
import Derived.Test.YtmiencglfhpmeaaGreatDoorKQSl
import Derived.Test.YtmiencglfhpmeaaGreatDoorKQTc
import Derived.Test.YtmiencglfhpmeaaGreatDoorKQXs
import Derived.Test.YtmiencglfhpmeaaGreatDoorKQXq
import Derived.Shelf.Strings.BuilderK
open List renaming cons_append → zA, foldl_cons → zB, foldl_nil → zC, getD_cons_succ → zD, getD_cons_zero → zE, getElem?_append_left → zF, getElem?_append_right → zG, getElem?_cons_zero → zH, getElem?_eq_some_iff → zI, length_append → zJ, length_cons → zK, length_nil → zL, map_map → zM, mem_cons → zN, mem_map → zO, nil_append → zP, not_mem_nil → zQ, range_succ → zR, range_zero → zS, setIfInBounds_toArray → zT, set_cons_succ → zU, set_cons_zero → zV
open Nat renaming lt_of_lt_of_le → zW, zero_add → zX
open Option renaming some.injEq → zY
open Array renaming getElem?_eq_some_iff → zZ
open Go.Lib renaming BuilderAtF → xA, IsBuilderF → xB, byteCells → xC, hid → xD
set_option linter.unusedSimpArgs false
set_option linter.unusedVariables false
namespace Go.Proofs.YtmiencglfhpmeaaGreatDoor
open Go.RowKit Hach
def numE (n:Int):Ex:=.mk 1 0 1 n false [] []
def varE (v:Int):Ex:=.mk 2 v 0 0 false [] []
def wordE (s:List UInt8):Ex:=.mk 1 0 3 0 false s []
theorem finB {fn:Func}{t:Tmp}(hr:fn.results=#[.cell t 47]) {blk:Nat}{W:World}{Q:Ending→World→Prop}(x:Ex) (A:Option Addr) (c:Nat) (hI:InBlk W blk x (.slice A x.l.length c)) {tmps:Array Value}(ht:tmps.getD t undef=.pointer (some ⟨blk,0,none⟩))
  (hQ:Q (.returned (.agg (x.cells A c).toArray)) W):bodyPost Tryz.prog fn Q Exit.ret ⟨tmps,[]⟩ W:=bodyPost_ret (results_blk hr hI tmps ht) rfl hQ
def New0 (x:Ex) (w:World) (e:Ending) (w':World):Prop:=e=.returned (.agg (x.cells none 0).toArray)∧Ext w w'
theorem number_any' (n:Int) (w:World):Calls Tryz.prog 67 #[.int .i64 n] w (New0 (numE n) w):=by
 go_enter Tryz.func67,Tryz.ntmps67
 go_wp2_with fail
 exact finB (blk:=w.heap.size) rfl (numE n) none 0 (Go.heap_alloc_new _ _) rfl ⟨rfl,Ext.alloc _ _⟩
theorem var_any' (n:Int) (w:World):Calls Tryz.prog 72 #[.int .i64 n] w (New0 (varE n) w):=by
 go_enter Tryz.func72,Tryz.ntmps72
 go_wp2_with fail
 exact finB (blk:=w.heap.size) rfl (varE n) none 0 (Go.heap_alloc_new _ _) rfl ⟨rfl,Ext.alloc _ _⟩
theorem word_any' (s:List UInt8) (w:World):Calls Tryz.prog 75 #[.string ⟨s.toArray⟩] w (New0 (wordE s) w):=by
 go_enter Tryz.func75,Tryz.ntmps75
 go_wp2_with fail
 exact finB (blk:=w.heap.size) rfl (wordE s) none 0 (Go.heap_alloc_new _ _) rfl ⟨rfl,Ext.alloc _ _⟩
theorem yes_any (w:World):Calls Tryz.prog 28 #[] w (New0 yesE w):=by
 go_enter Tryz.func28,Tryz.ntmps28
 go_wp2_with fail
 exact finB (blk:=w.heap.size) rfl yesE none 0 (Go.heap_alloc_new _ _) rfl ⟨rfl,Ext.alloc _ _⟩
theorem num_any (n:Int) (w:World):Calls Tryz.prog 29 #[.int .i64 n] w (New0 (numE n) w):=by
 have hz:=Z7.new w
 have hE0:=Ext.alloc w (.cells zero7 47)
 obtain⟨w0,hw0⟩ :∃w0,w.alloc (.cells zero7 47)=w0:=⟨_,rfl⟩
 obtain⟨bz,hbz⟩ :∃b,w.heap.size=b:=⟨_,rfl⟩
 rw[hw0,hbz]at hz
 rw[hw0]at hE0
 have NU:=xD (number_any' n w0)
 unfold New0 at NU
 have HZ:=xD hz
 have HE0:=xD hE0
 have HB:=xD hbz
 unfold zero7 at hw0
 have HW0:=xD hw0
 clear hw0 hz hE0 hbz
 go_enter Tryz.func29,Tryz.ntmps29
 go_upto_region 1 with fail
 rw[HW0.out,HB.out]
 go_wp2_with fail
 refine NU.out.mono ?_
 rintro e w1 ⟨rfl,hE1⟩
 have HZ1:=xD (HZ.out.ext hE1)
 have HE1:=xD (HE0.out.trans hE1)
 obtain⟨z0,z1,z2,z3,z4,z5,z6⟩:=HZ1.out.cells
 obtain⟨f0,f1,f2,f3,f4,f5,f6⟩:=HZ1.out.free
 unfold Ex.cells
 clear hE1 NU
 go_wp2_with fail
 exact finB (W:=set7 w1 bz (numE n) (.slice none 0 0)) rfl (numE n) none 0 (set7_in HZ1.out (numE n) _) rfl ⟨rfl,ext_fresh HE1.out (set7_grown w1 bz (numE n) (.slice none 0 0)) (Nat.le_of_eq HB.out)⟩
end Go.Proofs.YtmiencglfhpmeaaGreatDoor
namespace Go.Proofs.YtmiencglfhpmeaaGreatDoor
open Go.RowKit Hach
def zpE (lo:Nat):SP:=⟨fun v W =>∃g,v=.pointer (some ⟨g,0,none⟩)∧lo≤g∧Z7 W g,fun h hE=>by
 obtain⟨g,e,h1,h2⟩:=h
 exact⟨g,e,h1,h2.ext hE⟩⟩
theorem row2L (W:World) (lo:Nat) (hlo:lo≤W.heap.size) (x0:Ex) (A0:Option Addr) (c0 d0:Nat) (x1:Ex) (A1:Option Addr) (c1 d1:Nat) (h0:ExL W (fun b=>lo≤b∧b<W.heap.size) d0 A0 x0.l) (h1:ExL W (fun b=>lo≤b∧b<W.heap.size) d1 A1 x1.l):ExL (W.alloc (.cells #[.int .i64 x0.op,.int .i64 x0.var,.int .i64 x0.ty,.int .i64 x0.n,.bool x0.b,.string ⟨x0.s.toArray⟩,.slice A0 x0.l.length c0,.int .i64 x1.op,.int .i64 x1.var,.int .i64 x1.ty,.int .i64 x1.n,.bool x1.b,.string ⟨x1.s.toArray⟩,.slice A1 x1.l.length c1] 47)) (fun b=>lo≤b∧b<(W.alloc (.cells #[.int .i64 x0.op,.int .i64 x0.var,.int .i64 x0.ty,.int .i64 x0.n,.bool x0.b,.string ⟨x0.s.toArray⟩,.slice A0 x0.l.length c0,.int .i64 x1.op,.int .i64 x1.var,.int .i64 x1.ty,.int .i64 x1.n,.bool x1.b,.string ⟨x1.s.toArray⟩,.slice A1 x1.l.length c1] 47)).heap.size) (d0+d1+1) (some ⟨W.heap.size,0,none⟩) [x0,x1]:=by
 have hE:=Ext.alloc W (.cells #[.int .i64 x0.op,.int .i64 x0.var,.int .i64 x0.ty,.int .i64 x0.n,.bool x0.b,.string ⟨x0.s.toArray⟩,.slice A0 x0.l.length c0,.int .i64 x1.op,.int .i64 x1.var,.int .i64 x1.ty,.int .i64 x1.n,.bool x1.b,.string ⟨x1.s.toArray⟩,.slice A1 x1.l.length c1] 47)
 refine ExL.row (us:=[⟨x0,A0,c0⟩,⟨x1,A1,c1⟩]) ⟨hlo,by simp⟩ (fun u hu=>?_) (fun i v hi=>?_)
 ·simp only[zN,zQ,or_false]at hu
  rcases hu with rfl|rfl
  ·exact(exl_ext h0 hE).deep (by omega)
  ·exact(exl_ext h1 hE).deep (by omega)
 ·rw[World.cell?_alloc_new]
  simpa[Nd.cells,Ex.cells]using hi
def RowF (W:World) (g:Nat) (l:List Ex):Prop:=g<W.heap.size ∧∀(i:Nat) (u:Value),((l.map fun x=>x.cells none 0).flatten)[i]?=some u→W.cell? ⟨g,i,none⟩=some u
theorem RowF.ext {W W':World}{g:Nat}{l:List Ex}(h:RowF W g l) (hE:Ext W W'):RowF W' g l:=⟨zW h.1 hE.sz,fun i u hi=>(hE.old (p:=⟨g,i,none⟩) h.1).trans (h.2 i u hi)⟩
theorem RowF.own {W W':World}{g b:Nat}{l:List Ex}(h:RowF W g l) (hg:W.grownBy W' (some b)) (hb:b≠g):RowF W' g l:=⟨zW h.1 hg.size,fun i u hi=>(grown_cell hg h.1 (by simpa using hb) i).trans (h.2 i u hi)⟩
theorem RowF.list {W:World}{g lo:Nat}{l:List Ex}(h:RowF W g l) (hlo:lo≤g) (hl :∀x∈l,x.l=[]):ExL W (fun b=>lo≤b∧b<W.heap.size) 1 (some ⟨g,0,none⟩) l:=by
 have e:(l.map fun x=>(⟨x,none,0⟩:Nd)).map (·.x)=l:=by rw[zM];exact List.map_id _
 have e2:((l.map fun x=>(⟨x,none,0⟩:Nd)).map Nd.cells).flatten=(l.map fun x=>x.cells none 0).flatten:=by rw[zM];rfl
 have hr:=ExL.row (w:=W) (S:=fun b=>lo≤b∧b<W.heap.size) (d:=0) (g:=g) (us:=l.map fun x=>(⟨x,none,0⟩:Nd)) ⟨hlo,h.1⟩ (fun u hu=>by
  obtain⟨x,hx,rfl⟩:=zO.1 hu
  show ExL W _ 0 none x.l
  rw[hl x hx];exact ExL.nil _ _ _ _) (fun i v hi=>h.2 i v (by rw[←e2];exact hi))
 rw[e]at hr
 exact hr
def slF (lo:Nat) (l:List Ex) (n:Nat):SP:=⟨fun v W =>∃g,v=.slice (some ⟨g,0,none⟩) n n∧lo≤g∧RowF W g l,fun h hE=>by
 obtain⟨g,e,h1,h2⟩:=h
 exact⟨g,e,h1,h2.ext hE⟩⟩
def opF (lo:Nat) (o:Int) (l:List Ex) (n:Nat):SP:=⟨fun v W =>∃g,v=.agg #[.int .i64 o,.int .i64 0,.int .i64 0,.int .i64 0,.bool false,.string ⟨#[]⟩,.slice (some ⟨g,0,none⟩) n n]∧lo≤g∧RowF W g l,fun h hE=>by
 obtain⟨g,e,h1,h2⟩:=h
 exact⟨g,e,h1,h2.ext hE⟩⟩
theorem RowF.two (W:World) (x y:Ex):RowF (W.alloc (.cells #[.int .i64 x.op,.int .i64 x.var,.int .i64 x.ty,.int .i64 x.n,.bool x.b,.string ⟨x.s.toArray⟩,.slice none x.l.length 0,.int .i64 y.op,.int .i64 y.var,.int .i64 y.ty,.int .i64 y.n,.bool y.b,.string ⟨y.s.toArray⟩,.slice none y.l.length 0] 47)) W.heap.size [x,y]:=by
 refine⟨by simp,fun i u hi=>?_⟩
 rw[World.cell?_alloc_new]
 simpa[Ex.cells]using hi
def exA:Rl:=⟨[97],1,yesE,numE 5,numE 2,numE 0⟩
def lightE:Ex:=.mk 7 0 0 0 false [] [varE 4,numE 10]
def exB:Rl:=⟨[98],2,lightE,.mk 8 0 0 0 false [] [varE 4,numE 300],numE (-4),numE 99⟩
def aRn:Rn:=⟨exA,none,none,none,none,0,0,0,0⟩
def bRn (g3 g:Nat):Rn:=⟨exB,some ⟨g3,0,none⟩,some ⟨g,0,none⟩,none,none,2,2,0,0⟩
def bSP (lo g3:Nat):SP:=⟨fun v W =>∃g,v=.agg #[.string ⟨#[98]⟩,.int .i64 2,.int .i64 7,.int .i64 0,.int .i64 0,.int .i64 0,.bool false,.string ⟨#[]⟩,.slice (some ⟨g3,0,none⟩) 2 2,.int .i64 8,.int .i64 0,.int .i64 0,.int .i64 0,.bool false,.string ⟨#[]⟩,.slice (some ⟨g,0,none⟩) 2 2,.int .i64 1,.int .i64 0,.int .i64 1,.int .i64 (-4),.bool false,.string ⟨#[]⟩,.slice none 0 0,.int .i64 1,.int .i64 0,.int .i64 1,.int .i64 99,.bool false,.string ⟨#[]⟩,.slice none 0 0]∧lo≤g∧RowF W g [varE 4,numE 300],fun h hE=>by
 obtain⟨g,e,h1,h2⟩:=h
 exact⟨g,e,h1,h2.ext hE⟩⟩
def Two (a b:Rl) (w:World) (e:Ending) (w':World):Prop :=∃(g:Nat) (u v:Rn) (d:Nat),e=.returned (.slice (some ⟨g,0,none⟩) 2 2)∧u.r=a∧v.r=b∧w'.heap[g]?=some (.cells (u.cells++v.cells).toArray 49 (0,0)) ∧
 u.kids w' (fun b=>w.heap.size≤b∧b<w'.heap.size∧b≠g) d∧v.kids w' (fun b=>w.heap.size≤b∧b<w'.heap.size∧b≠g) d∧w.heap.size≤g∧Ext w w'
theorem Two.new {w W:World}{g3 g12:Nat}(hE:Ext w W) (k3:ExL W (fun b=>w.heap.size≤b∧b<W.heap.size) 1 (some ⟨g3,0,none⟩) [varE 4,numE 10]) (k12:ExL W (fun b=>w.heap.size≤b∧b<W.heap.size) 1 (some ⟨g12,0,none⟩) [varE 4,numE 300]) :
  Two exA exB w (.returned (.slice (some ⟨W.heap.size,0,none⟩) 2 2)) (W.alloc (.cells (aRn.cells++(bRn g3 g12).cells).toArray 49)):=by
 have hE1:=Ext.alloc W (.cells (aRn.cells++(bRn g3 g12).cells).toArray 49)
 have key :∀(A:Option Addr) (l:List Ex),ExL W (fun b=>w.heap.size≤b∧b<W.heap.size) 1 A l→ExL (W.alloc (.cells (aRn.cells++(bRn g3 g12).cells).toArray 49)) (fun b=>w.heap.size≤b∧b<(W.alloc (.cells (aRn.cells++(bRn g3 g12).cells).toArray 49)).heap.size∧b≠W.heap.size) 1 A l:=fun A l h=>
  (h.keep fun b hb o=>hE1.old (p:=⟨b,o,none⟩) hb.2).more fun b hb=>⟨hb.1,zW hb.2 hE1.sz,by omega⟩
 exact⟨W.heap.size,aRn,bRn g3 g12,1,rfl,rfl,rfl,Go.heap_alloc_new _ _,⟨ExL.nil _ _ _ _,ExL.nil _ _ _ _,ExL.nil _ _ _ _,ExL.nil _ _ _ _⟩,⟨key _ _ k3,key _ _ k12,ExL.nil _ _ _ _,ExL.nil _ _ _ _⟩,hE.sz,hE.trans hE1⟩
set_option maxRecDepth 100000 in
set_option maxHeartbeats 4000000 in
theorem example_any (w:World):Calls Tryz.prog 33 #[] w (Two exA exB w):=by
 have VA:=xD (var_any' 4 w)
 unfold New0 at VA
 go_enter Tryz.func33,Tryz.ntmps33
 go_wp2_with fail
 refine VA.out.mono ?_
 rintro e w1 ⟨rfl,hE1⟩
 have HE1:=xD hE1
 unfold Ex.cells
 clear VA hE1
 go_upto_region 2 with fail
 have hI1:InBlk (w1.alloc (.cells (cell7 (varE 4) (.slice none 0 0)) 47)) w1.heap.size (varE 4) (.slice none 0 0):=InBlk.new _ _ _
 have hE2:=Ext.alloc w1 (.cells (cell7 (varE 4) (.slice none 0 0)) 47)
 obtain⟨w2,hw2⟩ :∃q,w1.alloc (.cells (cell7 (varE 4) (.slice none 0 0)) 47)=q:=⟨_,rfl⟩
 obtain⟨b1,hb1⟩ :∃q,w1.heap.size=q:=⟨_,rfl⟩
 rw[hw2,hb1]at hI1
 rw[hw2]at hE2
 have hwb:w.heap.size≤b1:=by rw[←hb1];exact HE1.out.sz
 have HI1:=xD hI1
 have HE2:=xD (HE1.out.trans hE2)
 have HW2:Hid (w1.alloc (.cells #[.int .i64 (varE 4).op,.int .i64 (varE 4).var,.int .i64 (varE 4).ty,.int .i64 (varE 4).n,.bool (varE 4).b,.string ⟨(varE 4).s.toArray⟩,.slice none (varE 4).l.length 0] 47)=w2):=xD hw2
 have hsz2:=HE2.out.sz
 rw[HW2.out,hb1]
 clear hw2 hb1 hI1 hE2 HW2
 apply wp_region_seq (l:=[_,_,_,_,_]) (t:=[_]) [some 4,some 5,some 6,some 7,some 2,none] [[],[],[0,1],[2],[],[3,4]] [5,5,5,5,5] [eqv _,(eqv (.agg ((numE 10).cells none 0).toArray)),(slF w.heap.size [varE 4,numE 10] 2),(opF w.heap.size 7 [varE 4,numE 10] 2),(zpE w2.heap.size)] (by kernel_rfl) (by kernel_rfl) ⟨?o0,?o1,?o2,?o3,?o4,trivial⟩ ?last
 case o0=>
  intro xv W hE _
  obtain⟨y0,y1,y2,y3,y4,y5,y6⟩:=(HI1.out.ext ((Ext.drew w2).trans hE)).cells
  simp only[putD,zC,zE]
  refine OpGoal.plain ?_
  go_wp2_with fail
  exact⟨rfl,Ext.refl _,rfl⟩
 case o1=>
  intro xv W hE _
  simp only[putD,zC,zE,zD]
  refine OpGoal.plain ?_
  go_wp2_with fail
  refine(num_any 10 W).mono ?_
  rintro e w' ⟨rfl,hE9⟩
  go_wp2_with fail
  exact⟨rfl,hE9,rfl⟩
 case o2=>
  intro xv W hE hp
  have r0:xv 0=_:=hp.1
  have r1:xv 1=_:=hp.2.1
  clear hp
  simp only[putD,zC,zB,zE,zD,Act.put,zT,zV,zU]
  refine OpGoal.plain ?_
  go_wp2_with fail
  exact⟨rfl,Ext.alloc _ _,W.heap.size,rfl,Nat.le_trans hsz2 ((Ext.drew w2).trans hE).sz,RowF.two W (varE 4) (numE 10)⟩
 case o3=>
  intro xv W hE hp
  obtain⟨g2,r2,l2,h2⟩:=hp.1
  clear hp
  simp only[putD,zC,zB,zE,zD,Act.put,zT,zV,zU]
  refine OpGoal.plain ?_
  go_wp2_with fail
  exact⟨rfl,Ext.refl _,g2,rfl,l2,h2⟩
 case o4=>
  intro xv W hE _
  simp only[putD,zC,zE,zD]
  refine OpGoal.plain ?_
  go_wp2_with fail
  exact⟨rfl,Ext.alloc _ _,_,rfl,(by have:=hE.sz;simpa using this),Z7.new _⟩
 case last=>
  intro xv W hE hp
  have r0:xv 0=_:=hp.1
  have r1:xv 1=_:=hp.2.1
  obtain⟨g2,r2,l2,h2⟩:=hp.2.2.1
  obtain⟨g3,r3,l3,h3⟩:=hp.2.2.2.1
  obtain⟨g4,r4,l4,h4⟩:=hp.2.2.2.2.1
  clear hp
  simp only[putD,zC,zB,zE,zD,Act.put,zK,zL,zR,zS,zP,zA,zT,zV,zU]
  have hEw:Ext w2 W:=(Ext.drew w2).trans hE
  have hne:g4≠g3:=by
   rintro rfl
   have e1:=h3.2 0 (.int .i64 2) rfl
   have e2:=h4.cells.1
   rw[e1]at e2
   cases e2
  obtain⟨z0,z1,z2,z3,z4,z5,z6⟩:=h4.cells
  obtain⟨f0,f1,f2,f3,f4,f5,f6⟩:=h4.free
  rw[r4,r3]
  have hG:=set7_grown W g4 lightE (.slice (some ⟨g3,0,none⟩) 2 2)
  have hI4:=set7_in h4 lightE (.slice (some ⟨g3,0,none⟩) 2 2)
  have hI1:=(HI1.out.ext hEw).own hG (by simp;have:=HI1.out.lt;omega)
  have hL4:=(h3.own hG hne).list l3 (by intro x hx;simp only[zN,zQ,or_false]at hx;rcases hx with rfl|rfl<;>rfl)
  have hE4:=ext_fresh (HE2.out.trans hEw) hG (Nat.le_trans hsz2 l4)
  have HI1':=xD hI1
  have HI4:=xD hI4
  have HL4:=xD hL4
  have HE4:=xD hE4
  clear r0 r1 r2 r3 r4 hI1 hI4 hL4 hE4 hG HI1 h2 h3 h4
  go_upto_region 3 with fail
  obtain⟨w4,hw4⟩ :∃q,set7 W g4 lightE (.slice (some ⟨g3,0,none⟩) 2 2)=q:=⟨_,rfl⟩
  rw[hw4]at HI1' HI4 HL4 HE4
  have HW4:Hid (((((((W.setCell ⟨g4,0,none⟩ (.int .i64 7)).setCell ⟨g4,1,none⟩ (.int .i64 0)).setCell ⟨g4,2,none⟩ (.int .i64 0)).setCell ⟨g4,3,none⟩ (.int .i64 0)).setCell ⟨g4,4,none⟩ (.bool false)).setCell ⟨g4,5,none⟩ (.string ⟨#[]⟩)).setCell ⟨g4,6,none⟩ (.slice (some ⟨g3,0,none⟩) 2 2)=w4):=xD hw4
  rw[HW4.out]
  clear hw4 HW4 z0 z1 z2 z3 z4 z5 z6 f0 f1 f2 f3 f4 f5 f6 hEw
  generalize xv 0=v0
  generalize xv 1=v1
  generalize xv 2=v2
  clear xv hE
  apply wp_region_seq (l:=[_,_,_,_,_,_,_,_,_,_,_,_,_]) (t:=[_,_]) [some 8,some 9,some 10,some 11,some 12,some 13,some 14,some 15,some 16,some 17,some 18,some 19,some 20,some 21,some 0] [[],[],[],[],[0,1,2,3],[],[],[],[6,7],[8],[],[],[5,9,10,11],[4,12],[13]] [4,4,4,7,13,12,8,10,9,12,12,12,13] [(eqv (.agg #[.int .i64 1,.int .i64 0,.int .i64 2,.int .i64 0,.bool true,.string ⟨#[]⟩,.slice none 0 0])),(eqv (.agg #[.int .i64 1,.int .i64 0,.int .i64 1,.int .i64 5,.bool false,.string ⟨#[]⟩,.slice none 0 0])),(eqv (.agg #[.int .i64 1,.int .i64 0,.int .i64 1,.int .i64 2,.bool false,.string ⟨#[]⟩,.slice none 0 0])),(eqv (.agg #[.int .i64 1,.int .i64 0,.int .i64 1,.int .i64 0,.bool false,.string ⟨#[]⟩,.slice none 0 0])),eqv _,eqv _,eqv _,(eqv (.agg #[.int .i64 1,.int .i64 0,.int .i64 1,.int .i64 300,.bool false,.string ⟨#[]⟩,.slice none 0 0])),(slF w.heap.size [varE 4,numE 300] 2),(opF w.heap.size 8 [varE 4,numE 300] 2),(eqv (.agg #[.int .i64 1,.int .i64 0,.int .i64 1,.int .i64 (-4),.bool false,.string ⟨#[]⟩,.slice none 0 0])),(eqv (.agg #[.int .i64 1,.int .i64 0,.int .i64 1,.int .i64 99,.bool false,.string ⟨#[]⟩,.slice none 0 0])),(bSP w.heap.size g3)] (by kernel_rfl) (by kernel_rfl) ⟨?o0,?o1,?o2,?o3,?o4,?o5,?o6,?o7,?o8,?o9,?o10,?o11,?o12,trivial⟩ ?last
  case o5|o6=>
   intro xv W2 hE hp
   try have q0:xv _=_:=hp.1
   try have q1:xv _=_:=hp.2.1
   try have q2:xv _=_:=hp.2.2.1
   try have q3:xv _=_:=hp.2.2.2.1
   clear hp
   obtain⟨y0,y1,y2,y3,y4,y5,y6⟩:=(HI1'.out.ext ((Ext.drew w4).trans hE)).cells
   obtain⟨u0,u1,u2,u3,u4,u5,u6⟩:=(HI4.out.ext ((Ext.drew w4).trans hE)).cells
   simp only[putD,zC,zB,zE,zD,Act.put,zT,zV,zU]
   refine OpGoal.plain ?_
   go_wp2_with fail
   exact⟨rfl,Ext.refl _,rfl⟩
  case o0=>
   intro xv W2 hE _
   simp only[putD,zC,zE]
   refine OpGoal.plain ?_
   go_wp2_with fail
   refine(yes_any W2).mono ?_
   rintro e w' ⟨rfl,hE9⟩
   go_wp2_with fail
   exact⟨rfl,hE9,rfl⟩
  case o1=>
   intro xv W2 hE _
   simp only[putD,zC,zE,zD]
   refine OpGoal.plain ?_
   go_wp2_with fail
   refine(num_any 5 W2).mono ?_
   rintro e w' ⟨rfl,hE9⟩
   go_wp2_with fail
   exact⟨rfl,hE9,rfl⟩
  case o2=>
   intro xv W2 hE _
   simp only[putD,zC,zE,zD]
   refine OpGoal.plain ?_
   go_wp2_with fail
   refine(num_any 2 W2).mono ?_
   rintro e w' ⟨rfl,hE9⟩
   go_wp2_with fail
   exact⟨rfl,hE9,rfl⟩
  case o3=>
   intro xv W2 hE _
   simp only[putD,zC,zE,zD]
   refine OpGoal.plain ?_
   go_wp2_with fail
   refine(num_any 0 W2).mono ?_
   rintro e w' ⟨rfl,hE9⟩
   go_wp2_with fail
   exact⟨rfl,hE9,rfl⟩
  case o4=>
   intro xv W2 hE hp
   have r0:xv 0=_:=hp.1
   have r1:xv 1=_:=hp.2.1
   have r2:xv 2=_:=hp.2.2.1
   have r3:xv 3=_:=hp.2.2.2.1
   clear hp
   simp only[putD,zC,zB,zE,zD,Act.put,zT,zV,zU]
   refine OpGoal.plain ?_
   go_wp2_with fail
   exact⟨rfl,Ext.refl _,rfl⟩
  case o7=>
   intro xv W2 hE _
   simp only[putD,zC,zE,zD]
   refine OpGoal.plain ?_
   go_wp2_with fail
   refine(num_any 300 W2).mono ?_
   rintro e w' ⟨rfl,hE9⟩
   go_wp2_with fail
   exact⟨rfl,hE9,rfl⟩
  case o8=>
   intro xv W2 hE hp
   have r6:xv 6=_:=hp.1
   have r7:xv 7=_:=hp.2.1
   clear hp
   simp only[putD,zC,zB,zE,zD,Act.put,zT,zV,zU]
   refine OpGoal.plain ?_
   go_wp2_with fail
   exact⟨rfl,Ext.alloc _ _,W2.heap.size,rfl,(HE4.out.trans ((Ext.drew w4).trans hE)).sz,RowF.two W2 (varE 4) (numE 300)⟩
  case o9=>
   intro xv W2 hE hp
   obtain⟨g8,r8,l8,h8⟩:=hp.1
   clear hp
   simp only[putD,zC,zB,zE,zD,Act.put,zT,zV,zU]
   refine OpGoal.plain ?_
   go_wp2_with fail
   exact⟨rfl,Ext.refl _,g8,rfl,l8,h8⟩
  case o10=>
   intro xv W2 hE _
   simp only[putD,zC,zE,zD]
   refine OpGoal.plain ?_
   go_wp2_with fail
   refine(num_any (-4) W2).mono ?_
   rintro e w' ⟨rfl,hE9⟩
   go_wp2_with fail
   exact⟨rfl,hE9,rfl⟩
  case o11=>
   intro xv W2 hE _
   simp only[putD,zC,zE,zD]
   refine OpGoal.plain ?_
   go_wp2_with fail
   refine(num_any 99 W2).mono ?_
   rintro e w' ⟨rfl,hE9⟩
   go_wp2_with fail
   exact⟨rfl,hE9,rfl⟩
  case o12=>
   intro xv W2 hE hp
   have r5:xv 5=_:=hp.1
   obtain⟨g9,r9,l9,h9⟩:=hp.2.1
   have r10:xv 10=_:=hp.2.2.1
   have r11:xv 11=_:=hp.2.2.2.1
   clear hp
   simp only[putD,zC,zB,zE,zD,Act.put,zT,zV,zU]
   refine OpGoal.plain ?_
   go_wp2_with fail
   exact⟨rfl,Ext.refl _,g9,rfl,l9,h9⟩
  case last=>
   intro xv W2 hE hp
   have r0:xv 0=_:=hp.1
   have r1:xv 1=_:=hp.2.1
   have r2:xv 2=_:=hp.2.2.1
   have r3:xv 3=_:=hp.2.2.2.1
   have r4:xv 4=_:=hp.2.2.2.2.1
   have r5:xv 5=_:=hp.2.2.2.2.2.1
   have r6:xv 6=_:=hp.2.2.2.2.2.2.1
   have r7:xv 7=_:=hp.2.2.2.2.2.2.2.1
   obtain⟨g8,r8,l8,h8⟩:=hp.2.2.2.2.2.2.2.2.1
   obtain⟨g9,r9,l9,h9⟩:=hp.2.2.2.2.2.2.2.2.2.1
   have r10:xv 10=_:=hp.2.2.2.2.2.2.2.2.2.2.1
   have r11:xv 11=_:=hp.2.2.2.2.2.2.2.2.2.2.2.1
   obtain⟨g12,r12,l12,h12⟩:=hp.2.2.2.2.2.2.2.2.2.2.2.2.1
   clear hp
   simp only[putD,zC,zB,zE,zD,Act.put,zK,zL,zR,zS,zP,zA,zT,zV,zU]
   have hEw:Ext w4 W2:=(Ext.drew w4).trans hE
   have hE2:=HE4.out.trans hEw
   have k3:=exl_ext HL4.out hEw
   have k12:=h12.list l12 (by intro x hx;simp only[zN,zQ,or_false]at hx;rcases hx with rfl|rfl<;>rfl)
   rw[r12,r4]
   clear r0 r1 r2 r3 r4 r5 r6 r7 r8 r9 r10 r11 r12
   go_wp2_with fail
   go_ret
   exact Two.new hE2 k3 k12
end Go.Proofs.YtmiencglfhpmeaaGreatDoor
namespace Go.Proofs.YtmiencglfhpmeaaGreatDoor
open Go.RowKit Hach
def exP:Rl:=⟨exB.nm,1,exB.e1,exB.e2,exB.e3,exB.e4⟩
def exT:Rl:=⟨exB.nm,exB.pr,exB.e1,yesE,exB.e3,exB.e4⟩
def enW (n:Int):En:=⟨3,[],[],n,0,false,0,0,0⟩
theorem f6:chkL [exA,exB]=0:=by decide
theorem f7:chkL [exA,exB,exA]=6:=by decide
theorem f8:chkL [exA,exT]=30:=by decide
theorem f1:lookL [exA,exB] (enW 20)=((5,2,0),[97],0):=by decide
theorem f2:lookL [exA,exB] (enW 3)=((255,0,8),[98],0):=by decide
theorem f3:lookL [] (enW 3)=((0,0,0),[],0):=by decide
theorem f4:lookL [exA,exP] (enW 3)=((0,0,0),[97,47,98],31):=by decide
theorem f5:lookL [exA,exP] (enW 20)=((5,2,0),[97],0):=by decide
theorem f9:exA.same exA=true:=by decide
theorem f9n:exA.same exB=false:=by decide
end Go.Proofs.YtmiencglfhpmeaaGreatDoor
namespace Go.Proofs.YtmiencglfhpmeaaGreatDoor
open Go.RowKit Hach
set_option maxRecDepth 100000 in
set_option maxHeartbeats 4000000 in
theorem looks_any (l:List Rl) (A:Option Addr) (c d:Nat) (w:World) (n a1 a2 a3 er:Int) (nm:List UInt8) (hX:RlB w w.heap.size d A l) (hl:l.length<4294967296) (hc:l.length≤c) (hc2:c<9223372036854775808) (hok :∀r∈l,r.ok) (h:lookL l (enW n)=((a1,a2,a3),nm,er)) :
  Calls Tryz.prog 34 #[.slice A l.length c,.int .i64 n,.agg #[.int .i64 a1,.int .i64 a2,.int .i64 a3],.string ⟨nm.toArray⟩,.int .i64 er] w fun e w'=>e=.returned (.bool true)∧Ext w w':=by
 have hE1:=Ext.alloc w (.cells (Lk_row (a1,a2,a3)) 39)
 have hB1:=LkB.new w (a1,a2,a3)
 obtain⟨w1,hw1⟩ :∃q,w.alloc (.cells (Lk_row (a1,a2,a3)) 39)=q:=⟨_,rfl⟩
 obtain⟨bl,hbl⟩ :∃q,w.heap.size=q:=⟨_,rfl⟩
 rw[hw1]at hE1
 rw[hw1,hbl]at hB1
 have LO:=xD (Look_any l (enW n) A c d w1 (RlL.ext hX hE1) hl hc hc2 hok)
 unfold LookR at LO
 rw[h]at LO
 have HB1:=xD hB1
 have HE1:=xD hE1
 have HBL:=xD hbl
 have HW1:Hid (w.alloc (.cells #[.int .i64 a1,.int .i64 a2,.int .i64 a3] 39)=w1):=xD hw1
 unfold Lk_row En.v enW at LO
 obtain⟨D,hD⟩ :∃D:ByteArray,(⟨nm.toArray⟩:ByteArray)=D:=⟨_,rfl⟩
 rw[hD]at LO ⊢
 clear hw1 hbl hE1 hB1 hX hl hc hc2 hok h hD
 go_enter Tryz.func34,Tryz.ntmps34
 go_upto_region 1 with fail
 rw[HW1.out,HBL.out]
 go_wp2_with fail
 refine LO.out.mono ?_
 rintro e w2 ⟨rfl,hE2⟩
 have HE2:=xD (HE1.out.trans hE2)
 have HB2:=xD (HB1.out.ext hE2)
 clear hE2 LO
 go_upto_region 2 with fail
 have hE3:=Ext.alloc w2 (.cells (Lk_row (a1,a2,a3)) 39)
 have hB3:=LkB.new w2 (a1,a2,a3)
 obtain⟨w3,hw3⟩ :∃q,w2.alloc (.cells (Lk_row (a1,a2,a3)) 39)=q:=⟨_,rfl⟩
 obtain⟨b3,hb3⟩ :∃q,w2.heap.size=q:=⟨_,rfl⟩
 rw[hw3]at hE3
 rw[hw3,hb3]at hB3
 have HW3:Hid (w2.alloc (.cells #[.int .i64 a1,.int .i64 a2,.int .i64 a3] 39)=w3):=xD hw3
 have HE3:=xD (HE2.out.trans hE3)
 obtain⟨y0,y1,y2⟩:=(HB2.out.ext hE3).cells
 obtain⟨u0,u1,u2⟩:=hB3.cells
 rw[HW3.out,hb3]
 have hDD:(D.toList == D.toList)=true:=beq_self_eq_true _
 clear hw3 hb3 hE3 hB3
 go_wp2_with fail
 go_ret
 exact⟨rfl,HE3.out⟩
end Go.Proofs.YtmiencglfhpmeaaGreatDoor
namespace Go.Proofs.YtmiencglfhpmeaaGreatDoor
open Go.RowKit Hach
structure TwoB (W:World) (g:Nat) (u v:Rn) (d:Nat):Prop where
 blk:W.heap[g]?=some (.cells (u.cells++v.cells).toArray 49 (0,0))
 k1:u.kids W (fun b=>b<W.heap.size∧b≠g) d
 k2:v.kids W (fun b=>b<W.heap.size∧b≠g) d
theorem TwoB.lt {W:World}{g d:Nat}{u v:Rn}(h:TwoB W g u v d):g<W.heap.size:=(zZ.1 h.blk).1
theorem TwoB.of {a b:Rl}{w w':World}{e:Ending}(h:Two a b w e w') :∃(g:Nat) (u v:Rn) (d:Nat),e=.returned (.slice (some ⟨g,0,none⟩) 2 2)∧u.r=a∧v.r=b∧TwoB w' g u v d∧w.heap.size≤g∧Ext w w':=by
 obtain⟨g,u,v,d,h1,h2,h3,h4,h5,h6,h7,h8⟩:=h
 exact⟨g,u,v,d,h1,h2,h3,⟨h4,h5.more fun b hb=>hb.2,h6.more fun b hb=>hb.2⟩,h7,h8⟩
theorem TwoB.ext {W W':World}{g d:Nat}{u v:Rn}(h:TwoB W g u v d) (hE:Ext W W'):TwoB W' g u v d:=
 ⟨(hE.below.block g h.lt).trans h.blk,(h.k1.keep fun b hb o=>hE.old (p:=⟨b,o,none⟩) hb.1).more fun b hb=>⟨zW hb.1 hE.sz,hb.2⟩,(h.k2.keep fun b hb o=>hE.old (p:=⟨b,o,none⟩) hb.1).more fun b hb=>⟨zW hb.1 hE.sz,hb.2⟩⟩
theorem TwoB.rng {W:World}{g d:Nat}{u v:Rn}(h:TwoB W g u v d):W.rangeAt g 0 u.cells∧W.rangeAt g 30 v.cells:=by
 constructor
 ·intro j x hx
  have hj:=(zI.1 hx).1
  simp[World.cell?,h.blk,zF hj,hx]
 ·intro j x hx
  have h30:u.cells.length=30:=rfl
  have:(u.cells++v.cells)[30+j]?=some x:=by rw[zG (by omega),h30,Nat.add_sub_cancel_left];exact hx
  simp[World.cell?,h.blk,this]
theorem TwoB.at_ {W:World}{g d:Nat}{u v:Rn}(h:TwoB W g u v d) :∀(j:Nat) (t:Rn),[u,v][j]?=some t→W.rangeAt g (0+j*30) t.cells:=fun j t ht=>by
 match j,ht with
 | 0,ht=>simp only[zH,zY]at ht;subst ht;exact h.rng.1
 | 1,ht=>simp only[List.getElem?_cons_succ,zH,zY]at ht;subst ht;exact h.rng.2
 | j+2,ht=>simp at ht
theorem TwoB.rlb {W:World}{g d:Nat}{u v:Rn}(h:TwoB W g u v d) {a b:Rl}(ha:u.r=a) (hb:v.r=b):RlB W W.heap.size d (some ⟨g,0,none⟩) [a,b]:=by
 have hr:=RlL.row (S:=fun b=>b<W.heap.size) (d:=d) (us:=[u,v]) h.lt (fun t ht=>by
  simp only[zN,zQ,or_false]at ht
  rcases ht with rfl|rfl
  ·exact h.k1.more fun b hb=>hb.1
  ·exact h.k2.more fun b hb=>hb.1) h.at_
 subst ha;subst hb
 exact hr
theorem TwoB.free {W:World}{g d:Nat}{u v:Rn}(h:TwoB W g u v d) (o:Nat):W.frozen? ⟨g,o,none⟩=false:=by simp[World.frozen?,h.blk]
theorem TwoB.setP {W:World}{g d:Nat}{u v:Rn}(h:TwoB W g u v d) (n:Int):TwoB (W.setCell ⟨g,31,none⟩ (.int .i64 n)) g u (v.setP n) d∧W.grownBy (W.setCell ⟨g,31,none⟩ (.int .i64 n)) (some g):=by
 have hp:=put_mid [.int .i64 n] [.int .i64 v.r.pr] (u.cells++[.string ⟨v.r.nm.toArray⟩]) (v.r.e1.cells v.A1 v.c1++(v.r.e2.cells v.A2 v.c2++(v.r.e3.cells v.A3 v.c3++v.r.e4.cells v.A4 v.c4))) W h.blk rfl
 have hk :∀b,b<W.heap.size∧b≠g →∀o,(W.setCell ⟨g,31,none⟩ (.int .i64 n)).cell? ⟨b,o,none⟩=W.cell? ⟨b,o,none⟩:=fun b hb o=>grown_cell hp.2 hb.1 (by simp;omega) o
 have hs:W.heap.size≤(W.setCell ⟨g,31,none⟩ (.int .i64 n)).heap.size:=hp.2.size
 refine⟨⟨hp.1,(h.k1.keep hk).more fun b hb=>⟨zW hb.1 hs,hb.2⟩,?_⟩,hp.2⟩
 have k:=(h.k2.keep hk).more (S':=fun b=>b<(W.setCell ⟨g,31,none⟩ (.int .i64 n)).heap.size∧b≠g) fun b hb=>⟨zW hb.1 hs,hb.2⟩
 exact⟨k.k1,k.k2,k.k3,k.k4⟩
theorem store_22 {ops:Array Oper}{rest:List Oper}{op:Oper}{a:Act}{w:World}{Q:Exit→Act→World→Prop}(g d:Nat) (u v:Rn) (y:Ex) (h:TwoB w g u v d) (hl:y.l=[]) (hgd:op.guard=none) (x z:Operand) (hop:op.op=.store 47 x z) (hx:a.eval x=.pointer (some ⟨g,39,none⟩)) (hy:a.eval z=.agg (y.cells none 0).toArray)
  (hk :∀w',TwoB w' g u (v.set2 y none 0) d→w.grownBy w' (some g)→wpList Tryz.prog ops Q rest (a.put op.dst undef) w'):wpList Tryz.prog ops Q (op::rest) a w:=by
 have hp:=put_mid (y.cells none 0) (v.r.e2.cells v.A2 v.c2) (u.cells++.string ⟨v.r.nm.toArray⟩::.int .i64 v.r.pr::v.r.e1.cells v.A1 v.c1) (v.r.e3.cells v.A3 v.c3++v.r.e4.cells v.A4 v.c4) w h.blk rfl
 refine store_E g 39 (u.cells++.string ⟨v.r.nm.toArray⟩::.int .i64 v.r.pr::v.r.e1.cells v.A1 v.c1) (v.r.e2.cells v.A2 v.c2) (v.r.e3.cells v.A3 v.c3++v.r.e4.cells v.A4 v.c4) (y.cells none 0) 49 h.blk rfl rfl rfl (ex_one y none 0) hgd x z hop hx hy (hk _ ?_ hp.2)
 have hkk :∀b,b<w.heap.size∧b≠g →∀o,(w.setCells g 39 (y.cells none 0)).cell? ⟨b,o,none⟩=w.cell? ⟨b,o,none⟩:=fun b hb o=>grown_cell hp.2 hb.1 (by simp;omega) o
 have hs:w.heap.size≤(w.setCells g 39 (y.cells none 0)).heap.size:=hp.2.size
 have k:=(h.k2.keep hkk).more (S':=fun b=>b<(w.setCells g 39 (y.cells none 0)).heap.size∧b≠g) fun b hb=>⟨zW hb.1 hs,hb.2⟩
 exact⟨hp.1,(h.k1.keep hkk).more fun b hb=>⟨zW hb.1 hs,hb.2⟩,⟨k.k1,by rw[show(v.set2 y none 0).r.e2.l=[] from hl];exact ExL.nil _ _ _ _,k.k3,k.k4⟩⟩
theorem app_G {ops:Array Oper}{rest:List Oper}{o:Oper}{a:Act}{w:World}{Q:Exit→Act→World→Prop}(hgd:o.guard=none) (s x:Tmp)
  (ho:o.op=.call { callee:=.builtin .append,args:=#[.tmp s,.tmp x],argTypes:=#[30,30] }) (b p cap:Nat) (us:List Rn) (hs:a.eval (.tmp s)=.slice (some ⟨b,p,none⟩) us.length cap) (hu :∀(j:Nat) (t:Rn),us[j]?=some t→w.rangeAt b (p+j*30) t.cells)
  (g k c:Nat) (ts:List Rn) (hx:a.eval (.tmp x)=.slice (some ⟨g,k,none⟩) ts.length c) (hc :∀(j:Nat) (t:Rn),ts[j]?=some t→w.rangeAt g (k+j*30) t.cells) (hfull:cap<us.length+ts.length) (hl:us.length+ts.length<4294967296)
  (h :∀v' w',OwnR w' w.heap.size v' (us++ts)→Ext w w'→wpList Tryz.prog ops Q rest (a.put o.dst v') w'):wpList Tryz.prog ops Q (o::rest) a w:=by
 obtain⟨i0,hi,hz0,hz1,hz2⟩:=info_parts infoR
 have key :∀(b p:Nat) (us:List Rn),(∀(j:Nat) (t:Rn),us[j]?=some t→w.rangeAt b (p+j*30) t.cells) →∀j u,(us.map Rn.cells).flatten[j]?=some u→w.cell? ⟨b,p+j,none⟩=some u:=by
  intro b p us hu j u hj
  have hj':j<us.length*30:=by have:=(zI.1 hj).1;rw[rns_len]at this;exact this
  have e1:j=j/30*30+j%30:=by omega
  have hq:j/30<us.length:=by omega
  rw[e1,rns_at us (j/30) hq (j%30) (Nat.mod_lt _ (by decide))]at hj
  have:=hu (j/30) us[j/30] (List.getElem?_eq_getElem hq) (j%30) u hj
  rw[show p+j/30*30+j%30=p+j by omega]at this
  exact this
 refine wpList_append_grows w hgd _ _ _ ho 49 i0 _ 30 344 Tryz.underlying30 hi hz0 hz1 hz2 rfl (by decide) (some ⟨b,p,none⟩) us.length cap (us.map Rn.cells).flatten hs (fun h=>by cases h) (rns_len us) (fun q hq j u hj=>?_) ⟨g,k,none⟩ ts.length c (ts.map Rn.cells).flatten hx (rns_len ts) (fun j u hj=>?_) ?_ hfull ?_ ?_ ?_
 ·simp only[zY]at hq
  subst hq
  rw[Addr.add_mid]
  exact key b p us hu j u hj
 ·rw[Addr.add_mid]
  exact key g k ts hc j u hj
 ·intro u hu
  obtain⟨l,hl1,hl2⟩:=List.mem_flatten.1 hu
  obtain⟨t,_,rfl⟩:=zO.1 hl1
  exact rn_one t u hl2
 ·simp only[maxLen];omega
 ·omega
 ·intro v' w' h2 h3
  refine h v' w' ?_ (Below.grown (Below.refl _ w) h3 (Nat.le_refl _) (by intro k hk;cases hk))
  unfold OwnR
  simpa using h2
end Go.Proofs.YtmiencglfhpmeaaGreatDoor
namespace Go.Proofs.YtmiencglfhpmeaaGreatDoor
open Go.RowKit Hach Num
abbrev Bdr (B b:Nat) (l:List UInt8) (w:World):Prop:=xB 99 5 B b (xC l) w
abbrev Oth (b:Nat) (w w':World):Prop:=Lib.OthersKept 5 (some b) w w'
theorem wStr (B b:Nat) (l s:List UInt8) (w:World) (h:Bdr B b l w) (hlen:l.length+s.length≤140737488355328) (hBw:B≤w.heap.size) :
  Calls Tryz.prog 46 #[.pointer (some ⟨b,0,none⟩),.string ⟨s.toArray⟩] w fun e w'=>e=.returned (.tuple #[.int .i64 (s.length:Nat),.nilIface])∧Bdr B b (l++s) w'∧Below B w w'∧Oth b w w':=by
 have hz:(⟨s.toArray⟩:ByteArray).size=s.length:=Wr.toArr_size s
 refine(Any.Builder_WriteString_k Wr.sh166 Wr.sh166x B b (xC l) ⟨s.toArray⟩ w h (by rw[hz,Wr.bytes_length];exact hlen) hBw).mono ?_
 rintro e w' ⟨rfl,h1,h2,h3⟩
 refine⟨by rw[hz],.inr ?_,h2,h3⟩
 rw[Lib.strCells_toArray]at h1
 have h4:xA 99 5 B b (.pointer (some ⟨b,0,none⟩)) (xC l++xC s) w':=h1
 simpa[xC]using h4
theorem bStr (B b:Nat) (l:List UInt8) (w:World) (h:Bdr B b l w) (hBw:B≤w.heap.size) :
  Calls Tryz.prog 50 #[.pointer (some ⟨b,0,none⟩)] w fun e w'=>e=.returned (.string ⟨l.toArray⟩)∧Below B w w':=by
 refine(Any.Builder_String_any_k Tryz.lays169 Tryz.Builder_Extra_169 B b l w h hBw).mono ?_
 rintro e w' ⟨rfl,_,h2,_⟩
 exact⟨rfl,h2⟩
theorem Bdr.ext {B b:Nat}{l:List UInt8}{w w':World}(h:Bdr B b l w) (hE:Ext w w'):Bdr B b l w':=by
 have key :∀p,xA 99 5 B b p (xC l) w→xA 99 5 B b p (xC l) w':=fun p h=>by
  obtain⟨hB,v,hb,ho,hn⟩:=h
  exact⟨hB,v,(hE.below.block b (zZ.1 hb).1).trans hb,World.ownsRowF.kept ho (Wr.grown_ext hE none) (by cases v.ownBlock<;>simp),hn⟩
 exact h.imp (key _) (key _)
theorem RnB.kept {w w':World}{b bd:Nat}{u:Rn}(h:RnB w b u) (hk:Oth bd w w') (hne:b≠bd):RnB w' b u:=hk b _ h (by simpa using hne) (fun c fz e=>by simp at e)
def E28 (u:Rn):List Value:=u.r.e1.cells u.A1 u.c1++(u.r.e2.cells u.A2 u.c2++(u.r.e3.cells u.A3 u.c3++u.r.e4.cells u.A4 u.c4))
def EB (w:World) (g:Nat) (u:Rn):Prop:=w.heap[g]?=some (.cells (E28 u).toArray 47 (0,0))
theorem EB.lt {w:World}{g:Nat}{u:Rn}(h:EB w g u):g<w.heap.size:=(zZ.1 h).1
theorem EB.ext {w w':World}{g:Nat}{u:Rn}(h:EB w g u) (hE:Ext w w'):EB w' g u:=(hE.below.block g h.lt).trans h
theorem EB.kept {w w':World}{g bd:Nat}{u:Rn}(h:EB w g u) (hk:Oth bd w w') (hne:g≠bd):EB w' g u:=hk g _ h (by simpa using hne) (fun c fz e=>by simp at e)
theorem EB.range {w:World}{g:Nat}{u:Rn}(h:EB w g u):w.rangeAt g 0 (E28 u):=fun j v hv=>by
 have h':w.heap[g]?=_:=h
 simpa[World.cell?,h']using hv
def exAt (u:Rn) (j:Nat):Ex:=if j=0 then u.r.e1 else if j=1 then u.r.e2 else if j=2 then u.r.e3 else u.r.e4
def adAt (u:Rn) (j:Nat):Option Addr:=if j=0 then u.A1 else if j=1 then u.A2 else if j=2 then u.A3 else u.A4
def cpAt (u:Rn) (j:Nat):Nat:=if j=0 then u.c1 else if j=1 then u.c2 else if j=2 then u.c3 else u.c4
theorem EB.rng {w:World}{g:Nat}{u:Rn}(h:EB w g u) (j:Nat) (hj:j<4):w.rangeAt g (j*7) ((exAt u j).cells (adAt u j) (cpAt u j)):=fun i v hi=>by
 have hr:=h.range
 have hi7:i<7:=(zI.1 hi).1
 have key:(E28 u)[j*7+i]?=some v:=by
  match j,hj with
  | 0,_=>rw[Nat.zero_mul,zX];unfold E28;rw[zF (by exact hi7)];exact hi
  | 1,_=>
   unfold E28
   rw[zG (by show 7≤1*7+i;omega),zF (by show 1*7+i-7<7;omega)]
   rw[show 1*7+i-(u.r.e1.cells u.A1 u.c1).length=i by show 1*7+i-7=i;omega];exact hi
  | 2,_=>
   unfold E28
   rw[zG (by show 7≤2*7+i;omega),zG (by show 7≤2*7+i-7;omega),zF (by show 2*7+i-7-7<7;omega)]
   rw[show 2*7+i-(u.r.e1.cells u.A1 u.c1).length-(u.r.e2.cells u.A2 u.c2).length=i by show 2*7+i-7-7=i;omega];exact hi
  | 3,_=>
   unfold E28
   rw[zG (by show 7≤3*7+i;omega),zG (by show 7≤3*7+i-7;omega),zG (by show 7≤3*7+i-7-7;omega)]
   rw[show 3*7+i-(u.r.e1.cells u.A1 u.c1).length-(u.r.e2.cells u.A2 u.c2).length-(u.r.e3.cells u.A3 u.c3).length=i by show 3*7+i-7-7-7=i;omega];exact hi
 have:=hr (j*7+i) v key
 rwa [zX]at this
set_option maxRecDepth 100000 in
set_option maxHeartbeats 2000000 in
theorem expressions2_any (u:Rn) (w:World) :
  Calls Tryz.prog 43 #[.agg u.cells.toArray] w fun e w' =>∃g,e=.returned (.slice (some ⟨g,0,none⟩) 4 4)∧w.heap.size≤g∧EB w' g u∧Ext w w':=by
 obtain⟨w1,hw1⟩ :∃w1,w.alloc (.cells u.cells.toArray 49)=w1:=⟨_,rfl⟩
 have hB:=RnB.new w u
 rw[hw1]at hB
 have hE1:Ext w w1:=by rw[←hw1];exact Ext.alloc _ _
 have l1:=range1 hB.range
 have l2:=range2 hB.range
 have l3:=range3 hB.range
 have l4:=range4 hB.range
 have HW1:=xD hw1
 clear hw1
 simp only[zX]at l1 l2 l3 l4
 unfold Ex.cells at l1 l2 l3 l4
 go_enter Tryz.func43,Tryz.ntmps43
 go_upto_region 1 with fail
 rw[HW1.out]
 go_wp2_with (first|(refine load_E rfl _ rfl _ _ _ l1 rfl rfl ?_)|(refine load_E rfl _ rfl _ _ _ l2 rfl rfl ?_)|(refine load_E rfl _ rfl _ _ _ l3 rfl rfl ?_)|(refine load_E rfl _ rfl _ _ _ l4 rfl rfl ?_))
 go_ret
 exact⟨w1.heap.size,rfl,hE1.sz,Go.heap_alloc_new _ _,hE1.trans (Ext.alloc _ _)⟩
def tAt (u:Rn) (j:Nat):List UInt8:=wrText (txT (exAt u j))
def preT (u:Rn):List UInt8:=wrText u.r.nm++wrInt u.r.pr
def midT (u:Rn) (j:Nat):List UInt8:=preT u++((List.range j).map (tAt u)).flatten
theorem midT_step (u:Rn) (j:Nat):midT u (j+1)=midT u j++tAt u j:=by
 unfold midT;rw[zR];simp
theorem midT_four (u:Rn):midT u 4=u.r.text:=by
 unfold midT preT Rl.text
 simp[zR,tAt,exAt]
theorem exAt_facts {u:Rn}{d:Nat}{W:World}{S:Nat→Prop}(hk:u.kids W S d) (j:Nat):ExL W S d (adAt u j) (exAt u j).l:=by
 unfold adAt exAt
 split
 ·exact hk.k1
 split
 ·exact hk.k2
 split
 ·exact hk.k3
 ·exact hk.k4
theorem exAt_ok {u:Rn}(hok:u.r.ok) (j:Nat):(exAt u j).ok∧(exAt u j).size<1099511627776:=by
 obtain⟨_,_,o1,o2,o3,o4⟩:=hok
 unfold exAt
 split
 ·exact o1
 split
 ·exact o2
 split
 ·exact o3
 ·exact o4
theorem exAt_len {u:Rn}(h:TxSz u.r) (j:Nat):(txT (exAt u j)).length≤1560∧(tAt u j).length≤1582:=by
 unfold tAt exAt
 split
 ·exact⟨h.l3,h.t3⟩
 split
 ·exact⟨h.l4,h.t4⟩
 split
 ·exact⟨h.l5,h.t5⟩
 ·exact⟨h.l6,h.t6⟩
theorem midT_len {u:Rn}(h:TxSz u.r) :∀j:Nat,(midT u j).length≤68+1582*j
 | 0=>by
  have:=h.t1
  have:=h.t2
  unfold midT preT
  simp only[zJ]
  simp;omega
 | j+1=>by
  have h1:=midT_len h j
  have h2:=(exAt_len h j).2
  rw[midT_step,zJ];omega
set_option maxRecDepth 100000 in
set_option maxHeartbeats 4000000 in
theorem TextL_any (l:List Rl) (A:Option Addr) (c d:Nat) (w:World) (hX:RlB w w.heap.size d A l) (hl:l.length<4294967296) (hc:l.length≤c) (hc2:c<9223372036854775808) (hok :∀r∈l,r.ok) (hT:Wr.Tabs w) (hT2:Tabs w) :
  Calls Tryz.prog 20 #[.slice A l.length c] w (TextR l w):=by
 have HX:=xD hX
 have HOK:=xD hok
 have HT:=xD hT
 have HT2:=xD hT2
 have CK:=xD (CheckL_any l A c d w hX hl hc hc2 hok)
 clear hX hok hT hT2
 go_enter Tryz.func20,Tryz.ntmps20
 go_wp2_with fail
 refine CK.out.mono ?_
 rintro e w3 ⟨rfl,hE3⟩
 have HE3:=xD hE3
 obtain⟨E,hEE⟩ :∃E,chkL l=E:=⟨_,rfl⟩
 have HCE:=xD hEE
 rw[hEE]
 clear hEE hE3
 by_cases e0:E=0
 ·subst e0
  have HL:Hid (txL l=(textsL l,0)):=xD (txL_of HCE.out)
  go_upto_region 5 with fail
  obtain⟨w4,hw4⟩ :∃w4,w3.alloc (.cells #[.pointer none,.slice none 0 0] 99)=w4:=⟨_,rfl⟩
  have hBd:=xB.of (Lib.fresh_isBuilder 99 5 w3)
  rw[hw4]at hBd ⊢
  have hE4:Ext w3 w4:=by rw[←hw4];exact Ext.alloc _ _
  obtain⟨bd,hbd⟩ :∃b,w3.heap.size=b:=⟨_,rfl⟩
  rw[hbd]at hBd ⊢
  have HBD:Hid (Bdr bd bd (textsL (l.take 0)) w4):=xD hBd
  have HE4:=xD hE4
  have HS3:=xD hbd
  clear hw4 hBd hE4 hbd
  go_wp2_with fail
  go_loopw [19] (fun kv wr =>∃k:Nat,k≤l.length∧kv=.int .i64 k∧Hid (Bdr bd bd (textsL (l.take k)) wr∧Ext w3 wr)) (fun kv _=>l.length-(intOf kv).toNat)
  case atStart=>exact⟨0,by omega,rfl,xD ⟨HBD.out,HE4.out⟩⟩
  case round=>
   obtain⟨k,hk,rfl,HS⟩:=hrel
   by_cases hlt:k<l.length
   ·have tk:decide (k<l.length)=true:=by simp;omega
    obtain⟨g,o,u,rfl,hg,hu,hku,hr0⟩:=HX.out.at_ hlt
    have hr:=range_ext hr0 hg (HE3.out.trans HS.out.2)
    have HKU:=xD hku
    have hul:u.r∈l:=by rw[hu];exact List.getElem_mem hlt
    have HOKU:=xD (HOK.out u.r hul)
    obtain⟨bb,hbb⟩:=chk_mem HCE.out hul
    have HSZ:=xD (txSz hbb)
    have HTX:Hid (textsL (l.take (k+1))=textsL (l.take k)++u.r.text):=xD (by rw[hu];exact textsL_take l k hlt)
    have H0:=xD (take_texts HCE.out k)
    obtain⟨P,hP⟩ :∃P,textsL (l.take k)=P:=⟨_,rfl⟩
    rw[hP]at HS HTX H0
    clear hku hu hr0 hul hbb hP
    go_upto_region 8 with(first|(refine load_R rfl _ rfl _ _ _ hr rfl rfl ?_)|(refine store_R u rfl _ _ rfl rfl rfl ?_))
    obtain⟨wa,hwa⟩ :∃wa,wr.alloc (.cells u.cells.toArray 49)=wa:=⟨_,rfl⟩
    have hB:=RnB.new wr u
    rw[hwa]at hB ⊢
    have hEa:Ext wr wa:=by rw[←hwa];exact Ext.alloc _ _
    obtain⟨br,hbr⟩ :∃b,wr.heap.size=b:=⟨_,rfl⟩
    have hbdr:bd<br:=by
     obtain⟨hb1,_⟩|⟨hb1,_⟩:=HS.out.1
     all_goals (rw[←hbr];rename_i hh;obtain⟨v,hv,_⟩:=hh;exact(zZ.1 hv).1)
    rw[hbr]at hB ⊢
    have HBR:=xD hB
    have HEa:=xD (HS.out.2.trans hEa)
    have HBa:=xD (HS.out.1.ext hEa)
    obtain⟨F,hF⟩ :∃F:ByteArray,⟨u.r.nm.toArray⟩=F:=⟨_,rfl⟩
    obtain⟨T1,hT1⟩ :∃T:ByteArray,⟨(wrText u.r.nm).toArray⟩=T:=⟨_,rfl⟩
    obtain⟨T2,hT2⟩ :∃T:ByteArray,⟨(wrInt u.r.pr).toArray⟩=T:=⟨_,rfl⟩
    have z1:T1.size≤46:=by rw[←hT1,Wr.toArr_size];exact HSZ.out.t1
    have z2:T2.size≤22:=by rw[←hT2,Wr.toArr_size];exact HSZ.out.t2
    have HPT:Hid (T1++T2=⟨(preT u).toArray⟩):=xD (by rw[←hT1,←hT2,Wr.ba_append];rfl)
    have CT1:=xD (fun(W:World) (h:Ext wa W)=>Wr.wText_any u.r.nm (by have:=HSZ.out.t0;omega) W (HT.out.ext (HE3.out.trans (HEa.out.trans h))))
    have CT2:=xD (fun(W:World) (h:Ext wa W)=>Wr.wInt_any u.r.pr HSZ.out.i2 W (HT.out.ext (HE3.out.trans (HEa.out.trans h))))
    rw[hF,hT1]at CT1
    rw[hT2]at CT2
    have FN:Hid (∀W,Ext wa W→W.cell? ⟨br,0,none⟩=some (.string F)):=xD (fun W h=>by rw[←hF];exact(hB.ext h).range 0 _ rfl)
    have FP:Hid (∀W,Ext wa W→W.cell? ⟨br,1,none⟩=some (.int .i64 u.r.pr)):=xD (fun W h=>(hB.ext h).range 1 _ rfl)
    clear hwa hB hEa hbr hr hg hF hT1 hT2
    apply wp_region_seq (l:=[_,_,_,_,_,_,_]) (t:=[_]) [some 23,some 24,some 25,some 26,some 27,some 28,some 29,some 30] [[],[0],[1],[],[3],[4],[2,5],[6]] [1,2,6,4,5,7,7] [eqv _,eqv _,(eqv (.string T1)),eqv _,eqv _,(eqv (.string T2)),eqv _] (by kernel_rfl) (by kernel_rfl) ⟨?o0,?o1,?o2,?o3,?o4,?o5,?o6,trivial⟩ ?last
    case o0|o3=>
     intro xv W hE hp
     try have q0:xv _=_:=hp.1
     try have q1:xv _=_:=hp.2.1
     clear hp
     simp only[putD,zC,zB,zE,zD,Act.put,zT,zV,zU]
     refine OpGoal.plain ?_
     go_wp2_with fail
     exact⟨rfl,Ext.refl _,rfl⟩
    case o1|o4=>
     intro xv W hE hp
     try have q0:xv _=_:=hp.1
     try have q1:xv _=_:=hp.2.1
     clear hp
     have hWW:=(Ext.drew wa).trans hE
     have n1:=FN.out W hWW
     have p1:=FP.out W hWW
     simp only[putD,zC,zB,zE,zD,Act.put,zT,zV,zU]
     refine OpGoal.plain ?_
     go_wp2_with fail
     exact⟨rfl,Ext.refl _,rfl⟩
    case o2=>
     intro xv W hE hp
     have r1:xv 1=_:=hp.1
     clear hp
     simp only[putD,zC,zB,zE,zD,Act.put,zT,zV,zU]
     refine OpGoal.plain ?_
     go_wp2_with fail
     refine(CT1.out W ((Ext.drew wa).trans hE)).mono ?_
     rintro r w' ⟨rfl,hE9⟩
     go_wp2_with fail
     exact⟨rfl,hE9,rfl⟩
    case o5=>
     intro xv W hE hp
     have r4:xv 4=_:=hp.1
     clear hp
     simp only[putD,zC,zB,zE,zD,Act.put,zT,zV,zU]
     refine OpGoal.plain ?_
     go_wp2_with fail
     refine(CT2.out W ((Ext.drew wa).trans hE)).mono ?_
     rintro r w' ⟨rfl,hE9⟩
     go_wp2_with fail
     exact⟨rfl,hE9,rfl⟩
    case o6=>
     intro xv W hE hp
     have r2:xv 2=_:=hp.1
     have r5:xv 5=_:=hp.2.1
     clear hp
     simp only[putD,zC,zB,zE,zD,Act.put,zT,zV,zU]
     refine OpGoal.plain ?_
     go_wp2_with fail
     exact⟨rfl,Ext.refl _,rfl⟩
    case last=>
     intro xv W hE hp
     have r0:xv 0=_:=hp.1
     have r1:xv 1=_:=hp.2.1
     have r2:xv 2=_:=hp.2.2.1
     have r3:xv 3=_:=hp.2.2.2.1
     have r4:xv 4=_:=hp.2.2.2.2.1
     have r5:xv 5=_:=hp.2.2.2.2.2.1
     have r6:xv 6=_:=hp.2.2.2.2.2.2.1
     clear hp
     simp only[putD,zC,zB,zE,zD,Act.put,zK,zL,zR,zS,zP,zA,zT,zV,zU]
     have HEW:=xD (HEa.out.trans ((Ext.drew wa).trans hE))
     have HBRW:=xD (HBR.out.ext ((Ext.drew wa).trans hE))
     have HBW:=xD (HBa.out.ext ((Ext.drew wa).trans hE))
     have q6:xv 6=.string (T1++T2):=r6
     rw[HPT.out]at q6
     rw[q6]
     clear r0 r1 r2 r3 r4 r5 r6 q6 hE
     go_wp2_with fail
     have hmz:=midT_len HSZ.out 0
     have hpl:(preT u).length≤68:=by simpa[midT]using hmz
     have hlen0:P.length+(preT u).length≤140737488355328:=by have:=H0.out;omega
     refine(wStr bd bd P (preT u) W HBW.out hlen0 (by have:=HEW.out.sz;have:=HS3.out;omega)).mono ?_
     rintro e w5 ⟨rfl,hB5,hb5,ho5⟩
     have HB5:Hid (Bdr bd bd (P++midT u 0) w5):=xD (by simpa[midT]using hB5)
     have HE5:=xD (show Ext w3 w5 from Below.trans HEW.out (by rw[HS3.out];exact hb5))
     have HBR5:=xD (HBRW.out.kept ho5 (by omega))
     clear hB5 hb5 ho5 hmz
     go_upto_region 9 with fail
     have hr5:=HBR5.out.range
     go_wp2_with (first|(refine load_R rfl _ rfl _ _ _ hr5 rfl rfl ?_))
     refine(expressions2_any u w5).mono ?_
     rintro e w6 ⟨ge,rfl,hge,hEB,hE6⟩
     have hbe:bd<ge:=by have:=HBR5.out.lt;omega
     have HB6:=xD (HB5.out.ext hE6)
     have HE6:=xD (HE5.out.trans hE6)
     have HEB:=xD hEB
     clear hr5 hEB hE6 hge
     go_wp2_with fail
     go_loopw [34] (fun jv ws =>∃j:Nat,j≤4∧jv=.int .i64 j∧Hid (Bdr bd bd (P++midT u j) ws∧EB ws ge u∧Ext w3 ws)) (fun jv _=>4-(intOf jv).toNat)
     case atStart=>exact⟨0,by omega,rfl,xD ⟨HB6.out,HEB.out,HE6.out⟩⟩
     case round=>
      obtain⟨j,hj,rfl,HI⟩:=hrel
      by_cases hj4:j<4
      ·have tj:decide ((j:Int)<4)=true:=by simp;omega
       have hrj:=HI.out.2.1.rng j hj4
       have hEw:Ext w wr:=HE3.out.trans HI.out.2.2
       have hkx:=exAt_facts (HKU.out.ext hEw) j
       have hokx:=exAt_ok HOKU.out j
       have hlx:=exAt_len HSZ.out j
       have HTA:Hid (tAt u j=wrText (txT (exAt u j))):=xD rfl
       obtain⟨x,hx⟩ :∃x,exAt u j=x:=⟨_,rfl⟩
       obtain⟨Ax,hAx⟩ :∃x,adAt u j=x:=⟨_,rfl⟩
       obtain⟨cx,hcx⟩ :∃x,cpAt u j=x:=⟨_,rfl⟩
       rw[hx]at hrj hkx hokx hlx HTA
       rw[hAx]at hrj hkx
       rw[hcx]at hrj
       have CTX:=xD (fun(W:World) (h:Ext wr W)=>TextC_any x d Ax cx W (ExL.ext hkx h) hokx.2 hokx.1 (HT2.out.ext (hEw.trans h)))
       have WTX:=xD (fun(W:World) (h:Ext wr W)=>Wr.wText_any (txT x) (by omega) W (HT.out.ext (hEw.trans h)))
       have HML:=xD (midT_len HSZ.out j)
       have HTL:=xD hlx.2
       unfold Ex.cells at hrj CTX
       unfold sv at CTX
       clear hEw hkx hokx hlx hx hAx hcx
       go_wp2_with (first|(refine load_E rfl _ rfl _ _ _ hrj rfl rfl ?_))
       refine(CTX.out _ (Ext.alloc _ _)).mono ?_
       rintro e w7 ⟨rfl,hE7⟩
       have HE7:=xD ((Ext.alloc _ _).trans hE7)
       clear hE7 hrj
       go_wp2_with fail
       refine(WTX.out w7 HE7.out).mono ?_
       rintro e w8 ⟨rfl,hE8⟩
       have HE8:=xD (HE7.out.trans hE8)
       have hlen8:(P++midT u j).length+(wrText (txT x)).length≤140737488355328:=by
        have h1:=H0.out
        have h2:=HML.out
        have h3:=HTL.out
        rw[HTA.out]at h3
        rw[zJ];omega
       clear hE8
       go_wp2_with fail
       refine(wStr bd bd (P++midT u j) (wrText (txT x)) w8 (HI.out.1.ext HE8.out) hlen8 (by have:=(HI.out.2.2.trans HE8.out).sz;have:=HS3.out;omega)).mono ?_
       rintro e w9 ⟨rfl,hB9,hb9,ho9⟩
       have HN:Hid (Bdr bd bd (P++midT u (j+1)) w9∧EB w9 ge u∧Ext w3 w9):=xD ⟨by rw[midT_step,HTA.out,←List.append_assoc];exact hB9,(HI.out.2.1.ext HE8.out).kept ho9 (by omega),Below.trans (HI.out.2.2.trans HE8.out) (by rw[HS3.out];exact hb9)⟩
       clear hB9 hb9 ho9
       go_wp2_with fail
       go_roundw
       case rel=>exact⟨j+1,by omega,by go_num,HN⟩
       case measure=>simp[intOf];omega
      ·obtain rfl:j=4:=by omega
       have HN:Hid (Bdr bd bd (textsL (l.take (k+1))) wr∧Ext w3 wr):=xD ⟨by rw[HTX.out,←midT_four];exact HI.out.1,HI.out.2.2⟩
       go_wp2_with fail
       go_roundw
       case rel=>exact⟨k+1,by omega,by go_num,HN⟩
       case measure=>simp[intOf];omega
   ·obtain rfl:k=l.length:=by omega
    have tk:decide (l.length<l.length)=false:=by simp
    go_wp2_with fail
    refine(bStr bd bd _ _ HS.out.1 (by have:=HS.out.2.sz;have:=HS3.out;omega)).mono ?_
    rintro e w5 ⟨rfl,hb5⟩
    go_wp2_with fail
    go_ret2
    exact⟨by rw[HL.out];rfl,HE3.out.trans (Below.trans HS.out.2 (by rw[HS3.out];exact hb5))⟩
 ·have ye:(E == 0)=false:=by rw[beq_eq_false_iff_ne];exact e0
  have HL:Hid (txL l=([],E)):=xD (by unfold txL;rw[HCE.out,if_pos e0])
  clear e0
  go_wp2_with fail
  go_ret2
  exact⟨by rw[HL.out];rfl,HE3.out⟩
end Go.Proofs.YtmiencglfhpmeaaGreatDoor
