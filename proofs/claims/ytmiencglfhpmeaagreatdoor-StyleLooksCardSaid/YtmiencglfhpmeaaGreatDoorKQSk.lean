/- Looks in a block of their own; the contracts of Look's closure, of the reference's number and Holds (printed by gen_sk.py). -/
import Derived.Test.YtmiencglfhpmeaaGreatDoorKQSh
import Derived.Test.YtmiencglfhpmeaaGreatDoorKQXp
open Array renaming getElem?_eq_some_iff → zA, getElem?_modify → zB
open Go.Lib renaming hid → zC
set_option linter.unusedSimpArgs false
set_option linter.unusedVariables false
namespace Go.Proofs.YtmiencglfhpmeaaGreatDoor
open Go.RowKit Hach
def Lk_row (x:Int×Int×Int):Array Value:=#[.int .i64 x.1,.int .i64 x.2.1,.int .i64 x.2.2]
def Lk_zero:Array Value:=#[.int .i64 0,.int .i64 0,.int .i64 0]
def LkB (w:World) (b:Nat) (x:Int×Int×Int):Prop:=w.heap[b]?=some (.cells (Lk_row x) 39 (0,0))
def LkZ (w:World) (b:Nat):Prop:=w.heap[b]?=some (.cells Lk_zero 39 (0,0))
theorem LkB.lt {w:World}{b:Nat}{x:Int×Int×Int}(h:LkB w b x):b<w.heap.size:=(zA.1 h).1
theorem LkB.ext {w w':World}{b:Nat}{x:Int×Int×Int}(h:LkB w b x) (hE:Ext w w'):LkB w' b x:=(hE.below.block b h.lt).trans h
theorem LkB.own {w w':World}{b:Nat}{x:Int×Int×Int}{r:Option Nat}(h:LkB w b x) (hg:w.grownBy w' r) (hb:some b≠r):LkB w' b x:=(hg.block b h.lt hb).trans h
theorem LkB.new (w:World) (x:Int×Int×Int):LkB (w.alloc (.cells (Lk_row x) 39)) w.heap.size x:=Go.heap_alloc_new _ _
theorem LkB.cells {w:World}{b:Nat}{x:Int×Int×Int}(h:LkB w b x):w.cell? ⟨b,0,none⟩=some (.int .i64 x.1)∧w.cell? ⟨b,1,none⟩=some (.int .i64 x.2.1)∧w.cell? ⟨b,2,none⟩=some (.int .i64 x.2.2):=by
 have h':w.heap[b]?=_:=h
 refine⟨?_,?_,?_⟩<;>simp[World.cell?,h',Lk_row]
theorem LkB.free {w:World}{b:Nat}{x:Int×Int×Int}(h:LkB w b x):w.frozen? ⟨b,0,none⟩=false∧w.frozen? ⟨b,1,none⟩=false∧w.frozen? ⟨b,2,none⟩=false:=by
 have h':w.heap[b]?=_:=h
 refine⟨?_,?_,?_⟩<;>simp[World.frozen?,h']
theorem LkZ.lt {w:World}{b:Nat}(h:LkZ w b):b<w.heap.size:=(zA.1 h).1
theorem LkZ.ext {w w':World}{b:Nat}(h:LkZ w b) (hE:Ext w w'):LkZ w' b:=(hE.below.block b h.lt).trans h
theorem LkZ.own {w w':World}{b:Nat}{r:Option Nat}(h:LkZ w b) (hg:w.grownBy w' r) (hb:some b≠r):LkZ w' b:=(hg.block b h.lt hb).trans h
theorem LkZ.new (w:World):LkZ (w.alloc (.cells Lk_zero 39)) w.heap.size:=Go.heap_alloc_new _ _
theorem LkZ.cells {w:World}{b:Nat}(h:LkZ w b):w.cell? ⟨b,0,none⟩=some (.int .i64 0)∧w.cell? ⟨b,1,none⟩=some (.int .i64 0)∧w.cell? ⟨b,2,none⟩=some (.int .i64 0):=by
 have h':w.heap[b]?=_:=h
 refine⟨?_,?_,?_⟩<;>simp[World.cell?,h',Lk_zero]
theorem LkZ.free {w:World}{b:Nat}(h:LkZ w b):w.frozen? ⟨b,0,none⟩=false∧w.frozen? ⟨b,1,none⟩=false∧w.frozen? ⟨b,2,none⟩=false:=by
 have h':w.heap[b]?=_:=h
 refine⟨?_,?_,?_⟩<;>simp[World.frozen?,h']
def setLk (w:World) (b:Nat) (x:Int×Int×Int):World:=((w.setCell ⟨b,0,none⟩ (.int .i64 x.1)).setCell ⟨b,1,none⟩ (.int .i64 x.2.1)).setCell ⟨b,2,none⟩ (.int .i64 x.2.2)
theorem setLk_in {w:World}{b:Nat}{y:Int×Int×Int}(h:LkB w b y) (x:Int×Int×Int):LkB (setLk w b x) b x:=by
 have h':w.heap[b]?=some (.cells (Lk_row y) 39 (0,0)):=h
 simp[LkB,setLk,World.setCell,zB,h',Lk_row]
theorem setLk_z {w:World}{b:Nat}(h:LkZ w b) (x:Int×Int×Int):LkB (setLk w b x) b x:=by
 have h':w.heap[b]?=some (.cells Lk_zero 39 (0,0)):=h
 simp[LkB,setLk,World.setCell,zB,h',Lk_row,Lk_zero]
theorem setLk_grown (w:World) (b:Nat) (x:Int×Int×Int):w.grownBy (setLk w b x) (some b):=grown_trans (grown_trans (grown_set _ _ _ _) (grown_set _ _ _ _)) (grown_set _ _ _ _)
theorem look_fin {fn:Func}(hr:fn.results=#[.cell 4 39,.tmp 5,.tmp 6]) {W:World}{b:Nat}{Q:Ending→World→Prop}(x:Int×Int×Int) (s:ByteArray) (n:Int) (hB:LkB W b x) {tmps:Array Value}(h4:tmps.getD 4 undef=.pointer (some ⟨b,0,none⟩)) (h5:tmps.getD 5 undef=.string s) (h6:tmps.getD 6 undef=.int .i64 n)
  (hQ:Q (.returned (.tuple #[.agg (Lk_row x),.string s,.int .i64 n])) W):bodyPost Tryz.prog fn Q Exit.ret ⟨tmps,[]⟩ W:=by
 obtain⟨c0,c1,c2⟩:=hB.cells
 refine bodyPost_ret (v:=.tuple #[.agg (Lk_row x),.string s,.int .i64 n]) ?_ rfl hQ
 unfold Lk_row
 rw[Array.getD_eq_getD_getElem?]at h4 h5 h6
 simp only[results,hr]
 go_simp
theorem numb_min (n most:Int) (h:0≤most):min (max n 0) most=max 0 (min n most):=by omega
set_option maxRecDepth 100000 in
set_option maxHeartbeats 4000000 in
theorem limited_any (e:Ex) (most:Int) (A:Option Addr) (c d:Nat) (x:En) (bx:Nat) (w:World) (hX:ExB w w.heap.size d A e.l) (hsz:e.size<1099511627776) (hok:e.ok) (hB:EvB w bx x) (hm:0≤most) :
  Calls Tryz.prog 39 #[.agg (e.cells A c).toArray,.int .i64 most,.pointer (some ⟨bx,0,none⟩)] w fun r w'=>r=.returned (.int .i64 (numb e x most))∧Ext w w':=by
 obtain⟨w1,hw1⟩ :∃w1,w.alloc (.cells (e.cells A c).toArray 47)=w1:=⟨_,rfl⟩
 have hr:=range_new w (e.cells A c) 47
 rw[hw1]at hr
 have hE1:Ext w w1:=by rw[←hw1];exact Ext.alloc _ _
 have HW1:=zC hw1
 have HE1:=zC hE1
 have EV:=zC (Eval_any e x d A c w1 (hX.ext hE1) hsz hok)
 obtain⟨p0,p1,p2,p3,p4,p5,p6,p7,p8⟩:=(hB.ext hE1).cells
 obtain⟨C,hC⟩ :∃C,(e.cells A c)=C:=⟨_,rfl⟩
 have hl7:C.length=7:=by rw[←hC];rfl
 rw[hC]at hr HW1 EV ⊢
 unfold En.v at EV
 clear hw1 hE1 hX hok hC hB
 go_enter Tryz.func39,Tryz.ntmps39
 go_upto_region 1 with fail
 rw[HW1.out]
 go_wp2_with (first|(refine load_E rfl _ rfl _ _ _ hr hl7 rfl ?_))
 refine EV.out.mono ?_
 rintro r w2 ⟨rfl,hE2⟩
 have HE2:=zC (HE1.out.trans hE2)
 have HN:Hid (numb e x most=max 0 (min (evV e x).n most)):=zC rfl
 obtain⟨v,hv⟩ :∃v,evV e x=v:=⟨_,rfl⟩
 rw[hv]at HN ⊢
 unfold Vl.v
 clear p0 p1 p2 p3 p4 p5 p6 p7 p8 hv hr hE2
 go_wp2_with fail
 go_ret
 refine⟨?_,HE2.out.trans (Ext.alloc _ _)⟩
 rw[HN.out,←numb_min _ _ hm]
 rfl
set_option maxRecDepth 100000 in
set_option maxHeartbeats 4000000 in
theorem number_any (e:Ex) (most:Int) (A:Option Addr) (c d:Nat) (x:En) (w:World) (hX:ExB w w.heap.size d A e.l) (hsz:e.size<1099511627776) (hok:e.ok) :
  Calls Tryz.prog 41 #[.agg (e.cells A c).toArray,x.v,.int .i64 most] w fun r w'=>r=.returned (.int .i64 (numb e x most))∧Ext w w':=by
 obtain⟨w1,hw1⟩ :∃w1,w.alloc (.cells (e.cells A c).toArray 47)=w1:=⟨_,rfl⟩
 have hr:=range_new w (e.cells A c) 47
 rw[hw1]at hr
 have hE1:Ext w w1:=by rw[←hw1];exact Ext.alloc _ _
 have hlt:w.heap.size<w1.heap.size:=by rw[←hw1];simp
 have hs1:w1.heap.size=w.heap.size+1:=by rw[←hw1];simp
 obtain⟨w2,hw2⟩ :∃w2,w1.alloc (.cells (Ev_row x) 28)=w2:=⟨_,rfl⟩
 have hB:=EvB.new w1 x
 rw[hw2,hs1]at hB
 have hE2:Ext w1 w2:=by rw[←hw2];exact Ext.alloc _ _
 have hr2:=range_ext hr hlt hE2
 have HW1:=zC hw1
 have HE:=zC (hE1.trans hE2)
 have EV:=zC (rEval_any e x d A c w2 (hX.ext (hE1.trans hE2)) hsz hok)
 obtain⟨p0,p1,p2,p3,p4,p5,p6,p7,p8⟩:=hB.cells
 unfold Ev_row at hw2
 have HW2:=zC hw2
 obtain⟨C,hC⟩ :∃C,(e.cells A c)=C:=⟨_,rfl⟩
 have hl7:C.length=7:=by rw[←hC];rfl
 rw[hC]at hr2 HW1 EV ⊢
 unfold En.v at EV ⊢
 clear hw1 hw2 hE1 hE2 hX hok hC hB hr hs1
 go_enter Tryz.func41,Tryz.ntmps41
 go_upto_region 1 with fail
 rw[HW1.out,HW2.out]
 go_wp2_with (first|(refine load_E rfl _ rfl _ _ _ hr2 hl7 rfl ?_))
 refine EV.out.mono ?_
 rintro r w3 ⟨rfl,hE3⟩
 have HE2:=zC (HE.out.trans hE3)
 have HN:Hid (numb e x most=max 0 (min (evV e x).n most)):=zC rfl
 obtain⟨v,hv⟩ :∃v,evV e x=v:=⟨_,rfl⟩
 rw[hv]at HN ⊢
 unfold Vl.v
 clear p0 p1 p2 p3 p4 p5 p6 p7 p8 hv hr2 hE3
 go_wp2_with fail
 go_ret
 refine⟨?_,HE2.out.trans (Ext.alloc _ _)⟩
 rw[HN.out]
 rfl
set_option maxRecDepth 100000 in
set_option maxHeartbeats 4000000 in
theorem Holds_any (u:Rn) (d:Nat) (x:En) (w:World) (hk:u.kidsB w w.heap.size d) (hok:u.r.ok) :
  Calls Tryz.prog 40 #[.agg u.cells.toArray,x.v] w fun r w'=>r=.returned (.bool (holds x u.r))∧Ext w w':=by
 obtain⟨w1,hw1⟩ :∃w1,w.alloc (.cells u.cells.toArray 49)=w1:=⟨_,rfl⟩
 have hR:=RnB.new w u
 rw[hw1]at hR
 have hE1:Ext w w1:=by rw[←hw1];exact Ext.alloc _ _
 have hs1:w1.heap.size=w.heap.size+1:=by rw[←hw1];simp
 obtain⟨w2,hw2⟩ :∃w2,w1.alloc (.cells (Ev_row x) 28)=w2:=⟨_,rfl⟩
 have hB:=EvB.new w1 x
 rw[hw2,hs1]at hB
 have hE2:Ext w1 w2:=by rw[←hw2];exact Ext.alloc _ _
 have hr:=range1 (hR.ext hE2).range
 rw[Nat.zero_add]at hr
 have HW1:=zC hw1
 have HE:=zC (hE1.trans hE2)
 have EV:=zC (rEval_any u.r.e1 x d u.A1 u.c1 w2 (hk.ext (hE1.trans hE2)).k1 hok.2.2.1.2 hok.2.2.1.1)
 obtain⟨p0,p1,p2,p3,p4,p5,p6,p7,p8⟩:=hB.cells
 unfold Ev_row at hw2
 have HW2:=zC hw2
 unfold En.v at EV ⊢
 clear hw1 hw2 hE1 hE2 hok hB hR hs1 hk
 go_enter Tryz.func40,Tryz.ntmps40
 go_upto_region 1 with fail
 rw[HW1.out,HW2.out]
 go_wp2_with (first|(refine load_E rfl _ rfl _ _ _ hr rfl rfl ?_))
 refine EV.out.mono ?_
 rintro r w3 ⟨rfl,hE3⟩
 have HE2:=zC (HE.out.trans hE3)
 have HN:Hid (holds x u.r=(evV u.r.e1 x).b):=zC rfl
 obtain⟨v,hv⟩ :∃v,evV u.r.e1 x=v:=⟨_,rfl⟩
 rw[hv]at HN ⊢
 unfold Vl.v
 clear p0 p1 p2 p3 p4 p5 p6 p7 p8 hv hr hE3
 go_wp2_with fail
 go_ret
 exact⟨by rw[HN.out];rfl,HE2.out.trans (Ext.alloc _ _)⟩
end Go.Proofs.YtmiencglfhpmeaaGreatDoor
