/- Numbers that make expressions: the contracts of the reference's Mod, Draw.Next. -/
import Derived.Test.YtmiencglfhpmeaaGreatDoorKQXc
import Derived.Deep.QuietTactic
import Derived.BigQuiet
import Derived.IntWalk
import Derived.Test.YtmiencglfhpmeaaGreatDoorKQEt
import Derived.Test.YtmiencglfhpmeaaGreatDoorKQXo
import Derived.Test.YtmiencglfhpmeaaGreatDoorKQXg
import Derived.Test.YtmiencglfhpmeaaGreatDoorKQXa
import Derived.Defers
import Derived.Recover
open List renaming all_cons → zA, length_cons → zB, mem_cons_of_mem → zC
open Nat renaming le_add_right → zD, le_refl → zE, lt_of_lt_of_le → zF, zero_le → zG
open Option renaming bind_some → zH, some.inj → zI, some.injEq → zJ
open Array renaming getD_eq_getD_getElem? → zK, getElem?_eq_some_iff → zL, getElem?_modify → zM, replicate → zN
open Go.Lib renaming hid → zO
set_option linter.unusedSimpArgs false
set_option linter.unusedVariables false
namespace Go.Proofs.YtmiencglfhpmeaaGreatDoor
open Go.RowKit Hach
def rmod (n m:Int):Int:=n.tmod m%m
theorem rmod_bd (n:Int) {m:Int}(h:0<m):0≤rmod n m∧rmod n m<m:=⟨Int.emod_nonneg _ (by omega),Int.emod_lt_of_pos _ h⟩
theorem mod_any (n m:Int) (w:World) (h1:0<m) (hm:m<4294967296):Calls Tryz.prog 73 #[.int .i64 n,.int .i64 m] w fun e w'=>e=.returned (.int .i64 (rmod n m))∧w'=w:=by
 have HR:=zO (show rmod n m=n.tmod m%m from rfl)
 obtain⟨q,hq⟩ :∃q,n.tmod m=q:=⟨_,rfl⟩
 rw[hq]at HR
 have b1 : -m<q:=by have:=Int.lt_tmod_of_pos n h1;omega
 have b2:q<m:=by have:=Int.tmod_lt_of_pos n h1;omega
 have k3:(q+m).tmod m=(q+m)%m:=Int.tmod_eq_emod_of_nonneg (by omega)
 have e0:(m == 0)=false:=by rw[beq_eq_false_iff_ne];omega
 go_enter Tryz.func73,Tryz.ntmps73
 go_wp2_with fail
 go_ret
 exact⟨by rw[HR.out];rfl,rfl⟩
def DrA (w:World) (b:Nat):Prop :=∃(A:Option Addr) (n c t:Nat),w.heap[b]?=some (.cells #[.slice A n c,.int .i64 (t:Int)] 86 (0,0))∧n<9223372036854775808∧t≤n∧(0<n →∃g o,A=some ⟨g,o,none⟩∧g<b ∧∀j,j<n →∃x:Int,w.cell? ⟨g,o+j,none⟩=some (.int .i64 x))
theorem DrA.own {w w':World}{b:Nat}{r:Option Nat}(h:DrA w b) (hg:w.grownBy w' r) (hr :∀g,r=some g→b<g):DrA w' b:=by
 obtain⟨A,n,c,t,h1,h2,h3,h4⟩:=h
 have hb:=(zL.1 h1).1
 refine⟨A,n,c,t,(hg.block b hb fun e=>by have:=hr b e.symm;omega).trans h1,h2,h3,fun hn=>?_⟩
 obtain⟨g,o,e,k1,k3⟩:=h4 hn
 refine⟨g,o,e,k1,fun j hj=>?_⟩
 obtain⟨x,hx⟩:=k3 j hj
 exact⟨x,(grown_cell hg (by omega) (fun e=>by have:=hr g e;omega) _).trans hx⟩
theorem DrA.ext {w w':World}{b:Nat}(h:DrA w b) (hE:Ext w w'):DrA w' b:=h.own (grown_of hE none) (fun g e=>by cases e)
theorem DrA.lt {w:World}{b:Nat}(h:DrA w b):b<w.heap.size:=by
 obtain⟨A,n,c,t,h1,_⟩:=h
 exact(zL.1 h1).1
theorem ext_drewN (w:World) (k:Nat):Ext w (w.drewN k):=⟨rfl,rfl,rfl,zE _,fun _ _=>rfl⟩
abbrev dp (b:Nat):Value:=.pointer (some ⟨b,0,none⟩)
def NextR (m:Int) (b:Nat) (w:World) (e:Ending) (w':World):Prop :=∃k:Int,0≤k∧k<m∧e=.returned (.int .i64 k)∧DrA w' b∧w.grownBy w' (some b)
set_option maxHeartbeats 1000000 in
theorem draw_any (m:Int) (b:Nat) (w:World) (h:DrA w b) (h1:0<m) (hm:m<4294967296):Calls Tryz.prog 36 #[dp b,.int .i64 m] w (NextR m b w):=by
 have H0:=zO h
 obtain⟨A,n,c,t,hb,hn,ht,hA⟩:=h
 have c0:w.cell? ⟨b,0,none⟩=some (.slice A n c):=by simp[World.cell?,hb]
 have c1:w.cell? ⟨b,1,none⟩=some (.int .i64 (t:Int)):=by simp[World.cell?,hb]
 have f1:w.frozen? ⟨b,1,none⟩=false:=by simp[World.frozen?,hb]
 have HM:=zO (fun(x:Int) (W:World)=>mod_any x m W h1 hm)
 have HA:=zO hA
 have HB:=zO hb
 have HM1:=zO h1
 clear hb hA
 unfold dp
 by_cases htn:t<n
 ·obtain⟨g,o,e,k1,k3⟩:=HA.out (by omega)
  have hbs:=(zL.1 HB.out).1
  have k2:g<w.heap.size:=by omega
  obtain⟨x,hx⟩:=k3 t htn
  subst e
  have tt:decide (n≤t)=false:=by simp;omega
  have hx1:(w.setCell ⟨b,1,none⟩ (.int .i64 ((t:Int)+1))).cell? ⟨g,o+t,none⟩=some (.int .i64 x):=by rw[set_cell_other (by omega)];exact hx
  clear k3 h1 hm
  go_enter Tryz.func36,Tryz.ntmps36
  go_wp2_with fail
  go_quiet (fail)
  go_wp2_with fail
  have hE0:Ext w (w.drewN nq):=ext_drewN w nq
  have hG0:w.grownBy ((w.drewN nq).setCell ⟨b,1,none⟩ (.int .i64 ((t:Int)+1))) (some b):=grown_trans (grown_of hE0 _) (grown_set _ _ _ _)
  have hb1:((w.drewN nq).setCell ⟨b,1,none⟩ (.int .i64 ((t:Int)+1))).heap[b]?=some (.cells #[.slice (some ⟨g,o,none⟩) n c,.int .i64 ((t:Int)+1)] 86 (0,0)):=by
   have h':=HB.out
   simp[World.setCell,zM,h']
  have hg1 :∀j,((w.drewN nq).setCell ⟨b,1,none⟩ (.int .i64 ((t:Int)+1))).cell? ⟨g,o+j,none⟩=w.cell? ⟨g,o+j,none⟩:=fun j=>grown_cell hG0 k2 (by simp;omega) _
  have hx2:=(hg1 t).trans hx
  have hs1:=hG0.size
  have HG0:=zO hG0
  have HG1:=zO hg1
  have HS1:=zO hs1
  clear hx hx1 c0 c1 f1 hE0 hG0 hg1 hs1
  generalize (w.drewN nq).setCell ⟨b,1,none⟩ (.int .i64 ((t:Int)+1))=W1 at *
  have c0:W1.cell? ⟨b,0,none⟩=some (.slice (some ⟨g,o,none⟩) n c):=by simp[World.cell?,hb1]
  have c1:W1.cell? ⟨b,1,none⟩=some (.int .i64 ((t:Int)+1)):=by simp[World.cell?,hb1]
  have e1:IntKind.i64.wrap ((t:Int)+1-1)=(t:Int):=by rw[Int.add_sub_cancel];exact IntWalk.i64_in _ (by omega)
  have HB1:=zO hb1
  clear hb1
  go_quiet ((go_at_call 73;exact Calls.quiet_of_same (HM.out _ _)))
  go_wp2_with fail
  go_ret
  obtain⟨r1,r2⟩:=rmod_bd x HM1.out
  refine⟨rmod x m,r1,r2,rfl,?_,?_⟩
  ·have hD1:DrA W1 b:=⟨some ⟨g,o,none⟩,n,c,t+1,by rw[HB1.out];rfl,hn,by omega,fun _=>⟨g,o,rfl,k1,fun j hj=>by obtain⟨A',o',e',_,k⟩:=HA.out (by omega);simp only[zJ,Addr.mk.injEq,and_true]at e';obtain⟨rfl,rfl⟩:=e';obtain⟨x',hx'⟩:=k j hj;exact⟨x',(HG1.out j).trans hx'⟩⟩⟩
   exact hD1.ext (ext_drewN _ _)
  ·exact grown_trans HG0.out (grown_of (ext_drewN _ _) _)
 ·have tt:decide (n≤t)=true:=by simp;omega
  clear h1 hm
  go_enter Tryz.func36,Tryz.ntmps36
  go_wp2_with fail
  go_quiet (fail)
  go_wp2_with fail
  go_ret
  exact⟨0,Int.le_refl _,HM1.out,rfl,H0.out.ext (ext_drewN _ _),grown_of (ext_drewN _ _) _⟩
end Go.Proofs.YtmiencglfhpmeaaGreatDoor
namespace Go.Proofs.YtmiencglfhpmeaaGreatDoor
open Go.RowKit Hach
def Z7 (w:World) (blk:Nat):Prop:=w.heap[blk]?=some (.cells zero7 47 (0,0))
theorem Z7.lt {w:World}{blk:Nat}(h:Z7 w blk):blk<w.heap.size:=(zL.1 h).1
theorem Z7.own {w w':World}{blk:Nat}{r:Option Nat}(h:Z7 w blk) (hg:w.grownBy w' r) (hb:some blk≠r):Z7 w' blk:=(hg.block blk h.lt hb).trans h
theorem Z7.ext {w w':World}{blk:Nat}(h:Z7 w blk) (hE:Ext w w'):Z7 w' blk:=h.own (grown_of hE none) (by simp)
theorem Z7.new (w:World):Z7 (w.alloc (.cells zero7 47)) w.heap.size:=Go.heap_alloc_new _ _
theorem Z7.cells {w:World}{blk:Nat}(h:Z7 w blk):w.cell? ⟨blk,0,none⟩=some (.int .i64 0)∧w.cell? ⟨blk,1,none⟩=some (.int .i64 0)∧w.cell? ⟨blk,2,none⟩=some (.int .i64 0)∧w.cell? ⟨blk,3,none⟩=some (.int .i64 0)∧w.cell? ⟨blk,4,none⟩=some (.bool false)∧w.cell? ⟨blk,5,none⟩=some (.string ⟨#[]⟩)∧w.cell? ⟨blk,6,none⟩=some (.slice none 0 0):=by
 have h':w.heap[blk]?=_:=h
 refine⟨?_,?_,?_,?_,?_,?_,?_⟩<;>simp[World.cell?,h',zero7]
theorem Z7.free {w:World}{blk:Nat}(h:Z7 w blk):w.frozen? ⟨blk,0,none⟩=false∧w.frozen? ⟨blk,1,none⟩=false∧w.frozen? ⟨blk,2,none⟩=false∧w.frozen? ⟨blk,3,none⟩=false∧w.frozen? ⟨blk,4,none⟩=false∧w.frozen? ⟨blk,5,none⟩=false∧w.frozen? ⟨blk,6,none⟩=false:=by
 have h':w.heap[blk]?=_:=h
 refine⟨?_,?_,?_,?_,?_,?_,?_⟩<;>simp[World.frozen?,h']
theorem fin7 {fn:Func}{t:Tmp}(hr:fn.results=#[.cell t 47]) {blk:Nat}{wr:World}{Q:Ending→World→Prop}(x:Ex) (hz:Z7 wr blk) (A:Option Addr) (n c:Nat) (hn:n=x.l.length) {tmps:Array Value}(ht:tmps.getD t undef=.pointer (some ⟨blk,0,none⟩))
  (hQ:Q (.returned (.agg (x.cells A c).toArray)) (set7 wr blk x (.slice A n c))):bodyPost Tryz.prog fn Q Exit.ret ⟨tmps,[]⟩ (set7 wr blk x (.slice A n c)):=by
 subst hn
 exact bodyPost_ret (results_blk hr (set7_in hz x _) tmps ht) rfl hQ
theorem grown_fresh {w wr wf:World}{b blk:Nat}(hg:w.grownBy wr (some b)) (hblk:w.heap.size≤blk) (h:wr.grownBy wf (some blk)):w.grownBy wf (some b):=
 ⟨h.os.trans hg.os,h.tape.trans hg.tape,h.output.trans hg.output,Nat.le_trans hg.size h.size,fun k hk hne=>(h.block k (zF hk hg.size) (by simp;omega)).trans (hg.block k hk hne)⟩
end Go.Proofs.YtmiencglfhpmeaaGreatDoor
namespace Go.Proofs.YtmiencglfhpmeaaGreatDoor
open Go.RowKit Hach
def MadeR (t:Int) (N:Nat) (b:Nat) (w:World) (e:Ending) (w':World):Prop :=∃(x:Ex) (A:Option Addr) (c d:Nat),Rt x t∧x.size≤N∧e=.returned (.agg (x.cells A c).toArray)∧ExL w' (fun k=>w.heap.size≤k∧k<w'.heap.size) d A x.l∧DrA w' b∧w.grownBy w' (some b)
theorem exl_own {w w':World}{lo d b:Nat}{A:Option Addr}{l:List Ex}(h:ExL w (fun k=>lo≤k∧k<w.heap.size) d A l) (hg:w.grownBy w' (some b)) (hb:b<lo):ExL w' (fun k=>lo≤k∧k<w'.heap.size) d A l:=
 (h.keep fun k hk o=>grown_cell hg hk.2 (by simp;omega) o).more fun k hk=>⟨hk.1,zF hk.2 hg.size⟩
theorem exl_lo {w:World}{lo lo' d:Nat}{A:Option Addr}{l:List Ex}(h:ExL w (fun k=>lo≤k∧k<w.heap.size) d A l) (hl:lo'≤lo):ExL w (fun k=>lo'≤k∧k<w.heap.size) d A l:=h.more fun k hk=>⟨by omega,hk.2⟩
theorem made_fin {fn:Func}{s:Tmp}(hr:fn.results=#[.cell s 47]) {b:Nat}{w wr:World}{t:Int}{N:Nat}(op:Int) (us:List Nd) (d:Nat) (hx:Rt (.mk op 0 0 0 false [] (us.map (·.x))) t) (hsz:(Ex.mk op 0 0 0 false [] (us.map (·.x))).size≤N)
  (hz:Z7 wr w.heap.size) (hb:b<w.heap.size) (hD:DrA wr b) (hg:w.grownBy wr (some b)) (hk:Kids wr (fun k=>w.heap.size+1≤k∧k<wr.heap.size) d us) (g:Nat) (hgk:w.heap.size+1≤g∧g<wr.heap.size)
  (hc :∀(i:Nat) (v:Value),(us.map Nd.cells).flatten[i]?=some v→wr.cell? ⟨g,i,none⟩=some v) (n:Nat) (hn:n=us.length) {tmps:Array Value}(ht:tmps.getD s undef=.pointer (some ⟨w.heap.size,0,none⟩)) :
  bodyPost Tryz.prog fn (MadeR t N b w) Exit.ret ⟨tmps,[]⟩ (set7 wr w.heap.size (.mk op 0 0 0 false [] (us.map (·.x))) (.slice (some ⟨g,0,none⟩) n n)):=by
 have hG:=set7_grown wr w.heap.size (.mk op 0 0 0 false [] (us.map (·.x))) (.slice (some ⟨g,0,none⟩) n n)
 refine fin7 hr _ hz (some ⟨g,0,none⟩) n n (by rw[hn];simp[Ex.l]) ht ⟨_,some ⟨g,0,none⟩,n,d+1,hx,hsz,rfl,?_,?_,grown_fresh hg (zE _) hG⟩
 ·have h1:ExL wr (fun k=>w.heap.size+1≤k∧k<wr.heap.size) (d+1) (some ⟨g,0,none⟩) (us.map (·.x)):=ExL.row hgk hk hc
  exact(h1.keep fun k hk o=>grown_cell hG hk.2 (by have:=hk.1;simp;omega) o).more fun k hk=>⟨by omega,zF hk.2 hG.size⟩
 ·exact hD.own hG fun g e=>by simp only[zJ]at e;omega
theorem size_1' (o:Int) (a:Ex):(Ex.mk o 0 0 0 false [] [a]).size=1+a.size:=by rw[Ex.size];simp[Ex.sizes]
theorem size_2' (o:Int) (a b:Ex):(Ex.mk o 0 0 0 false [] [a,b]).size=1+(a.size+b.size):=by rw[Ex.size];simp[Ex.sizes]
theorem size_3' (o:Int) (a b c:Ex):(Ex.mk o 0 0 0 false [] [a,b,c]).size=1+(a.size+(b.size+c.size)):=by rw[Ex.size];simp[Ex.sizes]
theorem made_leaf_fin {fn:Func}{s:Tmp}(hr:fn.results=#[.cell s 47]) {b:Nat}{w wr:World}{t:Int}{N:Nat}(x:Ex) (hx:Rt x t) (hl:x.l=[]) (hz:Z7 wr w.heap.size) (hb:b<w.heap.size) (hD:DrA wr b) (hg:w.grownBy wr (some b)) (hN:1≤N)
  {tmps:Array Value}(ht:tmps.getD s undef=.pointer (some ⟨w.heap.size,0,none⟩)):bodyPost Tryz.prog fn (MadeR t N b w) Exit.ret ⟨tmps,[]⟩ (set7 wr w.heap.size x (.slice none 0 0)):=by
 have hG:=set7_grown wr w.heap.size x (.slice none 0 0)
 refine fin7 hr x hz none 0 0 (by rw[hl];rfl) ht ⟨x,none,0,0,hx,by rw[x.size_eq,hl];simpa[Ex.sizes]using hN,rfl,by rw[hl];exact ExL.nil _ _ _ _,?_,grown_fresh hg (zE _) hG⟩
 exact hD.own hG fun g e=>by simp only[zJ]at e;omega
end Go.Proofs.YtmiencglfhpmeaaGreatDoor
namespace Go.Proofs.YtmiencglfhpmeaaGreatDoor
open Go.RowKit Hach
def LI (w:World) (A:Option Addr) (n:Nat):Prop:=n<9223372036854775808∧(0<n →∃g o,A=some ⟨g,o,none⟩∧g<w.heap.size ∧∀j,j<n →∃x:Int,w.cell? ⟨g,o+j,none⟩=some (.int .i64 x))
theorem LI.ext {w w':World}{A:Option Addr}{n:Nat}(h:LI w A n) (hE:Ext w w'):LI w' A n:=by
 refine⟨h.1,fun hn=>?_⟩
 obtain⟨g,o,e,h1,h2⟩:=h.2 hn
 refine⟨g,o,e,zF h1 hE.sz,fun j hj=>?_⟩
 obtain⟨x,hx⟩:=h2 j hj
 exact⟨x,(hE.old (p:=⟨g,o+j,none⟩) h1).trans hx⟩
theorem DrA.new {w:World}{A:Option Addr}{n:Nat}(c:Nat) (h:LI w A n):DrA (w.alloc (.cells #[.slice A n c,.int .i64 0] 86)) w.heap.size:=by
 refine⟨A,n,c,0,Go.heap_alloc_new _ _,h.1,zG _,fun hn=>?_⟩
 obtain⟨g,o,e,h1,h2⟩:=h.2 hn
 refine⟨g,o,e,h1,fun j hj=>?_⟩
 obtain⟨x,hx⟩:=h2 j hj
 exact⟨x,((Ext.alloc w _).old (p:=⟨g,o+j,none⟩) h1).trans hx⟩
theorem ext_fresh {w w1 w2:World}{b:Nat}(hE:Ext w w1) (hg:w1.grownBy w2 (some b)) (hb:w.heap.size≤b):Ext w w2:=
 Below.trans hE (below_row' hg hE.sz (fun g e=>by simp only[zJ]at e;omega))
end Go.Proofs.YtmiencglfhpmeaaGreatDoor
namespace Go.Proofs.YtmiencglfhpmeaaGreatDoor
open Go.RowKit Hach
def Ev_row (x:En):Array Value:=#[.int .i64 x.kind,.string ⟨x.cls.toArray⟩,.string ⟨x.name.toArray⟩,.int .i64 x.weight,.int .i64 x.level,.bool x.stairs,.int .i64 x.scale,.int .i64 x.hour,.int .i64 x.reader]
def Ev_zero:Array Value:=#[.int .i64 0,.string ⟨#[]⟩,.string ⟨#[]⟩,.int .i64 0,.int .i64 0,.bool false,.int .i64 0,.int .i64 0,.int .i64 0]
def EvB (w:World) (b:Nat) (x:En):Prop:=w.heap[b]?=some (.cells (Ev_row x) 28 (0,0))
def EvZ (w:World) (b:Nat):Prop:=w.heap[b]?=some (.cells Ev_zero 28 (0,0))
theorem EvB.lt {w:World}{b:Nat}{x:En}(h:EvB w b x):b<w.heap.size:=(zL.1 h).1
theorem EvB.ext {w w':World}{b:Nat}{x:En}(h:EvB w b x) (hE:Ext w w'):EvB w' b x:=(hE.below.block b h.lt).trans h
theorem EvB.own {w w':World}{b:Nat}{x:En}{r:Option Nat}(h:EvB w b x) (hg:w.grownBy w' r) (hb:some b≠r):EvB w' b x:=(hg.block b h.lt hb).trans h
theorem EvB.new (w:World) (x:En):EvB (w.alloc (.cells (Ev_row x) 28)) w.heap.size x:=Go.heap_alloc_new _ _
theorem EvB.cells {w:World}{b:Nat}{x:En}(h:EvB w b x):w.cell? ⟨b,0,none⟩=some (.int .i64 x.kind)∧w.cell? ⟨b,1,none⟩=some (.string ⟨x.cls.toArray⟩)∧w.cell? ⟨b,2,none⟩=some (.string ⟨x.name.toArray⟩)∧w.cell? ⟨b,3,none⟩=some (.int .i64 x.weight)∧w.cell? ⟨b,4,none⟩=some (.int .i64 x.level)∧w.cell? ⟨b,5,none⟩=some (.bool x.stairs)∧w.cell? ⟨b,6,none⟩=some (.int .i64 x.scale)∧w.cell? ⟨b,7,none⟩=some (.int .i64 x.hour)∧w.cell? ⟨b,8,none⟩=some (.int .i64 x.reader):=by
 have h':w.heap[b]?=_:=h
 refine⟨?_,?_,?_,?_,?_,?_,?_,?_,?_⟩<;>simp[World.cell?,h',Ev_row]
theorem EvB.free {w:World}{b:Nat}{x:En}(h:EvB w b x):w.frozen? ⟨b,0,none⟩=false∧w.frozen? ⟨b,1,none⟩=false∧w.frozen? ⟨b,2,none⟩=false∧w.frozen? ⟨b,3,none⟩=false∧w.frozen? ⟨b,4,none⟩=false∧w.frozen? ⟨b,5,none⟩=false∧w.frozen? ⟨b,6,none⟩=false∧w.frozen? ⟨b,7,none⟩=false∧w.frozen? ⟨b,8,none⟩=false:=by
 have h':w.heap[b]?=_:=h
 refine⟨?_,?_,?_,?_,?_,?_,?_,?_,?_⟩<;>simp[World.frozen?,h']
theorem EvZ.lt {w:World}{b:Nat}(h:EvZ w b):b<w.heap.size:=(zL.1 h).1
theorem EvZ.ext {w w':World}{b:Nat}(h:EvZ w b) (hE:Ext w w'):EvZ w' b:=(hE.below.block b h.lt).trans h
theorem EvZ.own {w w':World}{b:Nat}{r:Option Nat}(h:EvZ w b) (hg:w.grownBy w' r) (hb:some b≠r):EvZ w' b:=(hg.block b h.lt hb).trans h
theorem EvZ.new (w:World):EvZ (w.alloc (.cells Ev_zero 28)) w.heap.size:=Go.heap_alloc_new _ _
theorem EvZ.cells {w:World}{b:Nat}(h:EvZ w b):w.cell? ⟨b,0,none⟩=some (.int .i64 0)∧w.cell? ⟨b,1,none⟩=some (.string ⟨#[]⟩)∧w.cell? ⟨b,2,none⟩=some (.string ⟨#[]⟩)∧w.cell? ⟨b,3,none⟩=some (.int .i64 0)∧w.cell? ⟨b,4,none⟩=some (.int .i64 0)∧w.cell? ⟨b,5,none⟩=some (.bool false)∧w.cell? ⟨b,6,none⟩=some (.int .i64 0)∧w.cell? ⟨b,7,none⟩=some (.int .i64 0)∧w.cell? ⟨b,8,none⟩=some (.int .i64 0):=by
 have h':w.heap[b]?=_:=h
 refine⟨?_,?_,?_,?_,?_,?_,?_,?_,?_⟩<;>simp[World.cell?,h',Ev_zero]
theorem EvZ.free {w:World}{b:Nat}(h:EvZ w b):w.frozen? ⟨b,0,none⟩=false∧w.frozen? ⟨b,1,none⟩=false∧w.frozen? ⟨b,2,none⟩=false∧w.frozen? ⟨b,3,none⟩=false∧w.frozen? ⟨b,4,none⟩=false∧w.frozen? ⟨b,5,none⟩=false∧w.frozen? ⟨b,6,none⟩=false∧w.frozen? ⟨b,7,none⟩=false∧w.frozen? ⟨b,8,none⟩=false:=by
 have h':w.heap[b]?=_:=h
 refine⟨?_,?_,?_,?_,?_,?_,?_,?_,?_⟩<;>simp[World.frozen?,h']
def setEv (w:World) (b:Nat) (x:En):World:=((((((((w.setCell ⟨b,0,none⟩ (.int .i64 x.kind)).setCell ⟨b,1,none⟩ (.string ⟨x.cls.toArray⟩)).setCell ⟨b,2,none⟩ (.string ⟨x.name.toArray⟩)).setCell ⟨b,3,none⟩ (.int .i64 x.weight)).setCell ⟨b,4,none⟩ (.int .i64 x.level)).setCell ⟨b,5,none⟩ (.bool x.stairs)).setCell ⟨b,6,none⟩ (.int .i64 x.scale)).setCell ⟨b,7,none⟩ (.int .i64 x.hour)).setCell ⟨b,8,none⟩ (.int .i64 x.reader)
theorem setEv_z {w:World}{b:Nat}(h:EvZ w b) (x:En):EvB (setEv w b x) b x:=by
 have h':w.heap[b]?=some (.cells Ev_zero 28 (0,0)):=h
 simp[EvB,setEv,World.setCell,zM,h',Ev_row,Ev_zero]
theorem setEv_grown (w:World) (b:Nat) (x:En):w.grownBy (setEv w b x) (some b):=grown_trans (grown_trans (grown_trans (grown_trans (grown_trans (grown_trans (grown_trans (grown_trans (grown_set _ _ _ _) (grown_set _ _ _ _)) (grown_set _ _ _ _)) (grown_set _ _ _ _)) (grown_set _ _ _ _)) (grown_set _ _ _ _)) (grown_set _ _ _ _)) (grown_set _ _ _ _)) (grown_set _ _ _ _)
theorem resEv {fn:Func}{t:Tmp}(hr:fn.results=#[.cell t 28]) {w:World}{b:Nat}{x:En}(h:EvB w b x) (tmps:Array Value) (ht:tmps.getD t undef=.pointer (some ⟨b,0,none⟩)) :
  (results fn tmps).run Tryz.prog w=.ok (.agg (Ev_row x)) w:=by
 obtain⟨p0,p1,p2,p3,p4,p5,p6,p7,p8⟩:=h.cells
 clear h
 rw[zK]at ht
 simp only[results,hr]
 unfold Ev_row
 go_simp
theorem finEvZ {fn:Func}{t:Tmp}(hr:fn.results=#[.cell t 28]) {blk:Nat}{wr:World}{Q:Ending→World→Prop}(x:En) (hz:EvZ wr blk) {tmps:Array Value}(ht:tmps.getD t undef=.pointer (some ⟨blk,0,none⟩))
  (hQ:Q (.returned (.agg (Ev_row x))) (setEv wr blk x)):bodyPost Tryz.prog fn Q Exit.ret ⟨tmps,[]⟩ (setEv wr blk x):=
 bodyPost_ret (resEv hr (setEv_z hz x) tmps ht) rfl hQ
def En.raw (x:En):Prop:=InI x.kind∧x.cls.length<9223372036854775808∧x.name.length<9223372036854775808∧InI x.weight∧InI x.level∧InI x.scale∧InI x.hour∧InI x.reader
def En.cut (x:En) (k:Nat):En:={ x with cls:=x.cls.take k,name:=x.name.take k }
theorem EvB.set1 {w:World}{b:Nat}{x:En}(h:EvB w b x) (s:List UInt8):EvB (w.setCell ⟨b,1,none⟩ (.string ⟨s.toArray⟩)) b { x with cls:=s }:=by
 have h':w.heap[b]?=some (.cells (Ev_row x) 28 (0,0)):=h
 simp[EvB,World.setCell,zM,h',Ev_row]
theorem EvB.set2 {w:World}{b:Nat}{x:En}(h:EvB w b x) (s:List UInt8):EvB (w.setCell ⟨b,2,none⟩ (.string ⟨s.toArray⟩)) b { x with name:=s }:=by
 have h':w.heap[b]?=some (.cells (Ev_row x) 28 (0,0)):=h
 simp[EvB,World.setCell,zM,h',Ev_row]
end Go.Proofs.YtmiencglfhpmeaaGreatDoor
namespace Go.Proofs.YtmiencglfhpmeaaGreatDoor
open Go.RowKit Hach
theorem both_any :∀n,WholeC n∧PieceC n
 | 0=>⟨fun b ts bad w _ _ _ h=>absurd h (by omega),fun b ts bad w _ _ _ h=>absurd h (by omega)⟩
 | n+1=>⟨whole_step n (both_any n).2,piece_step n (both_any n).1⟩
theorem as_wrong (w:World):(Instr.typeAssert (.iface 175 (.agg #[])) 20 175 true).run Tryz.prog w=.ok (.tuple #[.agg #[],.bool true]) w:=by kernel_rfl
theorem as_nil_wrong (w:World):(Instr.typeAssert .nilIface 20 175 true).run Tryz.prog w=.ok (.tuple #[.agg #[],.bool false]) w:=by kernel_rfl
set_option maxRecDepth 100000 in
set_option maxHeartbeats 2000000 in
theorem catch_idle (be bk:Nat) (w:World) :
  CallsD Tryz.prog 137 #[.pointer (some ⟨be,0,none⟩),.pointer (some ⟨bk,0,none⟩)] .returning w fun e u' w'=>e=.returned (.tuple #[])∧u'=.returning∧Ext w w':=by
 have h1:=as_nil_wrong
 refine callsD_of_wpS Tryz.func137 rfl fun c₀ cs hu=>?_
 apply wpS_seq
 apply wpS_region
 simp[wpOpsS,go_sem,recoverD,hu,Tryz.ntmps137,Exit.thenS,h1]
 apply wpS_seq
 apply wpS_region
 simp[wpOpsS,go_sem,recoverD,hu,Exit.thenS]
 refine wpS_cond (t:=false) (by simp[Act.eval,zN]) ?_
 simp only[Bool.false_eq_true,if_false]
 refine wpS_of_wp (wp_skip ?_)
 cases c₀
 simp_all [bodyPostS,results,Tryz.results137]
 exact Ext.alloc _ _
set_option maxRecDepth 100000 in
set_option maxHeartbeats 2000000 in
theorem catch_panic (be bk:Nat) (w:World) (x:Ex) (v:Value) (hin:InBlk w be x v) (ok:Bool) (hk:VarAt 4 w bk (.bool ok)) (hne:be≠bk) :
  CallsD Tryz.prog 137 #[.pointer (some ⟨be,0,none⟩),.pointer (some ⟨bk,0,none⟩)] (.panicking wrong) w fun e u' w'=>e=.returned (.tuple #[])∧u'=.panicking [{ v:=.iface 175 (.agg #[]),recovered:=true }]∧w'=(set7 (w.alloc (.cells #[] 175)) be zeroE (.slice none 0 0)).setCell ⟨bk,0,none⟩ (.bool false):=by
 have h1:=as_wrong
 have hE:Ext w (w.alloc (.cells #[] 175)):=Ext.alloc _ _
 obtain⟨c0,c1,c2,c3,c4,c5,c6⟩:=(hin.ext hE).cells
 obtain⟨f0,f1,f2,f3,f4,f5,f6⟩:=(hin.ext hE).free7
 obtain⟨k0,k1⟩:=(hk.ext hE).cell
 unfold wrong
 refine callsD_of_wpS Tryz.func137 rfl fun c₀ cs hu=>?_
 apply wpS_seq
 apply wpS_region
 simp[wpOpsS,go_sem,recoverD,hu,Tryz.ntmps137,Exit.thenS,h1]
 apply wpS_seq
 apply wpS_region
 simp[wpOpsS,go_sem,recoverD,hu,Exit.thenS]
 refine wpS_cond (t:=true) (by simp[Act.eval,zN]) ?_
 simp only[if_true]
 apply wpS_region
 simp[wpOpsS,go_sem,bodyPostS,results,Tryz.results137,c0,c1,c2,c3,c4,c5,c6,f0,f1,f2,f3,f4,f5,f6,k0,k1,hne]
 rfl
theorem ext_of_grown {w w3 w':World}{b:Nat}(hE:Ext w w3) (hg:w3.grownBy w' (some b)) (hb:w.heap.size≤b):Ext w w':=
 Below.trans hE (below_row' hg hE.sz (fun g e=>by simp only[zJ]at e;omega))
theorem InBlk.set7 {w:World}{b:Nat}{y:Ex}{u:Value}(h:InBlk w b y u) (x:Ex) (v:Value):InBlk (Go.Proofs.YtmiencglfhpmeaaGreatDoor.set7 w b x v) b x v:=by
 have h':w.heap[b]?=_:=h
 simp[InBlk,Go.Proofs.YtmiencglfhpmeaaGreatDoor.set7,World.setCell,zM,h',cell7]
def ReadQ (s:List UInt8) (w:World) (e:Ending) (w':World):Prop:=Ext w w'∧match readT s with
 | some x =>∃A c d,e=.returned (.tuple #[.agg (x.cells A c).toArray,.bool true])∧ExL w' (fun k=>w.heap.size≤k∧k<w'.heap.size) d A x.l
 | none=>e=.returned (.tuple #[.agg zero7,.bool false])
theorem ReadQ.no {s:List UInt8}{w w':World}{e:Ending}(h:readT s=none) (hE:Ext w w') (he:e=.returned (.tuple #[.agg zero7,.bool false])):ReadQ s w e w':=by
 refine⟨hE,?_⟩;rw[h];exact he
theorem ReadQ.ok {s:List UInt8}{w w':World}{e:Ending}{x:Ex}(h:readT s=some x) (hE:Ext w w') (A:Option Addr) (c d:Nat) (he:e=.returned (.tuple #[.agg (x.cells A c).toArray,.bool true])) (hX:ExL w' (fun k=>w.heap.size≤k∧k<w'.heap.size) d A x.l):ReadQ s w e w':=by
 refine⟨hE,?_⟩;rw[h];exact⟨A,c,d,he,hX⟩
theorem settle_panic {s:List UInt8}{w w':World}{be bk:Nat}{x:Ex}{v:Value}{ok:Bool}{tmps:Array Value}(hn:readT s=none) (hbe:w.heap.size≤be) (hbk:w.heap.size≤bk) (hne:be≠bk) (hE:Ext w w') (hin:InBlk w' be x v) (hk:VarAt 4 w' bk (.bool ok)) (h2:tmps.getD 2 undef=.pointer (some ⟨be,0,none⟩)) (h3:tmps.getD 3 undef=.pointer (some ⟨bk,0,none⟩)) :
  bodyPostD Tryz.prog Tryz.f112 (ReadQ s w) (Exit.panic wrong) { tmps:=tmps,defers:=[{ target:=Target.fn (.func 137) #[.pointer (some ⟨be,0,none⟩),.pointer (some ⟨bk,0,none⟩)],args:=#[] }] } w':=by
 refine leaves_cons (f:=137) (args:=#[.pointer (some ⟨be,0,none⟩),.pointer (some ⟨bk,0,none⟩)]) (by simp) (by simp[go_sem]) ?_
 refine(catch_panic be bk w' x v hin ok hk hne).mono ?_
 rintro e u' w'' ⟨rfl,rfl,rfl⟩
 have hE1:Ext w' (w'.alloc (.cells #[] 175)):=Ext.alloc _ _
 have hs:=set7_grown (w'.alloc (.cells #[] 175)) be zeroE (.slice none 0 0)
 have hz:=set7_size (w'.alloc (.cells #[] 175)) be zeroE (.slice none 0 0)
 have hi:=(hin.ext hE1).set7 zeroE (.slice none 0 0)
 have hk2:=((hk.ext hE1).own hs (by simp;omega)).set (.bool false)
 have hg:=grown_set (set7 (w'.alloc (.cells #[] 175)) be zeroE (.slice none 0 0)) bk 0 (.bool false)
 have hi2:=hi.own hg (by simp;omega)
 have hEf:Ext w ((set7 (w'.alloc (.cells #[] 175)) be zeroE (.slice none 0 0)).setCell ⟨bk,0,none⟩ (.bool false)):=ext_of_grown (ext_of_grown (hE.trans hE1) hs hbe) hg hbk
 obtain⟨c0,c1,c2,c3,c4,c5,c6⟩:=hi2.cells
 obtain⟨k0,_⟩:=hk2.cell
 generalize (set7 (w'.alloc (.cells #[] 175)) be zeroE (.slice none 0 0)).setCell ⟨bk,0,none⟩ (.bool false)=wf at *
 have hr:(results Tryz.f112 tmps).run Tryz.prog wf=.ok (.tuple #[.agg zero7,.bool false]) wf:=by
  rw[zK]at h2 h3
  simp only[results,Tryz.results112]
  go_simp
  rfl
 simp[Leaves,settle,hr]
 exact ReadQ.no hn hEf rfl
def readR (bad:Bool) (res:Option (Ex×List Tok)):Option Ex:=if bad=true then none else match res with
 | some (e,[])=>some e
 | _=>none
theorem readT_eq {s:List UInt8}{ts:List Tok}{bad:Bool}{res:Option (Ex×List Tok)}(h1:lt s=(ts,bad)) (h2:wholeF (2*ts.length+2) bad ts=res):readT s=readR bad res:=by
 unfold readT readR
 rw[h1,←h2]
 cases bad<;>rfl
set_option maxRecDepth 100000 in
set_option maxHeartbeats 4000000 in
theorem read_any (s:List UInt8) (hs:s.length≤4096) (w:World) (htab:Tabs w):Calls Tryz.prog 112 #[.string ⟨s.toArray⟩] w (ReadQ s w):=by
 obtain⟨⟨ts,bad⟩,hlt⟩ :∃p,lt s=p:=⟨_,rfl⟩
 obtain⟨w3,hw3⟩ :∃w3,((w.alloc (.cells zero7 47)).alloc (.cells #[.bool false] 4)).alloc (.cells #[.string ⟨s.toArray⟩] 179)=w3:=⟨_,rfl⟩
 have hsz:w3.heap.size=w.heap.size+3:=by rw[←hw3];simp
 have hE3:Ext w w3:=by rw[←hw3];exact((Ext.alloc _ _).trans (Ext.alloc _ _)).trans (Ext.alloc _ _)
 have hin3:InBlk w3 w.heap.size zeroE (.slice none 0 0):=by
  rw[←hw3]
  exact((show InBlk (w.alloc (.cells zero7 47)) w.heap.size zeroE (.slice none 0 0) from Zero7.new w).ext (Ext.alloc _ _)).ext (Ext.alloc _ _)
 have hk3:VarAt 4 w3 (w.heap.size+1) (.bool false):=by
  rw[←hw3]
  have h1:=VarAt.new 4 (w.alloc (.cells zero7 47)) (.bool false)
  rw[World.size_alloc]at h1
  exact h1.ext (Ext.alloc _ _)
 have hr3:RS w3 (w.heap.size+2) ts bad:=by
  refine⟨s,?_,hlt,hs⟩
  rw[←hw3]
  have h1:=VarAt.new 179 ((w.alloc (.cells zero7 47)).alloc (.cells #[.bool false] 4)) (.string ⟨s.toArray⟩)
  rw[World.size_alloc,World.size_alloc]at h1
  exact h1
 have hb4:4≤w.heap.size+2:=by have:=htab.sz;omega
 obtain⟨res,hres⟩ :∃res,wholeF (2*ts.length+2) bad ts=res:=⟨_,rfl⟩
 have HWH:=(both_any (2*ts.length+2)).1 (w.heap.size+2) ts bad w3 hr3 (htab.ext hE3) hb4 (zE _)
 rw[hres]at HWH
 have HC:=zO HWH
 have HW:=zO hw3
 have HSZ:=zO hsz
 have HRT:Hid (readT s=readR bad res):=zO (readT_eq hlt hres)
 unfold zero7 at HW
 unfold rp at HC
 clear hw3 hsz HWH hres hlt hr3 htab hs
 go_enter_defers Tryz.func112,Tryz.ntmps112
 go_upto_region 3 with fail
 rw[HW.out]
 go_wp2_with fail
 refine HC.out.mono ?_
 rintro e w4 ⟨hg4,hp⟩
 have hE4:=ext_of_grown hE3 hg4 (by omega)
 have hin4:=hin3.own hg4 (by simp)
 have hk4:=hk3.own hg4 (by simp)
 cases res with
 | none=>
  obtain rfl:=hp
  show bodyPostD Tryz.prog Tryz.f112 (ReadQ s w) (Exit.panic wrong) _ _
  refine settle_panic (by rw[HRT.out];cases bad<;>rfl) (zE _) (zD _ 1) (by omega) hE4 hin4 hk4 ?_ ?_<;>rfl
 | some p=>
  obtain⟨x,r⟩:=p
  obtain⟨⟨A,c,d,rfl,hX⟩,hr4⟩:=hp
  obtain⟨c0,c1,c2,c3,c4,c5,c6⟩:=hin4.cells
  obtain⟨f0,f1,f2,f3,f4,f5,f6⟩:=hin4.free7
  have hG:=set7_grown w4 w.heap.size x (.slice A x.l.length c)
  have hS:=set7_size w4 w.heap.size x (.slice A x.l.length c)
  have hin5:=hin4.set7 x (.slice A x.l.length c)
  have hk5:=hk4.own hG (by simp)
  have hr5:=hr4.own hG (by simp)
  have hE5:=ext_of_grown hE4 hG (zE _)
  have hs4:=hg4.size
  have hX5:ExL (set7 w4 w.heap.size x (.slice A x.l.length c)) (fun k=>w.heap.size+3≤k∧k<(set7 w4 w.heap.size x (.slice A x.l.length c)).heap.size) d A x.l:=(hX.keep fun k hk o=>grown_cell hG hk.2 (by have h1:=HSZ.out;have h2:=hk.1;simp;omega) o).more fun k hk=>⟨by have h1:=HSZ.out;have h2:=hk.1;omega,by rw[hS];exact hk.2⟩
  obtain⟨w5,hw5⟩ :∃w5,set7 w4 w.heap.size x (.slice A x.l.length c)=w5:=⟨_,rfl⟩
  rw[hw5]at hin5 hk5 hr5 hE5 hX5
  have HW5:=zO hw5
  have hb5:w.heap.size+2<w5.heap.size:=hr5.lt
  clear hw5 hX hr4 hS hG hk4 hin4
  unfold Ex.cells
  simp only[zeroE,Ex.op,Ex.var,Ex.ty,Ex.n,Ex.b,Ex.s]at c0 c1 c2 c3 c4 c5
  go_upto_region 4 with fail
  rw[show((((((w4.setCell ⟨w.heap.size,0,none⟩ (.int .i64 x.op)).setCell ⟨w.heap.size,1,none⟩ (.int .i64 x.var)).setCell ⟨w.heap.size,2,none⟩ (.int .i64 x.ty)).setCell ⟨w.heap.size,3,none⟩ (.int .i64 x.n)).setCell ⟨w.heap.size,4,none⟩ (.bool x.b)).setCell ⟨w.heap.size,5,none⟩ (.string ⟨x.s.toArray⟩)).setCell ⟨w.heap.size,6,none⟩ (.slice A x.l.length c)=w5 from HW5.out]
  clear c0 c1 c2 c3 c4 c5 c6 f0 f1 f2 f3 f4 f5 f6
  have hend :∀w6,w5.grownBy w6 (some (w.heap.size+2))→Ext w w6∧InBlk w6 w.heap.size x (.slice A x.l.length c)∧VarAt 4 w6 (w.heap.size+1) (.bool false):=fun w6 hg6=>⟨ext_of_grown hE5 hg6 (by omega),hin5.own hg6 (by simp),hk5.own hg6 (by simp)⟩
  have HEND:=zO hend
  clear hend
  go_wp2_with fail
  cases r with
  | nil=>
   cases bad with
   | true=>
    refine(take_bad hr5 []).mono ?_
    rintro e w6 ⟨rfl,hg6⟩
    obtain⟨h1,h2,h3⟩:=HEND.out w6 hg6
    show bodyPostD Tryz.prog Tryz.f112 (ReadQ s w) (Exit.panic wrong) _ _
    refine settle_panic (by rw[HRT.out];rfl) (zE _) (zD _ 1) (by omega) h1 h2 h3 ?_ ?_<;>rfl
   | false=>
    refine(take_end hr5 []).mono ?_
    rintro e w6 ⟨hp6,hg6⟩
    obtain rfl:=hp6.1 rfl
    obtain⟨h1,h2,h3⟩:=HEND.out w6 hg6
    have hs6:=hg6.size
    have hX6:ExL w6 (fun k=>w.heap.size+3≤k∧k<w6.heap.size) d A x.l:=(hX5.keep fun k hk o=>grown_cell hg6 hk.2 (by have:=hk.1;simp;omega) o).more fun k hk=>⟨hk.1,by omega⟩
    obtain⟨c0,c1,c2,c3,c4,c5,c6⟩:=h2.cells
    obtain⟨f0,f1,f2,f3,f4,f5,f6⟩:=h2.free7
    obtain⟨k0,k1⟩:=h3.cell
    go_wp2_with fail
    have hG7:=set7_grown w6 w.heap.size x (.slice A x.l.length c)
    have hS7:=set7_size w6 w.heap.size x (.slice A x.l.length c)
    have hin7:=h2.set7 x (.slice A x.l.length c)
    have hk7:=(h3.own hG7 (by simp)).set (.bool true)
    have hg8:=grown_set (set7 w6 w.heap.size x (.slice A x.l.length c)) (w.heap.size+1) 0 (.bool true)
    have hin8:=hin7.own hg8 (by simp)
    have hE8:=ext_of_grown (ext_of_grown h1 hG7 (zE _)) hg8 (zD _ 1)
    have hz8:=set_size (set7 w6 w.heap.size x (.slice A x.l.length c)) ⟨w.heap.size+1,0,none⟩ (.bool true)
    have hX8:ExL ((set7 w6 w.heap.size x (.slice A x.l.length c)).setCell ⟨w.heap.size+1,0,none⟩ (.bool true)) (fun k=>w.heap.size≤k∧k<((set7 w6 w.heap.size x (.slice A x.l.length c)).setCell ⟨w.heap.size+1,0,none⟩ (.bool true)).heap.size) d A x.l:=
     (hX6.keep fun k hk o=>(grown_cell hg8 (by rw[hS7];exact hk.2) (by have:=hk.1;simp;omega) o).trans (grown_cell hG7 hk.2 (by have:=hk.1;simp;omega) o)).more fun k hk=>⟨by have:=hk.1;omega,by rw[hz8,hS7];exact hk.2⟩
    have HFIN:Hid (readT s=some x):=zO (by rw[HRT.out];rfl)
    show bodyPostD _ _ _ _ _ ((set7 w6 w.heap.size x (.slice A x.l.length c)).setCell ⟨w.heap.size+1,0,none⟩ (.bool true))
    generalize (set7 w6 w.heap.size x (.slice A x.l.length c)).setCell ⟨w.heap.size+1,0,none⟩ (.bool true)=w8 at hk7 hin8 hE8 hX8 ⊢
    refine leaves_cons (f:=137) (args:=#[.pointer (some ⟨w.heap.size,0,none⟩),.pointer (some ⟨w.heap.size+1,0,none⟩)]) (by simp) (by simp[go_sem]) ?_
    refine(catch_idle w.heap.size (w.heap.size+1) w8).mono ?_
    rintro e u' w9 ⟨rfl,rfl,hE9⟩
    obtain⟨y0,y1,y2,y3,y4,y5,y6⟩:=(hin8.ext hE9).cells
    obtain⟨z0,_⟩:=(hk7.ext hE9).cell
    have hX9:=fresh_ext hX8 hE9
    have hE:=hE8.trans hE9
    clear c0 c1 c2 c3 c4 c5 c6 f0 f1 f2 f3 f4 f5 f6 k0 k1
    simp[Leaves,settle,results,Tryz.results112,go_sem,y0,y1,y2,y3,y4,y5,y6,z0]
    exact ReadQ.ok HFIN.out hE A c d rfl hX9
  | cons t r=>
   have hne:=(hr5.toks.1 t (by simp)).1.ne
   refine(take_tok hr5 []).mono ?_
   rintro e w6 ⟨hp6,hg6⟩
   obtain rfl:=hp6.2 hne
   obtain⟨h1,h2,h3⟩:=HEND.out w6 hg6
   show bodyPostD Tryz.prog Tryz.f112 (ReadQ s w) (Exit.panic wrong) _ _
   refine settle_panic (by rw[HRT.out];cases bad<;>rfl) (zE _) (zD _ 1) (by omega) h1 h2 h3 ?_ ?_<;>rfl
end Go.Proofs.YtmiencglfhpmeaaGreatDoor
namespace Go.Proofs.YtmiencglfhpmeaaGreatDoor
open Go.RowKit Hach
inductive Rd:Bool→Ex→List Tok→List Tok→Prop
 | par (x:Ex) (r r1:List Tok) (h:Rd true x r ([41]::r1)):Rd false x ([40]::r) r1
 | var (t:Tok) (k:Nat) (r:List Tok) (h:ix nmL t=some k):Rd false (exVar k) (t::r) r
 | con (t:Tok) (v:Vl) (r:List Tok) (h:constOf t=some v):Rd false (exCon v) (t::r) r
 | not (x:Ex) (r r1:List Tok) (h:Rd false x r r1):Rd true (exOp 3 [x]) (tNot::r) r1
 | ite (x y z:Ex) (r r1 r2 r3:List Tok) (hx:Rd false x r (tThen::r1)) (hy:Rd false y r1 (tElse::r2)) (hz:Rd false z r2 r3):Rd true (exOp 13 [x,y,z]) (tIf::r) r3
 | one (x:Ex) (ts r:List Tok) (h:Rd false x ts r):Rd true x ts r
 | two (x y:Ex) (ts:List Tok) (o:Tok) (r1 r2:List Tok) (k:Nat) (hx:Rd false x ts (o::r1)) (ho:ix wdL o=some k) (hy:Rd false y r1 r2):Rd true (exOp (4+(k:Int)) [x,y]) ts r2
theorem takeT_some {u:Tok}{ts r:List Tok}(h:takeT u ts=some r):ts=u::r:=by
 cases ts with
 | nil=>cases h
 | cons t q=>
  by_cases ht:t=u
  ·rw[show takeT u (t::q)=some q from if_pos ht]at h
   simp only[zJ]at h
   rw[h,ht]
  ·rw[show takeT u (t::q)=none from if_neg ht]at h
   cases h
theorem read_rd (bad:Bool) (n:Nat):(∀ts x r,wholeF n bad ts=some (x,r)→Rd true x ts r)∧(∀ts x r,pieceF n bad ts=some (x,r)→Rd false x ts r):=by
 induction n with
 | zero=>exact⟨fun ts x r h=>by simp[wholeF]at h,fun ts x r h=>by simp[pieceF]at h⟩
 | succ n ih=>
  obtain⟨iw,ip⟩:=ih
  refine⟨fun ts x r h=>?_,fun ts x r h=>?_⟩
  ·cases ts with
   | nil=>simp[wholeF]at h
   | cons t q=>
    by_cases h1:t=[110,111,116]
    ·subst h1
     rw[whole_not]at h
     cases hp:pieceF n bad q with
     | none=>rw[hp]at h;cases h
     | some p=>
      obtain⟨a,l⟩:=p
      rw[hp]at h
      simp only[zH,zJ,Prod.mk.injEq]at h
      rw[←h.1,←h.2]
      exact Rd.not a q l (ip _ _ _ hp)
    ·by_cases h2:t=[105,102]
     ·subst h2
      rw[whole_if]at h
      cases hp:pieceF n bad q with
      | none=>rw[hp]at h;cases h
      | some p=>
       obtain⟨a,l⟩:=p
       rw[hp]at h
       have q1:=ip _ _ _ hp
       simp only[zH]at h
       cases ht:takeT tThen l with
       | none=>rw[ht]at h;cases h
       | some l1=>
        rw[ht]at h
        rw[takeT_some ht]at q1
        simp only[zH]at h
        cases hp2:pieceF n bad l1 with
        | none=>rw[hp2]at h;cases h
        | some p2=>
         obtain⟨a2,l2⟩:=p2
         rw[hp2]at h
         have q3:=ip _ _ _ hp2
         simp only[zH]at h
         cases ht2:takeT tElse l2 with
         | none=>rw[ht2]at h;cases h
         | some l3=>
          rw[ht2]at h
          rw[takeT_some ht2]at q3
          simp only[zH]at h
          cases hp3:pieceF n bad l3 with
          | none=>rw[hp3]at h;cases h
          | some p3=>
           obtain⟨a3,l4⟩:=p3
           rw[hp3]at h
           have q5:=ip _ _ _ hp3
           simp only[zH,zJ,Prod.mk.injEq]at h
           rw[←h.1,←h.2]
           exact Rd.ite a a2 a3 q l1 l3 l4 q1 q3 q5
     ·rw[whole_two n bad t q h1 h2]at h
      cases hp:pieceF n bad (t::q) with
      | none=>rw[hp]at h;cases h
      | some p=>
       obtain⟨a,l⟩:=p
       rw[hp]at h
       have q1:=ip _ _ _ hp
       simp only[zH]at h
       cases l with
       | nil=>
        rw[tailF_nil]at h
        by_cases hb:bad=true
        ·rw[if_pos hb]at h;cases h
        ·rw[if_neg hb]at h
         simp only[zJ,Prod.mk.injEq]at h
         rw[←h.1,←h.2]
         exact Rd.one _ _ _ q1
       | cons o l=>
        cases hx:ix wdL o with
        | none=>
         rw[tailF_none hx]at h
         simp only[zJ,Prod.mk.injEq]at h
         rw[←h.1,←h.2]
         exact Rd.one _ _ _ q1
        | some k=>
         rw[tailF_some hx]at h
         cases hp2:pieceF n bad l with
         | none=>rw[hp2]at h;cases h
         | some p2=>
          obtain⟨a2,l2⟩:=p2
          rw[hp2]at h
          have q2:=ip _ _ _ hp2
          simp only[zH,zJ,Prod.mk.injEq]at h
          rw[←h.1,←h.2]
          exact Rd.two a a2 _ o l l2 k q1 hx q2
  ·cases ts with
   | nil=>simp[pieceF]at h
   | cons t q=>
    by_cases h1:t=[40]
    ·subst h1
     rw[pieceF,if_pos rfl]at h
     cases hp:wholeF n bad q with
     | none=>rw[hp]at h;cases h
     | some p=>
      obtain⟨a,l⟩:=p
      rw[hp]at h
      have q1:=iw _ _ _ hp
      simp only[zH]at h
      cases ht:takeT [41] l with
      | none=>rw[ht]at h;cases h
      | some l1=>
       rw[ht]at h
       rw[takeT_some ht]at q1
       simp only[zH,zJ,Prod.mk.injEq]at h
       rw[←h.1,←h.2]
       exact Rd.par a q l1 q1
    ·rw[pieceF_rest n bad t q h1]at h
     unfold pieceR at h
     cases hx:ix nmL t with
     | some k=>
      rw[hx]at h
      simp only[zJ,Prod.mk.injEq]at h
      rw[←h.1,←h.2]
      exact Rd.var t k q hx
     | none=>
      rw[hx]at h
      simp only at h
      cases hc:constOf t with
      | none=>rw[hc]at h;cases h
      | some v=>
       rw[hc]at h
       simp only[zH,zJ,Prod.mk.injEq]at h
       rw[←h.1,←h.2]
       exact Rd.con t v q hc
theorem rd_size {f:Bool}{x:Ex}{ts r:List Tok}(h:Rd f x ts r):x.size+r.length≤ts.length ∧∀t∈r,t∈ts:=by
 induction h with
 | par x r r1 h ih=>
  simp only[zB]at *
  exact⟨by omega,fun t ht=>zC _ (ih.2 t (zC _ ht))⟩
 | var t k r h=>exact⟨by simp[exVar,Ex.size,Ex.sizes];omega,fun t ht=>zC _ ht⟩
 | con t v r h=>exact⟨by simp[exCon,Ex.size,Ex.sizes];omega,fun t ht=>zC _ ht⟩
 | not x r r1 h ih=>
  have e:(exOp 3 [x]).size=1+x.size:=by simp[exOp,Ex.size,Ex.sizes]
  simp only[zB]at *
  exact⟨by omega,fun t ht=>zC _ (ih.2 t ht)⟩
 | ite x y z r r1 r2 r3 hx hy hz ix iy iz=>
  have e:(exOp 13 [x,y,z]).size=1+(x.size+(y.size+z.size)):=by simp[exOp,Ex.size,Ex.sizes]
  simp only[zB]at *
  exact⟨by omega,fun t ht=>zC _ (ix.2 t (zC _ (iy.2 t (zC _ (iz.2 t ht)))))⟩
 | one x ts r h ih=>exact ih
 | two x y ts o r1 r2 k hx ho hy ix iy=>
  have e:(exOp (4+(k:Int)) [x,y]).size=1+(x.size+y.size):=by simp[exOp,Ex.size,Ex.sizes]
  simp only[zB]at *
  exact⟨by omega,fun t ht=>ix.2 t (zC _ (iy.2 t ht))⟩
theorem bd_mk {n:Int}{k:Nat}(h1 : -9999999999≤n) (h2:n≤9999999999):((-9999999999:Int)≤(⟨1,n,false,[]⟩:Vl).ty∧(⟨1,n,false,[]⟩:Vl).ty≤9999999999)∧(-9999999999≤(⟨1,n,false,[]⟩:Vl).n∧(⟨1,n,false,[]⟩:Vl).n≤9999999999)∧(⟨1,n,false,[]⟩:Vl).s.length≤k:=⟨⟨show(-9999999999:Int)≤1 by decide,show(1:Int)≤9999999999 by decide⟩,⟨h1,h2⟩,zG _⟩
theorem const_bd {t:Tok}{v:Vl}(h:constOf t=some v) (ht:IsTok t):(-9999999999≤v.ty∧v.ty≤9999999999)∧(-9999999999≤v.n∧v.n≤9999999999)∧v.s.length≤t.length:=by
 by_cases hT:t=[116,114,117,101]
 ·subst hT
  obtain rfl:=zI (show some (⟨2,0,true,[]⟩:Vl)=some v from h)
  exact⟨⟨by decide,by decide⟩,⟨by decide,by decide⟩,by simp⟩
 ·by_cases hF:t=[102,97,108,115,101]
  ·subst hF
   obtain rfl:=zI (show some (⟨2,0,false,[]⟩:Vl)=some v from h)
   exact⟨⟨by decide,by decide⟩,⟨by decide,by decide⟩,by simp⟩
  ·rw[const_rest hT hF]at h
   cases t with
   | nil=>cases h
   | cons c u=>
    rw[constR_cons]at h
    by_cases h1:c.toNat=34
    ·rw[if_pos h1]at h
     obtain rfl:=zI h
     exact⟨⟨by simp,by simp⟩,⟨by simp,by simp⟩,by simp;omega⟩
    ·rw[if_neg h1]at h
     by_cases h2:isDig c=true
     ·rw[if_pos h2]at h
      obtain rfl:=zI h
      have hd:dval (c::u)≤9999999999:=by
       cases ht with
       | word c u hc hu=>exfalso;unfold isLet at hc;unfold isDig at h2;simp at hc h2;omega
       | num c u hc hu hl hz=>exact dval_lt (by rw[zA,hc,hu];rfl) (by simpa using hl)
       | neg c u hc hu hl hz=>exfalso;exact absurd h2 (by decide)
       | str q hq hn=>exact absurd rfl h1
       | sign c hc=>exact dval_lt (by rw[zA,h2];rfl) (by simp)
      exact bd_mk (by omega) (by omega)
     ·rw[if_neg h2]at h
      by_cases h3:c.toNat=45∧u≠[]
      ·rw[if_pos h3]at h
       obtain rfl:=zI h
       have hd:dval u≤9999999999:=by
        cases ht with
        | word c u hc hu=>exfalso;have:=h3.1;unfold isLet at hc;simp at hc;omega
        | num c u hc hu hl hz=>exact absurd hc h2
        | neg c u hc hu hl hz=>exact dval_lt (by rw[zA,hc,hu];rfl) (by simpa using hl)
        | str q hq hn=>exact absurd rfl h1
        | sign c hc=>exact absurd rfl h3.2
       exact bd_mk (by omega) (by omega)
      ·rw[if_neg h3]at h;cases h
theorem rd_ok {f:Bool}{x:Ex}{ts r:List Tok}(h:Rd f x ts r):(∀t∈ts,IsTok t∧t.length≤4096)→x.ok:=by
 induction h with
 | par x r r1 h ih=>exact fun ht=>ih fun t hm=>ht t (zC _ hm)
 | var t k r h=>
  have:=ix_lt h
  have h9:nmL.length=9:=rfl
  exact fun ht=>⟨by omega,by omega,by omega,by omega,by simp,trivial⟩
 | con t v r h=>
  intro ht
  obtain⟨h1,h2⟩:=ht t (by simp)
  obtain⟨b1,b2,b3⟩:=const_bd h h1
  exact⟨by omega,by omega,by omega,by omega,by omega,trivial⟩
 | not x r r1 h ih=>exact fun ht=>⟨by omega,by omega,by omega,by omega,by simp,ih fun t hm=>ht t (zC _ hm),trivial⟩
 | ite x y z r r1 r2 r3 hx hy hz ix iy iz=>
  intro ht
  have s1:=(rd_size hx).2
  have s2:=(rd_size hy).2
  have t0 :∀t∈r,IsTok t∧t.length≤4096:=fun t hm=>ht t (zC _ hm)
  have t1 :∀t∈r1,IsTok t∧t.length≤4096:=fun t hm=>t0 t (s1 t (zC _ hm))
  have t2 :∀t∈r2,IsTok t∧t.length≤4096:=fun t hm=>t1 t (s2 t (zC _ hm))
  exact⟨by omega,by omega,by omega,by omega,by simp,ix t0,iy t1,iz t2,trivial⟩
 | one x ts r h ih=>exact ih
 | two x y ts o r1 r2 k hx ho hy ix iy=>
  intro ht
  have:=ix_lt ho
  have h9:wdL.length=9:=rfl
  have s1:=(rd_size hx).2
  exact⟨by omega,by omega,by omega,by omega,by simp,ix ht,iy fun t hm=>ht t (s1 t (zC _ hm)),trivial⟩
theorem readT_rd {s:List UInt8}{x:Ex}(h:readT s=some x):(lt s).2=false∧Rd true x (lt s).1 []:=by
 unfold readT at h
 cases hb:(lt s).2 with
 | true=>rw[hb,if_pos rfl]at h;cases h
 | false=>
  rw[hb,if_neg (by simp)]at h
  refine⟨rfl,?_⟩
  cases hw:wholeF (2*(lt s).1.length+2) false (lt s).1 with
  | none=>rw[hw]at h;cases h
  | some p=>
   obtain⟨e,r⟩:=p
   rw[hw]at h
   cases r with
   | nil=>
    obtain rfl:=zI h
    exact(read_rd false _).1 _ _ _ hw
   | cons t r=>cases h
theorem readT_ok {s:List UInt8}{x:Ex}(h:readT s=some x) (hs:s.length≤4096):x.ok∧x.size≤4096:=by
 obtain⟨_,h1⟩:=readT_rd h
 obtain⟨i1,i2⟩:=lt_toks s.length s (zE _)
 have:=(rd_size h1).1
 exact⟨rd_ok h1 fun t ht=>⟨(i1 t ht).1,by have:=(i1 t ht).2;omega⟩,by simp at this;omega⟩
end Go.Proofs.YtmiencglfhpmeaaGreatDoor
namespace Go.Proofs.YtmiencglfhpmeaaGreatDoor
open Go.RowKit Hach
def parseR:Option Ex→Ex×Int
 | none=>(zeroE,4)
 | some e=>if chkE e=0 then(e,0) else(zeroE,chkE e)
theorem parse_eq {s:List UInt8}{res:Option Ex}(h:s.length≤4096) (hres:readT s=res):parseE s=parseR res:=by
 unfold parseE
 rw[if_neg (by omega),hres]
 cases res<;>rfl
def ParseQ (s:List UInt8) (w:World) (e:Ending) (w':World):Prop :=∃A c d,e=.returned (.tuple #[.agg ((parseE s).1.cells A c).toArray,.int .i64 (parseE s).2])∧ExL w' (fun k=>w.heap.size≤k∧k<w'.heap.size) d A (parseE s).1.l∧Ext w w'
theorem parse_fin {s:List UInt8}{w wr:World}{fn:Func}(hr:fn.results=#[.cell 2 47,.tmp 3]) (x:Ex) (n:Int) (hp:parseE s=(x,n)) (hE:Ext w wr) {u:Value}{y:Ex}(hz:InBlk wr w.heap.size y u) (A:Option Addr) (m c d:Nat) (hm:m=x.l.length) (hX:ExL wr (fun k=>w.heap.size<k∧k<wr.heap.size) d A x.l) {tmps:Array Value}(h2:tmps.getD 2 undef=.pointer (some ⟨w.heap.size,0,none⟩)) (h3:tmps.getD 3 undef=.int .i64 n) :
  bodyPost Tryz.prog fn (ParseQ s w) Exit.ret ⟨tmps,[]⟩ (set7 wr w.heap.size x (.slice A m c)):=by
 have hG:=set7_grown wr w.heap.size x (.slice A m c)
 have hS:=set7_size wr w.heap.size x (.slice A m c)
 have hin:=hz.set7 x (.slice A m c)
 have hE':=ext_of_grown hE hG (zE _)
 have hX':ExL (set7 wr w.heap.size x (.slice A m c)) (fun k=>w.heap.size≤k∧k<(set7 wr w.heap.size x (.slice A m c)).heap.size) d A x.l:=(hX.keep fun k hk o=>grown_cell hG hk.2 (by have:=hk.1;simp;omega) o).more fun k hk=>⟨by have:=hk.1;omega,by rw[hS];exact hk.2⟩
 obtain⟨c0,c1,c2,c3,c4,c5,c6⟩:=hin.cells
 generalize set7 wr w.heap.size x (.slice A m c)=wf at *
 refine bodyPost_ret (v:=.tuple #[.agg (x.cells A c).toArray,.int .i64 n]) ?_ rfl ⟨A,c,d,by rw[hp],by rw[hp];exact hX',hE'⟩
 subst hm
 rw[zK]at h2 h3
 simp only[results,hr]
 go_simp
 rfl
set_option maxRecDepth 100000 in
set_option maxHeartbeats 4000000 in
theorem parse_any (s:List UInt8) (hs:s.length<4294967296) (w:World) (htab:Tabs w):Calls Tryz.prog 90 #[.string ⟨s.toArray⟩] w (ParseQ s w):=by
 have hsz:=toArr_size s
 have hz:=Zero7.new w
 have hE0:Ext w (w.alloc (.cells zero7 47)):=Ext.alloc _ _
 obtain⟨w0,hw0⟩ :∃w0,w.alloc (.cells zero7 47)=w0:=⟨_,rfl⟩
 have hs0:w0.heap.size=w.heap.size+1:=by rw[←hw0];simp
 rw[hw0]at hz hE0
 have HW:=zO hw0
 have HS0:=zO hs0
 have hin0:InBlk w0 w.heap.size zeroE (.slice none 0 0):=hz
 unfold zero7 at HW
 obtain⟨D,hD⟩ :∃D:ByteArray,(⟨s.toArray⟩:ByteArray)=D:=⟨_,rfl⟩
 have HD:=zO hD
 rw[hD]at hsz ⊢
 obtain⟨n,hn⟩ :∃n,s.length=n:=⟨_,rfl⟩
 rw[hn]at hsz hs
 have HN:=zO hn
 have hEz :∀wr,Ext w wr→ExL wr (fun k=>w.heap.size<k∧k<wr.heap.size) 0 none zeroE.l:=fun wr _=>ExL.nil _ _ _ _
 have HTB:=zO (htab.ext hE0)
 clear hw0 hs0 hD hn htab
 by_cases h1:4096<n
 ·have t1:decide ((4096:Int)<(n:Int))=true:=by simp;omega
  have HP:Hid (parseE s=(zeroE,2)):=zO (by unfold parseE;rw[HN.out,if_pos h1])
  obtain⟨u0,u1,u2,u3,u4,u5,u6⟩:=hz.cells
  obtain⟨f0,f1,f2,f3,f4,f5,f6⟩:=hz.free
  clear h1
  go_enter Tryz.func90,Tryz.ntmps90
  go_upto_region 1 with fail
  rw[HW.out]
  go_wp2_with fail
  exact parse_fin rfl zeroE 2 HP.out hE0 hin0 none 0 0 0 rfl (hEz _ hE0) rfl rfl
 ·have t1:decide ((4096:Int)<(n:Int))=false:=by simp;omega
  have RD:=zO (read_any s (by have:=HN.out;omega) w0 HTB.out)
  rw[HD.out]at RD
  obtain⟨res,hres⟩ :∃res,readT s=res:=⟨_,rfl⟩
  have HP0:Hid (parseE s=parseR res):=zO (parse_eq (by have:=HN.out;omega) hres)
  have HRES:=zO hres
  have hn4:n≤4096:=by omega
  clear h1 hres
  go_enter Tryz.func90,Tryz.ntmps90
  go_upto_region 1 with fail
  rw[HW.out]
  go_wp2_with fail
  refine RD.out.mono ?_
  rintro e w1 ⟨hE1,hp⟩
  rw[HRES.out]at hp
  cases res with
  | none=>
   obtain rfl:=hp
   have hE2:Ext w1 (w1.alloc (.cells zero7 47)):=Ext.alloc _ _
   have hz2:=(hz.own (grown_of hE1 none) (by simp)).own (grown_of hE2 none) (by simp)
   have hin2:InBlk (w1.alloc (.cells zero7 47)) w.heap.size zeroE (.slice none 0 0):=hz2
   obtain⟨u0,u1,u2,u3,u4,u5,u6⟩:=hz2.cells
   obtain⟨f0,f1,f2,f3,f4,f5,f6⟩:=hz2.free
   have hEf:=(hE0.trans hE1).trans hE2
   unfold zero7 at *
   go_wp2_with fail
   exact parse_fin rfl zeroE 4 (by rw[HP0.out];rfl) hEf hin2 none 0 0 0 rfl (hEz _ hEf) rfl rfl
  | some x=>
   obtain⟨A,c,d,rfl,hX⟩:=hp
   obtain⟨hok,hsx⟩:=readT_ok HRES.out (by have:=HN.out;omega)
   have hin2:=InBlk.new2 w1 x A c
   have hE2:Ext w1 (w1.alloc (.cells (x.cells A c).toArray 47)):=Ext.alloc _ _
   have hz2:=(hz.own (grown_of hE1 none) (by simp)).own (grown_of hE2 none) (by simp)
   have hX2:=fresh_ext hX hE2
   have hE02:=(hE0.trans hE1).trans hE2
   have CK:=zO (Check_any x d A c (w1.alloc (.cells (x.cells A c).toArray 47)) (hX2.more fun k hk=>hk.2) (by omega) hok)
   obtain⟨v0,v1,v2,v3,v4,v5,v6⟩:=hin2.cells
   have HP1:Hid (parseE s=if chkE x=0 then(x,0) else(zeroE,chkE x)):=zO (by rw[HP0.out];rfl)
   obtain⟨w2,hw2⟩ :∃w2,w1.alloc (.cells (x.cells A c).toArray 47)=w2:=⟨_,rfl⟩
   have hsz2:w2.heap.size=w1.heap.size+1:=by rw[←hw2];simp
   rw[hw2]at hin2 hE2 hz2 hX2 hE02 CK v0 v1 v2 v3 v4 v5 v6
   have HW2:=zO hw2
   unfold Ex.cells at *
   clear hw2 hok hX HP0
   obtain⟨T,hT⟩ :∃T,chkT x=T:=⟨_,rfl⟩
   obtain⟨K,hK⟩ :∃K,chkE x=K:=⟨_,rfl⟩
   rw[hT,hK]at CK
   rw[hK]at HP1
   clear hT hK
   go_upto_region 6 with fail
   rw[HW2.out]
   go_wp2_with fail
   refine CK.out.mono ?_
   rintro e w3 ⟨rfl,hE3⟩
   have hz3:=hz2.own (grown_of hE3 none) (by simp)
   have hin3:InBlk w3 w.heap.size zeroE (.slice none 0 0):=hz3
   obtain⟨u0,u1,u2,u3,u4,u5,u6⟩:=hz3.cells
   obtain⟨f0,f1,f2,f3,f4,f5,f6⟩:=hz3.free
   obtain⟨p0,p1,p2,p3,p4,p5,p6⟩:=(hin2.ext hE3).cells
   have hEf:=hE02.trans hE3
   have hX3:ExL w3 (fun k=>w.heap.size<k∧k<w3.heap.size) d A x.l:=(hX2.keep fun k hk o=>hE3.old (p:=⟨k,o,none⟩) hk.2).more fun k hk=>⟨by have h1:=HS0.out;have h2:=hk.1;omega,by have h2:=hk.2;have h3:=hE3.sz;omega⟩
   have HX3:=zO hX3
   clear hX2 hX3 v0 v1 v2 v3 v4 v5 v6
   by_cases hK0:K=0
   ·subst hK0
    go_wp2_with fail
    exact parse_fin rfl x 0 (by rw[HP1.out];rfl) hEf hin3 A x.l.length c d rfl HX3.out rfl rfl
   ·have tK:(K != 0)=true:=by simpa using hK0
    have HP2:=zO (show parseE s=(zeroE,K) by rw[HP1.out,if_neg hK0])
    clear hK0
    go_wp2_with fail
    exact parse_fin rfl zeroE K HP2.out hEf hin3 none 0 0 0 rfl (hEz _ hEf) rfl rfl
end Go.Proofs.YtmiencglfhpmeaaGreatDoor
