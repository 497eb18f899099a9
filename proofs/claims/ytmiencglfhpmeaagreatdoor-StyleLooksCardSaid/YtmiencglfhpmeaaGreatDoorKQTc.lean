/- The contract of the reference's Parse. -/
import Derived.Test.YtmiencglfhpmeaaGreatDoorKQSu
import Derived.Test.YtmiencglfhpmeaaGreatDoorKQXs
import Derived.Test.YtmiencglfhpmeaaGreatDoorKQXp
open List renaming length_map → zA, mem_map → zB, mem_singleton → zC
open Nat renaming le_of_eq → zD, le_refl → zE, le_trans → zF, lt_of_lt_of_le → zG
open Option renaming bind_some → zH, getD_some → zI, map_some → zJ, some.injEq → zK
open Array renaming getD_eq_getD_getElem? → zL, getElem?_eq_some_iff → zM
open Go.Lib renaming hid → zN
set_option linter.unusedSimpArgs false
set_option linter.unusedVariables false
namespace Go.Proofs.YtmiencglfhpmeaaGreatDoor
open Go.RowKit Hach Num
theorem ret3 {fn:Func}(hr:fn.results=#[.tmp 2,.tmp 3,.tmp 4]) {W:World}{Q:Ending→World→Prop}{a b c:Value}{tmps:Array Value}(h2:tmps.getD 2 undef=a) (h3:tmps.getD 3 undef=b) (h4:tmps.getD 4 undef=c)
  (hQ:Q (.returned (.tuple #[a,b,c])) W):bodyPost Tryz.prog fn Q Exit.ret ⟨tmps,[]⟩ W:=by
 refine bodyPost_ret (v:=.tuple #[a,b,c]) ?_ rfl hQ
 rw[zL]at h2 h3 h4
 simp only[results,hr]
 go_simp
def ParseQL (s:List UInt8) (w:World) (e:Ending) (w':World):Prop :=∃(A:Option Addr) (c d:Nat),e=.returned (.tuple #[.slice A (parseL s).1.length c,.int .i64 (parseL s).2.1,.int .i64 (parseL s).2.2])∧RlL w' (fun k=>w.heap.size≤k∧k<w'.heap.size) d A (parseL s).1∧((parseL s).1.length≤c∧c<9223372036854775808)∧(∀r∈(parseL s).1,r.ok∧r.small)∧Ext w w'
theorem OwnR.cap {w:World}{base:Nat}{A:Option Addr}{n c:Nat}{us:List Rn}(h:OwnR w base (.slice A n c) us):us.length≤c∧c<9223372036854775808:=by
 rcases h.2 with⟨e,hn⟩|⟨g,cap,cur,e,_,_,h1,h2,_⟩
 ·simp only[Value.slice.injEq]at e
  obtain⟨_,_,rfl⟩:=e
  rw[hn];exact⟨zE _,by decide⟩
 ·simp only[Value.slice.injEq]at e
  obtain⟨_,_,rfl⟩:=e
  exact⟨h1,Nat.lt_of_le_of_lt h2 (by decide)⟩
theorem rdE_chk {l r:List UInt8}{x:Ex}(h:rdE l=some (x,r)):x.ok∧x.size<4294967296:=by
 unfold rdE at h
 cases ht:rdText l with
 | none=>rw[ht]at h;cases h
 | some p=>
  rw[ht]at h
  simp only at h
  split at h
  ·rename_i hc
   simp only[zK,Prod.mk.injEq]at h
   obtain⟨rfl,_⟩:=h
   obtain⟨h1,h2⟩:=chk_rt hc.2.1
   exact⟨rt_ok h1,by omega⟩
  ·cases h
theorem rdR_ok {l r:List UInt8}{u:Rl}(h:rdR l=some (u,r)) (hl:l.length<4294967296):u.ok∧u.small:=by
 obtain⟨l1,l2,l3,l4,l5,h1,h2,h3,h4,h5,h6⟩:=rdR_parts h
 have t:=(rdText_len h1).1
 have v:=(twinInt.sole _ _ _ h2).1
 obtain⟨a1,b1⟩:=rdE_chk h3
 obtain⟨a2,b2⟩:=rdE_chk h4
 obtain⟨a3,b3⟩:=rdE_chk h5
 obtain⟨a4,b4⟩:=rdE_chk h6
 exact⟨⟨by omega,v,⟨a1,by omega⟩,⟨a2,by omega⟩,⟨a3,by omega⟩,⟨a4,by omega⟩⟩,⟨b1,b2,b3,b4⟩⟩
theorem KidsR.step {W wb:World}{B d lo:Nat}{v v1:Value}{us:List Rn}{u:Rn}(hK:KidsR W (SO B W v) d us) (hk:u.kids W (fun b=>lo≤b∧b<W.heap.size) d) (hlo:B≤lo) (hv :∀b,v.ownBlock=some b→b<lo) (hg:W.grownBy wb v.ownBlock) (hn:v1.ownBlock=v.ownBlock∨v1.ownBlock=some W.heap.size):KidsR wb (SO B wb v1) d (us++[u]):=by
 have hsz:=hg.size
 have key :∀b,B≤b→b<W.heap.size→v.ownBlock≠some b→(∀o',wb.cell? ⟨b,o',none⟩=W.cell? ⟨b,o',none⟩)∧SO B wb v1 b:=fun b h1 h2 h3=>⟨fun o'=>grown_cell hg h2 h3 o',h1,by omega,fun e=>by
  rcases hn with h|h
  ·exact h3 (h▸e)
  ·rw[h]at e;simp only[zK]at e;omega⟩
 have h4 :∀b,lo≤b→v.ownBlock≠some b:=fun b h e=>by have:=hv b e;omega
 refine KidsR.app (KidsR.more (KidsR.keep hK fun b hb o'=>(key b hb.1 hb.2.1 hb.2.2).1 o') fun b hb=>(key b hb.1 hb.2.1 hb.2.2).2) fun y hy=>?_
 rw[zC.1 hy]
 exact(hk.keep fun b hb o'=>(key b (by omega) hb.2 (h4 b hb.1)).1 o').more fun b hb=>(key b (by omega) hb.2 (h4 b hb.1)).2
end Go.Proofs.YtmiencglfhpmeaaGreatDoor
namespace Go.Proofs.YtmiencglfhpmeaaGreatDoor
open Go.RowKit Hach Num
theorem tabsE {w:World}(h:Wr.Tabs w):Tabs w:=⟨h.1,h.2.1,h.2.2.2.1,h.2.2.2.2⟩
theorem Wr.new_any (s:ByteArray) (w:World) :
  Calls Tryz.prog 54 #[.string s] w fun e w'=>e=.returned (.pointer (some ⟨w.heap.size,0,none⟩))∧Wr.Rd w' w.heap.size (some s.data.toList)∧Ext w w':=by
 go_enter Tryz.func54,Tryz.ntmps54
 go_wp2_with fail
 go_ret
 exact⟨rfl,heap_alloc_new _ _,Ext.alloc _ _⟩
def nxt (rb:Nat):Value:=.func (.func 56) #[.pointer (some ⟨rb,0,none⟩)] #[]
structure RdP (w w':World) (rb eb:Nat) (l:Option (List UInt8)) (pre post:List Value) (T:TypeId) (bo:Bool) (wm:World):Prop where
 r:Wr.Rd wm rb ((l.bind rdText).map (·.2))
 g1:w.grownBy wm (some rb)
 g2:wm.grownBy w' (some eb)
 no:bo=false→l.bind rdE=none
 yes:bo=true→l.bind rdText≠none →∃(x:Ex) (A:Option Addr) (c d:Nat) (r:List UInt8),l.bind rdE=some (x,r)∧w'.heap[eb]?=some (.cells (pre++(x.cells A c++post)).toArray T (0,0))∧ExL w' (fun k=>w.heap.size≤k∧k<w'.heap.size) d A x.l
theorem ret1 {fn:Func}(hr:fn.results=#[.tmp 4]) {W:World}{Q:Ending→World→Prop}{a:Value}{tmps:Array Value}(h4:tmps.getD 4 undef=a) (hQ:Q (.returned a) W):bodyPost Tryz.prog fn Q Exit.ret ⟨tmps,[]⟩ W:=by
 refine bodyPost_ret (v:=a) ?_ rfl hQ
 rw[zL]at h4
 simp only[results,hr]
 go_simp
set_option maxRecDepth 100000 in
set_option maxHeartbeats 4000000 in
theorem sread_any (rb eb eo:Nat) (l:Option (List UInt8)) (w:World) (hR:Wr.Rd w rb l) (hb:4≤rb) (hT:Wr.Tabs w) (hl:(l.getD []).length<4294967281) (pre old post:List Value) (T:TypeId)
  (hB:w.heap[eb]?=some (.cells (pre++(old++post)).toArray T (0,0))) (ho:pre.length=eo) (h7:old.length=7) (hne:rb≠eb) :
  Calls Tryz.prog 58 #[nxt rb,.pointer (some ⟨eb,eo,none⟩)] w fun e w' =>∃bo wm,e=.returned (.bool bo)∧RdP w w' rb eb l pre post T bo wm:=by
 have TX:=zN (Wr.text_any rb l w hR hb hT hl)
 unfold nxt
 go_enter Tryz.func58,Tryz.ntmps58
 go_wp2_with fail
 refine TX.out.mono ?_
 rintro e w1 ⟨⟨rfl,hR1⟩,hg1⟩
 have hE0:w.grownBy w1 (some rb):=hg1
 have hT1:Tabs w1:=(tabsE hT).keep hg1.size (fun k hk=>hg1.block k (by have:=(tabsE hT).sz;omega) (by simp;omega))
 have hbz:eb<w.heap.size:=(zM.1 hB).1
 have hB1:w1.heap[eb]?=some (.cells (pre++(old++post)).toArray T (0,0)):=(hg1.block eb hbz (by simp;omega)).trans hB
 obtain⟨s,hs⟩ :∃s,((l.bind rdText).map (·.1)).getD []=s:=⟨_,rfl⟩
 have hsl:s.length<4294967296:=by
  rw[←hs]
  cases l with
  | none=>simp
  | some ll=>
   cases ht:rdText ll with
   | none=>simp[ht]
   | some p=>
    have h1:=(rdText_len (show rdText ll=some (p.1,p.2) from ht)).1
    simp[ht]at hl ⊢
    omega
 rw[hs]
 have HNO:Hid (¬((parseE s).2=0∧chkE (parseE s).1=0∧txT (parseE s).1=s)→l.bind rdE=none):=zN (fun h=>by
  cases ho:l.bind rdText with
  | none=>exact rdE_none ho
  | some p=>
   obtain⟨s',r⟩:=p
   rw[ho]at hs
   simp only[zJ,zI]at hs
   subst hs
   rw[rdE_some ho,if_neg h])
 have HYE:Hid ((parseE s).2=0∧chkE (parseE s).1=0∧txT (parseE s).1=s→l.bind rdText≠none →∃r,l.bind rdE=some ((parseE s).1,r)):=zN (fun h hn=>by
  cases ho:l.bind rdText with
  | none=>exact absurd ho hn
  | some p=>
   obtain⟨s',r⟩:=p
   rw[ho]at hs
   simp only[zJ,zI]at hs
   subst hs
   exact⟨r,by rw[rdE_some ho,if_pos h]⟩)
 have HCZ:Hid ((parseE s).2=0→chkE (parseE s).1=0∧(parseE s).1.ok∧(parseE s).1.size<1099511627776):=zN (fun h=>⟨parse_chk h,parse_zero h⟩)
 have PA:=zN (parse_any s hsl w1 hT1)
 unfold ParseQ at PA
 obtain⟨y,hy⟩ :∃y,(parseE s).1=y:=⟨_,rfl⟩
 obtain⟨er,her⟩ :∃y,(parseE s).2=y:=⟨_,rfl⟩
 rw[hy,her]at PA HNO HYE HCZ
 obtain⟨S,hS⟩ :∃S:ByteArray,(⟨s.toArray⟩:ByteArray)=S:=⟨_,rfl⟩
 have HSS:=zN hS
 have HB1:=zN hB1
 have HT1:=zN hT1
 have HG1:=zN hg1
 have HR1:=zN hR1
 have HHO:=zN ho
 have HH7:=zN h7
 rw[hS]at PA
 rw[hS]
 clear hs hy her hS hT1 hB1 hg1 hR1 TX hE0 hR hB hT ho h7
 go_wp2_with fail
 refine PA.out.mono ?_
 rintro e w3 ⟨A,c,d,rfl,hX3,hE3⟩
 have HX3:=zN hX3
 have HE3:=zN hE3
 unfold Ex.cells
 clear hX3 hE3 PA
 by_cases e0:er=0
 ·subst e0
  obtain⟨hc0,hok,hsz⟩:=HCZ.out rfl
  go_upto_region 3 with fail
  obtain⟨w4,hw4⟩ :∃w4,w3.alloc (.cells (y.cells A c).toArray 47)=w4:=⟨_,rfl⟩
  obtain⟨q,hq⟩ :∃q,w3.heap.size=q:=⟨_,rfl⟩
  have hE4:Ext w3 w4:=by rw[←hw4];exact Ext.alloc _ _
  have hr4:=range_new w3 (y.cells A c) 47
  have hlt4:w3.heap.size<w4.heap.size:=by rw[←hw4];simp
  rw[hw4,hq]at hr4
  rw[hq]at hlt4
  have HX4:=zN (exl_ext HX3.out hE4)
  have TC:=zN (TextC_any y d A c w4 (ExL.ext (HX3.out.more fun k hk=>hk.2) hE4) hsz hok (HT1.out.ext (HE3.out.trans hE4)))
  unfold Ex.cells at hw4 TC
  unfold sv at TC
  have HE4:=zN (HE3.out.trans hE4)
  rw[hw4,hq]
  obtain⟨D,hD⟩ :∃D:ByteArray,(⟨(txT y).toArray⟩:ByteArray)=D:=⟨_,rfl⟩
  have hq2:=bs_eq2 (txT y) s D S hD HSS.out
  obtain⟨bo,hbo⟩ :∃q,decide (txT y=s)=q:=⟨_,rfl⟩
  rw[hbo]at hq2
  rw[hD,hc0]at TC
  have HBO:=zN hbo
  have HC0:=zN hc0
  have HR4:Hid (∀W,Ext w4 W→W.rangeAt q 0 (y.cells A c)):=zN (fun W h=>range_ext hr4 hlt4 h)
  have hr4':=hr4
  unfold Ex.cells at hr4'
  clear hw4 hE4 hD hbo hok hsz hc0 hq hr4
  go_wp2_with (first|(refine load_E rfl _ rfl _ _ _ hr4' rfl rfl ?_))
  refine TC.out.mono ?_
  rintro e w5 ⟨rfl,hE5⟩
  have HE5:=zN (HE4.out.trans hE5)
  have HX5:=zN (exl_ext HX4.out hE5)
  have hr5:=HR4.out w5 hE5
  clear hr4' hE5 hlt4 TC
  go_upto_region 6 with fail
  have hB5:w5.heap[eb]?=some (.cells (pre++(old++post)).toArray T (0,0)):=(HE5.out.below.block eb (zG hbz HG1.out.size)).trans HB1.out
  have hp:=put_mid (y.cells A c) old pre post w5 hB5 HH7.out
  rw[HHO.out]at hp
  have HP:=zN hp
  have hX6:=exl_grow HX5.out hp.2 (zG hbz HG1.out.size)
  have HX6:=zN hX6
  clear hp hX6
  go_upto_region 7 with(first|(refine store_E eb eo pre old post (y.cells A c) T hB5 HHO.out HH7.out rfl (ex_one y A c) rfl _ _ rfl rfl rfl ?_)|(refine load_E rfl _ rfl q 0 _ hr5 rfl rfl ?_))
  obtain⟨w6,hw6⟩ :∃q,w5.setCells eb eo (y.cells A c)=q:=⟨_,rfl⟩
  rw[hw6]at HP HX6 ⊢
  clear hw6 hr5 hB5
  go_wp2_with fail
  refine ret1 (a:=.bool bo) rfl rfl ?_
  refine⟨bo,w5,rfl,HR1.out.ext HE5.out,grown_trans HG1.out (grown_of HE5.out _),HP.out.2,fun h=>HNO.out (fun k=>?_),fun h hn=>?_⟩
  ·rw[h,decide_eq_false_iff_not]at HBO
   exact HBO.out k.2.2
  ·have hts:txT y=s:=by
    have:=HBO.out
    rw[h,decide_eq_true_iff]at this
    exact this
   obtain⟨r,hr⟩:=HYE.out ⟨by simp,HC0.out,hts⟩ hn
   exact⟨y,A,c,d,r,hr,HP.out.1,exl_low HX6.out HG1.out.size⟩
 ·have ye:(er != 0)=true:=by simpa using e0
  have HN:Hid (l.bind rdE=none):=zN (HNO.out (fun h=>e0 h.1))
  clear e0
  go_wp2_with fail
  have hE4:=Ext.alloc w3 (.cells (y.cells A c).toArray 47)
  exact ret1 (a:=.bool false) rfl rfl ⟨false,_,rfl,HR1.out.ext (HE3.out.trans hE4),grown_trans HG1.out (grown_of (HE3.out.trans hE4) _),grown_of (Ext.refl _) _,fun _=>HN.out,fun h=>(by cases h)⟩
end Go.Proofs.YtmiencglfhpmeaaGreatDoor
namespace Go.Proofs.YtmiencglfhpmeaaGreatDoor
open Go.RowKit Hach Num
structure PpSt (w1 wr:World) (rb:Nat) (s cur:List UInt8) (ov:Value) (us:List Rn) (d:Nat):Prop where
 o:OwnR wr w1.heap.size ov us
 r:Wr.Rd wr rb (some cur)
 g:w1.grownBy wr (some rb)
 k:KidsR wr (SO w1.heap.size wr ov) d us
 p:goRs [] s=goRs (us.map (·.r)) cur
 l:us.length+cur.length≤s.length
 ok :∀u∈us,u.r.ok∧u.r.small
theorem PpSt.next {w1 wr wF wz:World}{rb bu d D:Nat}{s cur r:List UInt8}{ov v':Value}{us:List Rn}{u:Rn}(h:PpSt w1 wr rb s cur ov us d) (hlt:rb<w1.heap.size) (hg:wr.grownBy wF (some rb)) (hR:Wr.Rd wF rb (some r)) (hd:d≤D)
  (hk:u.kids wF (fun b=>bu+1≤b∧b<wF.heap.size) D) (hbu:wr.heap.size≤bu) (hrd:rdR cur=some (u.r,r)) (hs:s.length≤262144) (ho:OwnR wz w1.heap.size v' (us++[u])) (hgz:wF.grownBy wz ov.ownBlock) (hn:v'.ownBlock=ov.ownBlock∨v'.ownBlock=some wF.heap.size):PpSt w1 wz rb s r v' (us++[u]) D:=by
 have h1:=grown_trans h.g hg
 have hr1:=rdR_less hrd
 have hl:=h.l
 refine⟨ho,hR.own hgz (fun e=>?_),Wr.grown_own h1 hgz (fun g e=>(h.o.lt g e).1),?_,?_,?_,?_⟩
 ·have:=h.o.lt rb e.symm;omega
 ·refine KidsR.step (lo:=bu+1) (KidsR.deep (KidsR.more (KidsR.keep h.k fun b hb o=>grown_cell hg hb.2.1 (fun e=>?_) o) fun b hb=>?_) hd) hk ?_ (fun b e=>?_) hgz hn
  ·simp only[zK]at e;have:=hb.1;omega
  ·exact⟨hb.1,zG hb.2.1 hg.size,hb.2.2⟩
  ·have:=h.g.size;omega
  ·have:=(h.o.lt b e).2;omega
 ·rw[h.p,goRs_some hrd];simp
 ·simp only[List.length_append,List.length_singleton];omega
 ·intro y hy
  rcases List.mem_append.1 hy with hy|hy
  ·exact h.ok y hy
  ·rw[zC.1 hy];exact rdR_ok hrd (by omega)
theorem PpSt.bad {w w1 wr w':World}{rb d:Nat}{s cur:List UInt8}{ov:Value}{us:List Rn}(h:PpSt w1 wr rb s cur ov us d) (hP:parseL s=parseG (goRs [] s)) (hne:cur≠[]) (hrd:rdR cur=none) (hE:Ext w w'):ParseQL s w (.returned (.tuple #[.slice none 0 0,.int .i64 ((us.length:Int)+1),.int .i64 4])) w':=by
 have e:parseL s=([],((us.length:Int)+1),4):=by
  rw[hP,h.p,goRs_none hne hrd,parseG,zA];rfl
 unfold ParseQL
 rw[e]
 exact⟨none,0,0,rfl,RlL.nil _ _ _ _,⟨zE _,by decide⟩,fun r hr=>(by cases hr),hE⟩
theorem PpSt.all {w1 wr:World}{rb d:Nat}{s:List UInt8}{ov:Value}{us:List Rn}(h:PpSt w1 wr rb s [] ov us d) (hP:parseL s=parseG (goRs [] s)):parseL s=if chkL (us.map (·.r))≠0 then([],0,chkL (us.map (·.r))) else(us.map (·.r),0,0):=by
 rw[hP,h.p,goRs_nil,parseG]
def Rn.setk (u:Rn):Nat→Ex→Option Addr→Nat→Rn
 | 0=>u.set1
 | 1=>u.set2
 | 2=>u.set3
 | _=>u.set4
def Stp (x:Ex) (m m':Option (List UInt8)):Prop :=∃r,m.bind rdE=some (x,r)∧m'=some r
def ChE (u:Rl):Nat→Option (List UInt8)→Option (List UInt8)→Prop
 | 0,m2,m=>m=m2
 | 1,m2,m=>Stp u.e1 m2 m
 | 2,m2,m =>∃m3,Stp u.e1 m2 m3∧Stp u.e2 m3 m
 | 3,m2,m =>∃m3 m4,Stp u.e1 m2 m3∧Stp u.e2 m3 m4∧Stp u.e3 m4 m
 | _,m2,m =>∃m3 m4 m5,Stp u.e1 m2 m3∧Stp u.e2 m3 m4∧Stp u.e3 m4 m5∧Stp u.e4 m5 m
theorem four {k:Nat}(hk:k<4):k=0∨k=1∨k=2∨k=3:=by omega
theorem ChE.next {u:Rn}{k:Nat}{m2 m m':Option (List UInt8)}{x:Ex}(h:ChE u.r k m2 m) (hk:k<4) (hs:Stp x m m') (A:Option Addr) (c:Nat):ChE (u.setk k x A c).r (k+1) m2 m':=by
 rcases four hk with rfl|rfl|rfl|rfl
 ·have h':m=m2:=h
  subst h';exact hs
 ·exact⟨m,h,hs⟩
 ·obtain⟨m3,h1,h2⟩:=h
  exact⟨m3,m,h1,h2,hs⟩
 ·obtain⟨m3,m4,h1,h2,h3⟩:=h
  exact⟨m3,m4,m,h1,h2,h3,hs⟩
def rest4 (nm:List UInt8) (pr:Int) (m2:Option (List UInt8)):Option (Rl×List UInt8):=
 (m2.bind rdE).bind fun p3=>(rdE p3.2).bind fun p4=>(rdE p4.2).bind fun p5=>(rdE p5.2).bind fun p6=>some (⟨nm,pr,p3.1,p4.1,p5.1,p6.1⟩,p6.2)
theorem ChE.stop {u:Rn}{k:Nat}{m2 m:Option (List UInt8)}(h:ChE u.r k m2 m) (hk:k<4) (hn:m.bind rdE=none) (nm:List UInt8) (pr:Int):rest4 nm pr m2=none:=by
 unfold rest4
 rcases four hk with rfl|rfl|rfl|rfl
 ·have h':m=m2:=h
  subst h';rw[hn];rfl
 ·obtain⟨r3,h1,rfl⟩:=h
  have hn':rdE r3=none:=hn
  rw[h1];simp[hn']
 ·obtain⟨m3,⟨r3,h1,rfl⟩,⟨r4,h2,rfl⟩⟩:=h
  have h2':rdE r3=_:=h2
  have hn':rdE r4=none:=hn
  rw[h1];simp[h2',hn']
 ·obtain⟨m3,m4,⟨r3,h1,rfl⟩,⟨r4,h2,rfl⟩,⟨r5,h3,rfl⟩⟩:=h
  have h2':rdE r3=_:=h2
  have h3':rdE r4=_:=h3
  have hn':rdE r5=none:=hn
  rw[h1];simp[h2',h3',hn']
theorem ChE.all {u:Rn}{m2 m:Option (List UInt8)}(h:ChE u.r 4 m2 m) :∃r,m=some r∧rest4 u.r.nm u.r.pr m2=some (u.r,r):=by
 obtain⟨m3,m4,m5,⟨r3,h1,rfl⟩,⟨r4,h2,rfl⟩,⟨r5,h3,rfl⟩,⟨r6,h4,rfl⟩⟩:=h
 have h2':rdE r3=_:=h2
 have h3':rdE r4=_:=h3
 have h4':rdE r5=_:=h4
 refine⟨r6,rfl,?_⟩
 unfold rest4
 rw[h1];simp[h2',h3',h4']
theorem rdR_rest {l:List UInt8}{o1:Option (List UInt8×List UInt8)}{o2:Option (Int×List UInt8)}(h1:rdText l=o1) (h2:(o1.map (·.2)).bind rdInt=o2):rdR l=rest4 ((o1.map (·.1)).getD []) ((o2.map (·.1)).getD 0) (o2.map (·.2)):=by
 subst h2
 unfold rdR rest4
 rw[h1]
 cases o1 with
 | none=>rfl
 | some p=>
  obtain⟨nm,l1⟩:=p
  simp only[zJ,zH,zI]
  cases rdInt l1 with
  | none=>rfl
  | some q=>
   obtain⟨pr,l2⟩:=q
   simp only[zJ,zH,zI]
   cases rdE l2 with
   | none=>rfl
   | some q3=>
    obtain⟨x3,l3⟩:=q3
    simp only[zH]
    cases rdE l3 with
    | none=>rfl
    | some q4=>
     obtain⟨x4,l4⟩:=q4
     simp only[zH]
     cases rdE l4 with
     | none=>rfl
     | some q5=>
      obtain⟨x5,l5⟩:=q5
      simp only[zH]
      cases rdE l5 with
      | none=>rfl
      | some q6=>rfl
theorem cells_k (u:Rn) {k:Nat}(hk:k<4) :∃pre old post,u.cells=pre++(old++post)∧pre.length=2+7*k∧old.length=7 ∧∀(x:Ex) (A:Option Addr) (c:Nat),pre++(x.cells A c++post)=(u.setk k x A c).cells:=by
 rcases four hk with rfl|rfl|rfl|rfl
 ·exact⟨[.string ⟨u.r.nm.toArray⟩,.int .i64 u.r.pr],u.r.e1.cells u.A1 u.c1,u.r.e2.cells u.A2 u.c2++(u.r.e3.cells u.A3 u.c3++u.r.e4.cells u.A4 u.c4),rfl,rfl,rfl,fun x A c=>rfl⟩
 ·exact⟨.string ⟨u.r.nm.toArray⟩::.int .i64 u.r.pr::u.r.e1.cells u.A1 u.c1,u.r.e2.cells u.A2 u.c2,u.r.e3.cells u.A3 u.c3++u.r.e4.cells u.A4 u.c4,rfl,rfl,rfl,fun x A c=>rfl⟩
 ·exact⟨.string ⟨u.r.nm.toArray⟩::.int .i64 u.r.pr::(u.r.e1.cells u.A1 u.c1++u.r.e2.cells u.A2 u.c2),u.r.e3.cells u.A3 u.c3,u.r.e4.cells u.A4 u.c4,rfl,rfl,rfl,fun x A c=>rfl⟩
 ·exact⟨.string ⟨u.r.nm.toArray⟩::.int .i64 u.r.pr::(u.r.e1.cells u.A1 u.c1++(u.r.e2.cells u.A2 u.c2++u.r.e3.cells u.A3 u.c3)),u.r.e4.cells u.A4 u.c4,[],rfl,rfl,rfl,fun x A c=>rfl⟩
theorem kids_k {u:Rn}{w:World}{S:Nat→Prop}{d:Nat}(h:u.kids w S d) {k:Nat}(hk:k<4) {x:Ex}{A:Option Addr}(hx:ExL w S d A x.l) (c:Nat):(u.setk k x A c).kids w S d:=by
 rcases four hk with rfl|rfl|rfl|rfl
 ·exact⟨hx,h.k2,h.k3,h.k4⟩
 ·exact⟨h.k1,hx,h.k3,h.k4⟩
 ·exact⟨h.k1,h.k2,hx,h.k4⟩
 ·exact⟨h.k1,h.k2,h.k3,hx⟩
theorem setk_nm (u:Rn) {k:Nat}(hk:k<4) (x:Ex) (A:Option Addr) (c:Nat):(u.setk k x A c).r.nm=u.r.nm∧(u.setk k x A c).r.pr=u.r.pr:=by
 rcases four hk with rfl|rfl|rfl|rfl<;>exact⟨rfl,rfl⟩
def ptrs (bu:Nat):Array Value:=#[.pointer (some ⟨bu,2,none⟩),.pointer (some ⟨bu,9,none⟩),.pointer (some ⟨bu,16,none⟩),.pointer (some ⟨bu,23,none⟩)]
theorem ptrs_at {w:World}{bp bu:Nat}(h:w.heap[bp]?=some (.cells (ptrs bu) 112 (0,0))) {k:Nat}(hk:k<4):w.cell? ⟨bp,k,none⟩=some (.pointer (some ⟨bu,2+7*k,none⟩)):=by
 simp only[World.cell?,h]
 rcases four hk with rfl|rfl|rfl|rfl<;>rfl
structure PgSt (wr wk:World) (rb bu bp:Nat) (cur nm:List UInt8) (pr:Int) (m2:Option (List UInt8)) (k:Nat) (m:Option (List UInt8)) (u:Rn) (D:Nat):Prop where
 lr:rb<wr.heap.size
 lu:wr.heap.size≤bu
 lp:bu<bp
 hk:k≤4
 r:Wr.Rd wk rb m
 g:wr.grownBy wk (some rb)
 ub:RnB wk bu u
 p:wk.heap[bp]?=some (.cells (ptrs bu) 112 (0,0))
 kk:u.kids wk (fun k=>bu+1≤k∧k<wk.heap.size) D
 c:ChE u.r k m2 m
 n:u.r.nm=nm∧u.r.pr=pr
 l:(m.getD []).length≤cur.length
theorem PgSt.next {wr wk wm w':World}{rb bu bp:Nat}{cur nm:List UInt8}{pr:Int}{m2 m:Option (List UInt8)}{k:Nat}{u:Rn}{D d c:Nat}(h:PgSt wr wk rb bu bp cur nm pr m2 k m u D) (hk:k<4) {x:Ex}{A:Option Addr}{r:List UInt8}(hR:Wr.Rd wm rb (some r)) (g1:wk.grownBy wm (some rb)) (g2:wm.grownBy w' (some bu)) (hx:m.bind rdE=some (x,r))
  (hB:w'.heap[bu]?=some (.cells (u.setk k x A c).cells.toArray 49 (0,0))) (hX:ExL w' (fun k=>wk.heap.size≤k∧k<w'.heap.size) d A x.l):PgSt wr w' rb bu bp cur nm pr m2 (k+1) (some r) (u.setk k x A c) (D+d):=by
 have hlr:=h.lr
 have hlu:=h.lu
 have hlp:=h.lp
 have hub:=h.ub.lt
 have hbp:bp<wk.heap.size:=(zM.1 h.p).1
 have hcell :∀b,bu+1≤b∧b<wk.heap.size →∀o,w'.cell? ⟨b,o,none⟩=wk.cell? ⟨b,o,none⟩:=fun b hb o=>(grown_cell g2 (zG hb.2 g1.size) (by simp;omega) o).trans (grown_cell g1 hb.2 (by simp;omega) o)
 have hsz:wk.heap.size≤w'.heap.size:=zF g1.size g2.size
 refine⟨h.lr,h.lu,h.lp,hk,hR.own g2 (by simp;omega),grown_new (grown_trans h.g g1) h.lu g2,hB,?_,?_,h.c.next hk ⟨r,hx,rfl⟩ A c,?_,?_⟩
 ·exact(g2.block bp (zG hbp g1.size) (by simp;omega)).trans ((g1.block bp hbp (by simp;omega)).trans h.p)
 ·refine kids_k (((h.kk.keep hcell).more fun b hb=>⟨hb.1,zG hb.2 hsz⟩).deep (Nat.le_add_right _ _)) hk ((exl_low hX hub).deep (Nat.le_add_left _ _)) c
 ·obtain⟨e1,e2⟩:=setk_nm u hk x A c
  exact⟨e1.trans h.n.1,e2.trans h.n.2⟩
 ·cases m with
  | none=>cases hx
  | some l=>exact zF (Nat.le_of_lt (rdE_less (show rdE l=_ from hx))) h.l
end Go.Proofs.YtmiencglfhpmeaaGreatDoor
namespace Go.Proofs.YtmiencglfhpmeaaGreatDoor
open Go.RowKit Hach Num
theorem rn_setN {w:World}{b:Nat}{u:Rn}(nm:List UInt8) (v:Int) (h:RnB w b u):RnB ((w.setCell ⟨b,0,none⟩ (.string ⟨nm.toArray⟩)).setCell ⟨b,1,none⟩ (.int .i64 v)) b ⟨⟨nm,v,u.r.e1,u.r.e2,u.r.e3,u.r.e4⟩,u.A1,u.A2,u.A3,u.A4,u.c1,u.c2,u.c3,u.c4⟩∧w.grownBy ((w.setCell ⟨b,0,none⟩ (.string ⟨nm.toArray⟩)).setCell ⟨b,1,none⟩ (.int .i64 v)) (some b):=
 put_mid [.string ⟨nm.toArray⟩,.int .i64 v] [.string ⟨u.r.nm.toArray⟩,.int .i64 u.r.pr] [] (u.r.e1.cells u.A1 u.c1++(u.r.e2.cells u.A2 u.c2++(u.r.e3.cells u.A3 u.c3++u.r.e4.cells u.A4 u.c4))) w h rfl
set_option maxRecDepth 100000 in
set_option maxHeartbeats 4000000 in
theorem ParseL_any (s:List UInt8) (hs:s.length<4294967281) (w:World) (hT:Wr.Tabs w):Calls Tryz.prog 22 #[.string ⟨s.toArray⟩] w (ParseQL s w):=by
 have NW:=zN (Wr.new_any ⟨s.toArray⟩ w)
 obtain⟨S,hS⟩ :∃S:ByteArray,(⟨s.toArray⟩:ByteArray)=S:=⟨_,rfl⟩
 have hz:S.size=s.length:=by rw[←hS];exact Wr.toArr_size s
 have hSl:S.data.toList=s:=by rw[←hS]
 rw[hS,hSl]at NW
 rw[hS]
 clear hS hSl
 by_cases hbig:262144<s.length
 ·have t1:decide ((262144:Int)<(s.length:Int))=true:=by simp;omega
  have HP:Hid (parseL s=([],0,2)):=zN (by unfold parseL;rw[if_pos hbig])
  clear hbig NW
  go_enter Tryz.func22,Tryz.ntmps22
  go_wp2_with fail
  refine ret3 rfl rfl rfl rfl ?_
  unfold ParseQL
  rw[HP.out]
  exact⟨none,0,0,rfl,RlL.nil _ _ _ _,⟨zE _,by decide⟩,fun r hr=>(by cases hr),Ext.refl _⟩
 ·have t1:decide ((262144:Int)<(s.length:Int))=false:=by simp;omega
  have HP:=zN (parse_go (s:=s) (by omega))
  have hsl:s.length≤262144:=by omega
  have HTW:=zN hT
  clear hbig hT
  go_enter Tryz.func22,Tryz.ntmps22
  go_wp2_with fail
  refine NW.out.mono ?_
  rintro e w1 ⟨rfl,hR1,hE1⟩
  have HR1:=zN hR1
  have HE1:=zN hE1
  obtain⟨rb,hrb⟩ :∃b,w.heap.size=b:=⟨_,rfl⟩
  rw[hrb]at HR1
  have hlt1:rb<w1.heap.size:=HR1.out.lt
  have hrb4:4≤rb:=by rw[←hrb];exact(tabsE HTW.out).sz
  have HRB:=zN hrb
  rw[hrb]
  clear hR1 hE1 hrb NW
  go_wp2_with fail
  go_loopg [5] s.length (fun g ov wr =>∃(cur:List UInt8) (us:List Rn) (d:Nat),g=cur.length∧Hid (PpSt w1 wr rb s cur ov us d))
  case atStart=>exact⟨s,[],0,rfl,zN ⟨OwnR.nil _ _,HR1.out,grown_of (Ext.refl _) _,KidsR.nil _ _ _,rfl,by simp,fun u hu=>by cases hu⟩⟩
  case round=>
   obtain⟨cur,us,d,rfl,HS⟩:=hrel
   obtain⟨wo,hwo⟩ :∃q,q=wr:=⟨_,rfl⟩
   subst hwo
   obtain⟨A0,c0,hov,hf0⟩:=HS.out.o.form
   subst hov
   clear hf0
   have LF:=zN (Wr.left_any rb (some cur) wo HS.out.r)
   simp only[zI]at LF
   have HTR:Hid (Wr.Tabs wo):=zN ((HTW.out.ext HE1.out).grown HS.out.g hrb4)
   go_wp2_with fail
   refine LF.out.mono ?_
   rintro e wa ⟨rfl,hwa⟩
   obtain rfl:=hwa.symm
   clear LF
   by_cases hc0:cur=[]
   ·subst hc0
    have tc:decide (0<([]:List UInt8).length)=false:=rfl
    have hE:=ext_of_grown HE1.out HS.out.g (zD HRB.out)
    have hcap:=HS.out.o.cap
    have hsz:=HS.out.l
    have hg1:=HS.out.g.size
    have hlk:=(OwnR.list (S:=fun k=>w.heap.size≤k∧k<wo.heap.size) HS.out.o (HS.out.k.more fun b hb=>⟨by have:=hb.1;have:=HE1.out.sz;omega,hb.2.1⟩) (fun b h1 h2=>⟨by have:=HE1.out.sz;omega,h2⟩)).1
    have hl2:RlL wo (fun k=>w.heap.size≤k∧k<wo.heap.size) d A0 (us.map (·.r)):=(hlk.keep fun b hb o=>(Ext.refl wo).old (p:=⟨b,o,none⟩) hb.2).more fun b hb=>⟨hb.1,zG hb.2 (Ext.refl wo).sz⟩
    have CK:=zN (CheckL_any (us.map (·.r)) A0 c0 d wo (hl2.more fun b hb=>hb.2) (by rw[zA];omega) (by rw[zA];exact hcap.1) hcap.2 (fun r hr=>by
     obtain⟨u,hu,rfl⟩:=zB.1 hr
     exact(HS.out.ok u hu).1))
    have HAL:=zN (HS.out.all HP.out)
    have HFI:Hid (∀W,Ext wo W→ParseQL s w (.returned (.tuple #[.slice A0 us.length c0,.int .i64 0,.int .i64 0])) W∨True):=zN (fun W h=>.inr trivial)
    rw[zA]at CK
    have HL2:=zN hl2
    have HE2:=zN hE
    have HCAP:=zN hcap
    have HOK:Hid (∀r∈us.map (·.r),r.ok∧r.small):=zN (fun r hr=>by
     obtain⟨u,hu,rfl⟩:=zB.1 hr
     exact HS.out.ok u hu)
    have HLN:Hid ((us.map (·.r)).length=us.length):=zN (zA ..)
    obtain⟨L,hL⟩ :∃q,us.map (·.r)=q:=⟨_,rfl⟩
    rw[hL]at CK HAL HL2 HOK HLN
    obtain⟨er,her⟩ :∃q,chkL L=q:=⟨_,rfl⟩
    rw[her]at CK HAL
    clear hE hcap hsz hg1 hlk hl2 hL her HFI
    go_wp2_with fail
    refine CK.out.mono ?_
    rintro e w9 ⟨rfl,hE9⟩
    have HE9:=zN hE9
    clear hE9 CK
    by_cases e0:er=0
    ·subst e0
     go_wp2_with fail
     refine ret3 (a:=.slice A0 us.length c0) (b:=.int .i64 0) (c:=.int .i64 0) rfl rfl rfl rfl ?_
     unfold ParseQL
     rw[HAL.out,if_neg (by simp)]
     exact⟨A0,c0,d,congrArg (fun n=>Ending.returned (.tuple #[.slice A0 n c0,.int .i64 0,.int .i64 0])) HLN.out.symm,(HL2.out.keep fun b hb o=>HE9.out.old (p:=⟨b,o,none⟩) hb.2).more fun b hb=>⟨hb.1,zG hb.2 HE9.out.sz⟩,by rw[HLN.out];exact HCAP.out,HOK.out,HE2.out.trans HE9.out⟩
    ·have ye:(er != 0)=true:=by simpa using e0
     have HZ:=zN e0
     clear e0
     go_wp2_with fail
     refine ret3 rfl rfl rfl rfl ?_
     unfold ParseQL
     rw[HAL.out,if_pos HZ.out]
     exact⟨none,0,0,rfl,RlL.nil _ _ _ _,⟨zE _,by decide⟩,fun r hr=>(by cases hr),HE2.out.trans HE9.out⟩
   ·have tc:decide (0<cur.length)=true:=by
     have:=List.length_pos_iff.2 hc0
     simp;omega
    have HNE:=zN hc0
    have HLL:=zN HS.out.l
    have hcl:cur.length≤262144:=by have:=HS.out.l;omega
    clear hc0
    go_upto_region 7 with fail
    have hU2:RnB (wo.alloc (.cells zero30 49)) wo.heap.size (Rn.zero []):=Go.heap_alloc_new _ _
    have hE2:=Ext.alloc wo (.cells zero30 49)
    obtain⟨w2,hw2⟩ :∃q,wo.alloc (.cells zero30 49)=q:=⟨_,rfl⟩
    obtain⟨bu,hbu⟩ :∃q,wo.heap.size=q:=⟨_,rfl⟩
    rw[hw2,hbu]at hU2
    rw[hw2]at hE2
    have HBU:=zN hbu
    have hrbu:rb<bu:=by rw[←hbu];exact HS.out.r.lt
    have HE2:=zN hE2
    have HU2:=zN hU2
    unfold zero30 at hw2
    rw[hw2,hbu]
    have TX:=zN (Wr.text_any rb (some cur) w2 (HS.out.r.ext hE2) hrb4 (HTR.out.ext hE2) (by simp only[zI];omega))
    obtain⟨o1,ho1⟩ :∃o,rdText cur=o:=⟨_,rfl⟩
    rw[show(some cur).bind rdText=rdText cur from rfl,ho1]at TX
    unfold Wr.TextEnd at TX
    obtain⟨nm,hnm⟩ :∃q,(o1.map (·.1)).getD []=q:=⟨_,rfl⟩
    rw[hnm]at TX
    have hl1:((o1.map (·.2)).getD []).length≤cur.length:=by
     rw[←ho1]
     cases ht:rdText cur with
     | none=>simp
     | some q=>exact(rdText_len (show rdText cur=some (q.1,q.2) from ht)).2
    have HO1:=zN ho1
    have HNM:=zN hnm
    clear hw2 hbu hU2 hE2 ho1 hnm
    go_wp2_with fail
    refine TX.out.mono ?_
    rintro e w3 ⟨⟨rfl,hR3⟩,hg3⟩
    have HR3:=zN hR3
    have HG3:=zN hg3
    have HU3:=zN (HU2.out.own hg3 (by simp;omega))
    have IN:=zN (Wr.int_any rb _ w3 hR3 hrb4 ((HTR.out.ext HE2.out).grown hg3 hrb4) (by omega))
    obtain⟨o2,ho2⟩ :∃o,(o1.map (·.2)).bind rdInt=o:=⟨_,rfl⟩
    rw[ho2]at IN
    unfold Wr.IntEnd at IN
    obtain⟨pr,hpr⟩ :∃q,(o2.map (·.1)).getD 0=q:=⟨_,rfl⟩
    obtain⟨m2,hm2⟩ :∃q,o2.map (·.2)=q:=⟨_,rfl⟩
    rw[hpr,hm2]at IN
    have hl2:(m2.getD []).length≤cur.length:=by
     rw[←hm2,←ho2]
     cases hx:o1.map (·.2) with
     | none=>simp
     | some l=>
      rw[hx]at hl1
      cases ht:rdInt l with
      | none=>simp[ht]
      | some q=>
       have h1:l.length≤cur.length:=hl1
       have h2:=rdInt_less (show rdInt l=some (q.1,q.2) from ht)
       have e:((some l).bind rdInt).map (·.2)=some q.2:=by simp[ht]
       rw[e]
       show q.2.length≤cur.length
       omega
    have HRE:Hid (rdR cur=rest4 nm pr m2):=zN (by rw[rdR_rest HO1.out ho2,HNM.out,hpr,hm2])
    clear hR3 hg3 TX ho2 hpr hm2 HNM HO1 hl1
    go_wp2_with fail
    refine IN.out.mono ?_
    rintro e w4 ⟨⟨rfl,hR4⟩,hg4⟩
    have HU4:=zN (HU3.out.own hg4 (by simp;omega))
    have HR4:=zN hR4
    have HG4:=zN (grown_trans HG3.out hg4)
    have hc0:w4.cell? ⟨bu,0,none⟩=some (.string ⟨#[]⟩):=HU4.out.range 0 _ rfl
    have hc1:w4.cell? ⟨bu,1,none⟩=some (.int .i64 0):=HU4.out.range 1 _ rfl
    have hf0:=HU4.out.free 0
    have hf1:=HU4.out.free 1
    clear hR4 hg4 IN HU3 HR3 HU2 HG3
    go_upto_region 8 with fail
    have hsp:=rn_setN nm pr HU4.out
    obtain⟨w5,hw5⟩ :∃q,(w4.setCell ⟨bu,0,none⟩ (.string ⟨nm.toArray⟩)).setCell ⟨bu,1,none⟩ (.int .i64 pr)=q:=⟨_,rfl⟩
    rw[hw5]at hsp
    rw[hw5]
    have HU5:=zN hsp.1
    have HG5:=zN hsp.2
    clear hw5 hsp hc0 hc1 hf0 hf1
    go_wp2_with fail
    have hP0:PgSt wo (w5.alloc (.cells (ptrs bu) 112)) rb bu w5.heap.size cur nm pr m2 0 m2 ⟨⟨nm,pr,zeroE,zeroE,zeroE,zeroE⟩,none,none,none,none,0,0,0,0⟩ 0:=by
     have hE6:=Ext.alloc w5 (.cells (ptrs bu) 112)
     exact⟨HS.out.r.lt,zD HBU.out,HU5.out.lt,by omega,(HR4.out.own HG5.out (by simp;omega)).ext hE6,grown_trans (grown_new (grown_trans (grown_of HE2.out _) HG4.out) (zD HBU.out) HG5.out) (grown_of hE6 _),HU5.out.ext hE6,Go.heap_alloc_new _ _,⟨ExL.nil _ _ _ _,ExL.nil _ _ _ _,ExL.nil _ _ _ _,ExL.nil _ _ _ _⟩,rfl,⟨rfl,rfl⟩,hl2⟩
    obtain⟨w6,hw6⟩ :∃q,w5.alloc (.cells (ptrs bu) 112)=q:=⟨_,rfl⟩
    obtain⟨bp,hbp⟩ :∃q,w5.heap.size=q:=⟨_,rfl⟩
    rw[hw6,hbp]at hP0
    have HP0:=zN hP0
    unfold ptrs at hw6
    rw[hw6,hbp]
    clear hP0 hw6 hbp HG5 HU5 HU4 HR4 HG4 HE2 hl2
    go_loopg [31] 4 (fun g iv wk =>∃(k:Nat) (m:Option (List UInt8)) (u:Rn) (D:Nat),g=4-k∧iv=.int .i64 (k:Nat)∧Hid (PgSt wo wk rb bu bp cur nm pr m2 k m u D))
    case atStart=>exact⟨0,m2,_,0,rfl,rfl,HP0⟩
    case round=>
     obtain⟨k,m,u,D,rfl,hiv,HI⟩:=hrel
     subst hiv
     by_cases hk4:k<4
     ·have tk:decide ((k:Int)<4)=true:=by simp;omega
      have tk2:decide (k<4)=true:=by simpa using hk4
      have hpt:=ptrs_at HI.out.p hk4
      have hk0:(0:Int)≤k:=by omega
      have HPN:Hid (∀W,w1.grownBy W (some rb)→m.bind rdE=none→ParseQL s w (.returned (.tuple #[.slice none 0 0,.int .i64 ((us.length:Int)+1),.int .i64 4])) W):=zN (fun W hg hn=>HS.out.bad HP.out HNE.out (HRE.out.trans (HI.out.c.stop hk4 hn nm pr)) (ext_of_grown HE1.out hg (zD HRB.out)))
      have HWR:Hid (wrap64 ((us.length:Int)+1)=(us.length:Int)+1):=zN (by have:=HS.out.l;exact IntWalk.wrap64_in _ ⟨by omega,by omega⟩)
      obtain⟨pre,old,post,hcs,hpl,ho7,hset⟩:=cells_k u hk4
      have SR:=zN (sread_any rb bu (2+7*k) m wr HI.out.r hrb4 (HTR.out.grown HI.out.g hrb4) (by have:=HI.out.l;omega) pre old post 49 (by rw[←hcs];exact HI.out.ub) hpl ho7 (by have:=HI.out.lr;have:=HI.out.lu;omega))
      unfold nxt at SR
      have HSET:=zN hset
      clear hcs hpl ho7 hset
      go_wp2_with fail
      refine SR.out.mono ?_
      rintro e w7 ⟨bo,wm,rfl,hP⟩
      have HPR:=zN hP
      have HG7:Hid (w1.grownBy w7 (some rb)):=zN (grown_trans HS.out.g (grown_new (grown_trans HI.out.g hP.g1) HI.out.lu hP.g2))
      clear hP SR
      cases bo with
      | false=>
       go_wp2_with fail
       rw[HWR.out]
       exact ret3 rfl rfl rfl rfl (HPN.out _ HG7.out (HPR.out.no rfl))
      | true=>
       have BD:=zN (Wr.bad_any rb _ w7 (HPR.out.r.own HPR.out.g2 (by have:=HI.out.lr;have:=HI.out.lu;simp;omega)))
       cases hm:m.bind rdText with
       | none=>
        rw[hm]at BD
        have HM:=zN hm
        clear hm
        go_wp2_with fail
        refine BD.out.mono ?_
        rintro e w8 ⟨rfl,hw8⟩
        obtain rfl:=hw8.symm
        go_wp2_with fail
        rw[HWR.out]
        exact ret3 rfl rfl rfl rfl (HPN.out _ HG7.out (rdE_none HM.out))
       | some q=>
        rw[hm]at BD
        have HM:=zN hm
        clear hm
        go_wp2_with fail
        refine BD.out.mono ?_
        rintro e w8 ⟨rfl,hw8⟩
        obtain rfl:=hw8.symm
        obtain⟨x,A,c,d',r,hx,hB,hX⟩:=HPR.out.yes rfl (by rw[HM.out];simp)
        have hr':Wr.Rd wm rb (some r):=by
         have h1:=HPR.out.r
         rw[HM.out]at h1
         rw[rdE_some HM.out]at hx
         split at hx
         ·simp only[zK,Prod.mk.injEq]at hx
          obtain⟨_,rfl⟩:=hx
          exact h1
         ·cases hx
        have HNX:=zN (HI.out.next (c:=c) hk4 hr' HPR.out.g1 HPR.out.g2 hx (by rw[←HSET.out];exact hB) hX)
        clear hx hB hX hr' BD
        go_wp2_with fail
        go_roundg (4-(k+1))
        case measure=>omega
        case rel=>exact⟨k+1,some r,u.setk k x A c,D+d',rfl,by go_num,HNX⟩
     ·have tk:decide ((k:Int)<4)=false:=by simp;omega
      have tk2:decide (k<4)=false:=by simpa using hk4
      have hke:k=4:=by have:=HI.out.hk;omega
      subst hke
      obtain⟨r,rfl,hrest⟩:=HI.out.c.all
      have HRD2:Hid (rdR cur=some (u.r,r)):=zN (by
       rw[HRE.out,←HI.out.n.1,←HI.out.n.2];exact hrest)
      have hrx:=HI.out.ub.range
      unfold Rn.cells at hrx
      have HOWN:Hid (OwnR (wr.alloc (.cells u.cells.toArray 49)) w1.heap.size (.slice A0 us.length c0) us):=zN ((HS.out.o.keep HI.out.g (by by_cases e:(Value.slice A0 us.length c0).ownBlock=none;exact .inl e;exact .inr (fun h=>by have:=(HS.out.o.lt rb h).1;omega))).ext (Ext.alloc _ _))
      have HCG:Hid (∀(j:Nat) (t:Rn),[u][j]?=some t→(wr.alloc (.cells u.cells.toArray 49)).rangeAt wr.heap.size (0+j*30) t.cells):=zN (fun j t ht=>by
       match j,ht with
       | 0,ht=>simp only[List.getElem?_cons_zero,zK]at ht;subst ht;exact range_new wr u.cells _
       | j+1,ht=>simp at ht)
      have hu2:us.length+[u].length<4294967296:=by have:=HS.out.l;simp;omega
      have hb2:w1.heap.size≤(wr.alloc (.cells u.cells.toArray 49)).heap.size:=zF HS.out.g.size (zF HI.out.g.size (by simp))
      clear hrest
      go_wp2_with (first|(refine load_R rfl _ rfl bu 0 _ hrx rfl rfl ?_)|(at_builtin;refine app_R rfl 48 50 rfl w1.heap.size (.slice A0 us.length c0) us rfl HOWN.out wr.heap.size 0 1 [u] rfl HCG.out hu2 hb2 ?_;intro v' wz ho hgz hnz))
      have HE5:Ext wr (wr.alloc (.cells u.cells.toArray 49)):=Ext.alloc _ _
      have HKF:=(HI.out.kk.keep (w':=wr.alloc (.cells u.cells.toArray 49)) (fun b hb o=>HE5.old (p:=⟨b,o,none⟩) hb.2)).more (S':=fun k=>bu+1≤k∧k<(wr.alloc (.cells u.cells.toArray 49)).heap.size) (fun b hb=>⟨hb.1,zG hb.2 HE5.sz⟩)
      have HNX:=zN (HS.out.next (D:=d+D) hlt1 (grown_trans HI.out.g (grown_of HE5 _)) (HI.out.r.ext HE5) (Nat.le_add_right _ _) (HKF.deep (Nat.le_add_left _ _)) HI.out.lu HRD2.out hsl ho hgz hnz)
      clear HE5 HKF ho hgz hnz hrx HOWN HCG hu2 hb2
      go_roundg r.length
      case measure=>have:=rdR_less HRD2.out;omega
      case rel=>exact⟨r,us++[u],_,rfl,HNX⟩
end Go.Proofs.YtmiencglfhpmeaaGreatDoor
