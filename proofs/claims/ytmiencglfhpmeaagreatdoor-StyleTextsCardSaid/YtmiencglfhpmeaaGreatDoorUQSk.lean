/- How the reference reads an expression: the contract of its read. -/
import Derived.Test.YtmiencglfhpmeaaGreatDoorUQSs
import Derived.Test.YtmiencglfhpmeaaGreatDoorUQXy
import Derived.Test.YtmiencglfhpmeaaGreatDoorUQXt
import Derived.Test.YtmiencglfhpmeaaGreatDoorUQXp
import Derived.Test.YtmiencglfhpmeaaGreatDoorUQXq
import Derived.Test.YtmiencglfhpmeaaGreatDoorUQSe
import Derived.Deep.LoopGhost
import Derived.Test.YtmiencglfhpmeaaGreatDoorUQSq
import Derived.Test.YtmiencglfhpmeaaGreatDoorUQSh
open List renaming length_append → zA, length_cons → zB, length_eq_zero_iff → zC
open Nat renaming le_refl → zD, lt_of_lt_of_le → zE
open Option renaming map_some → zF, some.inj → zG, some.injEq → zH
open Array renaming getD_eq_getD_getElem? → zI, getElem?_eq_some_iff → zJ, getElem?_modify → zK
open Go.Lib renaming hid → zL
set_option linter.unusedSimpArgs false
set_option linter.unusedVariables false
namespace Go.Proofs.YtmiencglfhpmeaaGreatDoor
open Go.RowKit Hach Num
theorem read_fin {fn:Func}(hr:fn.results=#[.cell 2 47,.tmp 3]) {W:World}{b:Nat}{Q:Ending→World→Prop}(x:Ex) (A:Option Addr) (n c:Nat) (bo:Bool) (hn:n=x.l.length) (hB:InBlk W b x (.slice A n c)) {tmps:Array Value}(h2:tmps.getD 2 undef=.pointer (some ⟨b,0,none⟩)) (h3:tmps.getD 3 undef=.bool bo)
  (hQ:Q (.returned (.tuple #[.agg (x.cells A c).toArray,.bool bo])) W):bodyPost Tryz.prog fn Q Exit.ret ⟨tmps,[]⟩ W:=by
 obtain⟨c0,c1,c2,c3,c4,c5,c6⟩:=hB.cells
 refine bodyPost_ret (v:=.tuple #[.agg (x.cells A c).toArray,.bool bo]) ?_ rfl hQ
 subst hn
 rw[zI]at h2 h3
 simp only[results,hr]
 go_simp
 rfl
def RdV (l:Option (List UInt8)) (x:Ex) (bo:Bool):Prop:=(bo=true ∧∃r,l.bind rdE=some (x,r))∨(bo=false∧l.bind rdE=none)
def RdQ (b:Nat) (l:Option (List UInt8)) (w:World) (e:Ending) (w':World):Prop:=
 ∃(x:Ex) (A:Option Addr) (c d:Nat) (bo:Bool),e=.returned (.tuple #[.agg (x.cells A c).toArray,.bool bo])∧Wr.RR w' b ((l.bind rdText).map (·.2))∧RdV l x bo∧ExL w' (fun k=>w.heap.size≤k∧k<w'.heap.size) d A x.l∧w.grownBy w' (some b)
theorem rdE_none {l:Option (List UInt8)}(h:l.bind rdText=none):l.bind rdE=none:=by
 cases l with
 | none=>rfl
 | some l=>
  have h:rdText l=none:=h
  show rdE l=none
  unfold rdE;rw[h]
theorem rdE_some {l:Option (List UInt8)}{s r:List UInt8}(h:l.bind rdText=some (s,r)):l.bind rdE=if (parseE s).2=0∧chkE (parseE s).1=0∧txT (parseE s).1=s then some ((parseE s).1,r) else none:=by
 cases l with
 | none=>cases h
 | some l=>
  have h:rdText l=some (s,r):=h
  show rdE l=_
  unfold rdE;rw[h]
theorem rdText_len {l s r:List UInt8}(h:rdText l=some (s,r)):s.length≤l.length∧r.length≤l.length:=by
 obtain⟨_,h2⟩:=twinText.sole l s r h
 have:=congrArg List.length h2
 unfold wrText at this
 simp only[zA,zB]at this
 omega
theorem RR_len {w:World}{b:Nat}{l:List UInt8}(h:Wr.RR w b (some l)):l.length<4294967281:=by
 obtain⟨S,a,h1,h2,_,h3⟩:=h
 have:=congrArg List.length (h3 l rfl)
 rw[List.length_drop]at this
 omega
theorem parse_chk {s:List UInt8}(h:(parseE s).2=0):chkE (parseE s).1=0:=by
 unfold parseE at h ⊢
 by_cases h1:4096<s.length
 ·rw[if_pos h1]at h;cases h
 ·rw[if_neg h1]at h ⊢
  cases hr:readT s with
  | none=>rw[hr]at h;cases h
  | some e=>
   rw[hr]at h
   by_cases hc:chkE e=0
   ·show chkE (if chkE e=0 then(e,0) else(zeroE,chkE e)).1=0
    rw[if_pos hc];exact hc
   ·have h:(if chkE e=0 then(e,0) else(zeroE,chkE e)).2=0:=h
    rw[if_neg hc]at h;exact absurd h hc
theorem parse_zero {s:List UInt8}(h:(parseE s).2=0):(parseE s).1.ok∧(parseE s).1.size<1099511627776:=by
 obtain⟨h1,h2⟩:=chk_rt (parse_chk h)
 exact⟨rt_ok h1,by omega⟩
theorem exl_grow {w w':World}{lo d b:Nat}{A:Option Addr}{l:List Ex}(h:ExL w (fun k=>lo≤k∧k<w.heap.size) d A l) (hg:w.grownBy w' (some b)) (hb:b<lo):ExL w' (fun k=>lo≤k∧k<w'.heap.size) d A l:=
 (h.keep fun k hk o=>grown_cell hg hk.2 (by simp;omega) o).more fun k hk=>⟨hk.1,zE hk.2 hg.size⟩
theorem exl_low {w:World}{lo lo' d:Nat}{A:Option Addr}{l:List Ex}(h:ExL w (fun k=>lo≤k∧k<w.heap.size) d A l) (hl:lo'≤lo):ExL w (fun k=>lo'≤k∧k<w.heap.size) d A l:=h.more fun k hk=>⟨by omega,hk.2⟩
theorem exl_ext {w w':World}{lo d:Nat}{A:Option Addr}{l:List Ex}(h:ExL w (fun k=>lo≤k∧k<w.heap.size) d A l) (hE:Ext w w'):ExL w' (fun k=>lo≤k∧k<w'.heap.size) d A l:=
 (h.keep fun k hk o=>hE.old (p:=⟨k,o,none⟩) hk.2).more fun k hk=>⟨hk.1,zE hk.2 hE.sz⟩
set_option maxRecDepth 100000 in
set_option maxHeartbeats 4000000 in
theorem rread_any (b:Nat) (l:Option (List UInt8)) (w:World) (hR:Wr.RR w b l) :
  Calls Tryz.prog 64 #[.pointer (some ⟨b,0,none⟩)] w (RdQ b l w):=by
 have hbl:=hR.lt
 obtain⟨w0,hw0⟩ :∃w0,w.alloc (.cells zero7 47)=w0:=⟨_,rfl⟩
 have hZ:=Z7.new w
 rw[hw0]at hZ
 have hE0:Ext w w0:=by rw[←hw0];exact Ext.alloc _ _
 obtain⟨bz,hbz⟩ :∃b,w.heap.size=b:=⟨_,rfl⟩
 have HBZ:=zL hbz
 rw[hbz]at hZ hbl
 have TX:=zL (Wr.rtext_any b l w0 (hR.ext hE0))
 have HZ:=zL hZ
 have HE0:=zL hE0
 have HR:=zL hR
 unfold zero7 at hw0
 have HW0:=zL hw0
 clear hw0 hZ hE0 hR hbz
 go_enter Tryz.func64,Tryz.ntmps64
 go_upto_region 1 with fail
 rw[HW0.out,HBZ.out]
 go_wp2_with fail
 refine TX.out.mono ?_
 rintro e w1 ⟨⟨rfl,hR1⟩,hg1⟩
 have HZ1:=zL (HZ.out.own hg1 (by simp;omega))
 have HG1:=zL (grown_trans (grown_of HE0.out (some b)) hg1)
 have HR1:=zL hR1
 have RB:=zL (Wr.rbad_any b _ w1 hR1)
 clear hg1 hR1
 cases ho:l.bind rdText with
 | none=>
  have HO:=zL ho
  rw[ho]at RB HR1
  obtain⟨z0,z1,z2,z3,z4,z5,z6⟩:=HZ1.out.cells
  obtain⟨f0,f1,f2,f3,f4,f5,f6⟩:=HZ1.out.free
  clear ho
  go_wp2_with fail
  refine RB.out.mono ?_
  rintro e w2 ⟨rfl,rfl⟩
  go_wp2_with fail
  have hG:=set7_grown w2 bz zeroE (.slice none 0 0)
  exact read_fin (W:=set7 w2 bz zeroE (.slice none 0 0)) rfl zeroE none 0 0 false rfl (set7_in HZ1.out zeroE _) rfl rfl ⟨zeroE,none,0,0,false,rfl,by rw[HO.out];exact HR1.out.own hG (by simp;omega),.inr ⟨rfl,rdE_none HO.out⟩,ExL.nil _ _ _ _,grown_fresh HG1.out (by rw[HBZ.out];exact zD _) hG⟩
 | some p=>
  obtain⟨s,rest⟩:=p
  have HO:=zL ho
  have hsl:s.length<4294967296:=by
   cases l with
   | none=>cases ho
   | some ll=>
    have h1:=(rdText_len (show rdText ll=some (s,rest) from ho)).1
    have h2:=RR_len HR.out
    omega
  rw[ho]at RB HR1
  have PA:=zL (rparse_any s hsl w1)
  unfold ParseQ at PA
  have HRE:=zL (rdE_some ho)
  have HCZ:Hid ((parseE s).2=0→chkE (parseE s).1=0∧(parseE s).1.ok∧(parseE s).1.size<1099511627776):=zL (fun h=>⟨parse_chk h,parse_zero h⟩)
  obtain⟨y,hy⟩ :∃y,(parseE s).1=y:=⟨_,rfl⟩
  obtain⟨er,her⟩ :∃y,(parseE s).2=y:=⟨_,rfl⟩
  rw[hy,her]at PA HRE HCZ
  obtain⟨S,hS⟩ :∃S:ByteArray,(⟨s.toArray⟩:ByteArray)=S:=⟨_,rfl⟩
  have HSS:=zL hS
  rw[hS]at PA
  simp only[zF,Option.getD_some]
  rw[hS]
  clear ho hy her hS
  go_wp2_with fail
  refine RB.out.mono ?_
  rintro e w2 ⟨rfl,rfl⟩
  go_wp2_with fail
  refine PA.out.mono ?_
  rintro e w3 ⟨A,c,d,rfl,hX3,hE3⟩
  have HX3:=zL hX3
  have HE3:=zL hE3
  have HZ3:=zL (HZ1.out.ext hE3)
  unfold Ex.cells
  clear hX3 hE3
  by_cases e0:er=0
  ·subst e0
   obtain⟨hc0,hok,hsz⟩:=HCZ.out rfl
   go_upto_region 7 with fail
   obtain⟨w4,hw4⟩ :∃w4,w3.alloc (.cells (y.cells A c).toArray 47)=w4:=⟨_,rfl⟩
   have hE4:Ext w3 w4:=by rw[←hw4];exact Ext.alloc _ _
   have hr4:=range_new w3 (y.cells A c) 47
   rw[hw4]at hr4
   have TC:=zL (rTextC_any y d A c w4 (ExL.ext (HX3.out.more fun k hk=>hk.2) hE4) hsz hok)
   have HX4:=zL (exl_ext HX3.out hE4)
   unfold Ex.cells at hw4 hr4 TC
   unfold sv at TC
   have hlt3:w3.heap.size<w4.heap.size:=by rw[←hw4];simp
   have HW4:=zL hw4
   have HE4:=zL (HE3.out.trans hE4)
   have HZ4:=zL (HZ3.out.ext hE4)
   rw[HW4.out]
   obtain⟨D,hD⟩ :∃D:ByteArray,(⟨(txT y).toArray⟩:ByteArray)=D:=⟨_,rfl⟩
   have hq:=bs_eq2 (txT y) s D S hD HSS.out
   obtain⟨bo,hbo⟩ :∃q,decide (txT y=s)=q:=⟨_,rfl⟩
   rw[hbo]at hq
   rw[hD,hc0]at TC
   have HV:Hid (RdV l y bo):=zL (by
    by_cases hts:txT y=s
    ·rw[decide_eq_true hts]at hbo
     exact .inl ⟨hbo.symm,rest,by rw[HRE.out];simp[hc0,hts]⟩
    ·rw[decide_eq_false hts]at hbo
     exact .inr ⟨hbo.symm,by rw[HRE.out,if_neg (fun h=>hts h.2.2)]⟩)
   have HR4:Hid (∀W,Ext w4 W→W.rangeAt w3.heap.size 0 (y.cells A c)):=zL (fun W h=>range_ext hr4 hlt3 h)
   unfold Ex.cells at HR4
   clear hw4 hE4 hD hbo hok hsz hc0
   go_wp2_with (first|(refine load_E rfl _ rfl _ _ _ hr4 rfl rfl ?_))
   refine TC.out.mono ?_
   rintro e w5 ⟨rfl,hE5⟩
   have HE5:=zL (HE4.out.trans hE5)
   have HZ5:=zL (HZ4.out.ext hE5)
   have HX5:=zL (exl_ext HX4.out hE5)
   have hr5:=HR4.out w5 hE5
   obtain⟨z0,z1,z2,z3,z4,z5,z6⟩:=HZ5.out.cells
   obtain⟨f0,f1,f2,f3,f4,f5,f6⟩:=HZ5.out.free
   clear hr4 hE5 hlt3
   go_wp2_with (first|(refine load_E rfl _ rfl _ _ _ hr5 rfl rfl ?_))
   have hG:=set7_grown w5 bz y (.slice A y.l.length c)
   have hbw:bz<w2.heap.size:=HZ1.out.lt
   exact read_fin (W:=set7 w5 bz y (.slice A y.l.length c)) rfl y A y.l.length c bo rfl (set7_in HZ5.out y _) rfl rfl ⟨y,A,c,d,bo,rfl,by rw[HO.out];exact(HR1.out.ext HE5.out).own hG (by simp;omega),HV.out,exl_low (exl_grow HX5.out hG hbw) (by have:=HG1.out.size;rw[HBZ.out]at *;omega),grown_fresh (grown_trans HG1.out (grown_of HE5.out _)) (by rw[HBZ.out];exact zD _) hG⟩
  ·have ye:(er == 0)=false:=by rw[beq_eq_false_iff_ne];exact e0
   have HN:Hid (l.bind rdE=none):=zL (by rw[HRE.out,if_neg (fun h=>e0 h.1)])
   clear e0
   obtain⟨z0,z1,z2,z3,z4,z5,z6⟩:=HZ3.out.cells
   obtain⟨f0,f1,f2,f3,f4,f5,f6⟩:=HZ3.out.free
   go_upto_region 5 with fail
   obtain⟨w4,hw4⟩ :∃w4,w3.alloc (.cells #[.int .i64 y.op,.int .i64 y.var,.int .i64 y.ty,.int .i64 y.n,.bool y.b,.string ⟨y.s.toArray⟩,.slice A y.l.length c] 47)=w4:=⟨_,rfl⟩
   have hE4:Ext w3 w4:=by rw[←hw4];exact Ext.alloc _ _
   rw[hw4]
   have HZ4:=zL (HZ3.out.ext hE4)
   have HE4:=zL (HE3.out.trans hE4)
   clear z0 z1 z2 z3 z4 z5 z6 f0 f1 f2 f3 f4 f5 f6 hw4 hE4
   obtain⟨z0,z1,z2,z3,z4,z5,z6⟩:=HZ4.out.cells
   obtain⟨f0,f1,f2,f3,f4,f5,f6⟩:=HZ4.out.free
   go_wp2_with fail
   have hG:=set7_grown w4 bz zeroE (.slice none 0 0)
   exact read_fin (W:=set7 w4 bz zeroE (.slice none 0 0)) rfl zeroE none 0 0 false rfl (set7_in HZ4.out zeroE _) rfl rfl ⟨zeroE,none,0,0,false,rfl,by rw[HO.out];exact(HR1.out.ext HE4.out).own hG (by simp;omega),.inr ⟨rfl,HN.out⟩,ExL.nil _ _ _ _,grown_fresh (grown_trans HG1.out (grown_of HE4.out _)) (by rw[HBZ.out];exact zD _) hG⟩
end Go.Proofs.YtmiencglfhpmeaaGreatDoor
namespace Go.Proofs.YtmiencglfhpmeaaGreatDoor
open Go.RowKit Hach Num
theorem rdText_less {l s r:List UInt8}(h:rdText l=some (s,r)):r.length<l.length:=twinText.less h
theorem rdInt_less {l r:List UInt8}{v:Int}(h:rdInt l=some (v,r)):r.length<l.length:=twinInt.less h
theorem rdE_less {l r:List UInt8}{x:Ex}(h:rdE l=some (x,r)):r.length<l.length:=by
 unfold rdE at h
 cases ht:rdText l with
 | none=>rw[ht]at h;cases h
 | some p=>
  rw[ht]at h
  simp only at h
  split at h
  ·have:=rdText_less (s:=p.1) (r:=p.2) ht
   simp only[zH,Prod.mk.injEq]at h
   rw[←h.2];exact this
  ·cases h
structure RdParts (l:List UInt8) (u:Rl) (r:List UInt8) (l1 l2 l3 l4 l5:List UInt8):Prop where
 p1:rdText l=some (u.nm,l1)
 p2:rdInt l1=some (u.pr,l2)
 p3:rdE l2=some (u.e1,l3)
 p4:rdE l3=some (u.e2,l4)
 p5:rdE l4=some (u.e3,l5)
 p6:rdE l5=some (u.e4,r)
theorem rdR_of {l r l1 l2 l3 l4 l5:List UInt8}{u:Rl}(h:RdParts l u r l1 l2 l3 l4 l5):rdR l=some (u,r):=by
 obtain⟨h1,h2,h3,h4,h5,h6⟩:=h
 unfold rdR
 simp only[h1,h2,h3,h4,h5,h6]
theorem rdR_parts {l r:List UInt8}{u:Rl}(h:rdR l=some (u,r)) :∃l1 l2 l3 l4 l5,RdParts l u r l1 l2 l3 l4 l5:=by
 unfold rdR at h
 cases h1:rdText l with
 | none=>rw[h1]at h;cases h
 | some a=>
  rw[h1]at h;simp only at h
  cases h2:rdInt a.2 with
  | none=>rw[h2]at h;cases h
  | some b=>
   rw[h2]at h;simp only at h
   cases h3:rdE b.2 with
   | none=>rw[h3]at h;cases h
   | some c=>
    rw[h3]at h;simp only at h
    cases h4:rdE c.2 with
    | none=>rw[h4]at h;cases h
    | some d=>
     rw[h4]at h;simp only at h
     cases h5:rdE d.2 with
     | none=>rw[h5]at h;cases h
     | some e=>
      rw[h5]at h;simp only at h
      cases h6:rdE e.2 with
      | none=>rw[h6]at h;cases h
      | some f=>
       rw[h6]at h
       simp only[zH,Prod.mk.injEq]at h
       obtain⟨rfl,rfl⟩:=h
       exact⟨_,_,_,_,_,h1,h2,h3,h4,h5,h6⟩
theorem rdR_less {l r:List UInt8}{u:Rl}(h:rdR l=some (u,r)):r.length<l.length:=by
 obtain⟨l1,l2,l3,l4,l5,h1,h2,h3,h4,h5,h6⟩:=rdR_parts h
 have:=rdText_less h1
 have:=rdInt_less h2
 have:=rdE_less h3
 have:=rdE_less h4
 have:=rdE_less h5
 have:=rdE_less h6
 omega
theorem rdRs_fuel :∀(n:Nat) (l:List UInt8) (k:Nat) (acc:List Rl),l.length≤n→l.length≤k→rdRs k acc l=rdRs l.length acc l
 | 0,l,k,acc,hn,_=>by
  obtain rfl:l=[]:=zC.1 (by omega)
  cases k<;>rfl
 | n+1,[],k,acc,_,_=>by cases k<;>rfl
 | n+1,c::q,k,acc,hn,hk=>by
  rw[zB]at hn hk
  obtain⟨k',rfl⟩ :∃k',k=k'+1:=⟨k-1,by omega⟩
  rw[zB,rdRs,rdRs]
  cases h:rdR (c::q) with
  | none=>rfl
  | some p=>
   have:=rdR_less (u:=p.1) (r:=p.2) h
   rw[zB]at this
   show rdRs k' (acc++[p.1]) p.2=rdRs q.length (acc++[p.1]) p.2
   rw[rdRs_fuel n p.2 k' _ (by omega) (by omega),rdRs_fuel n p.2 q.length _ (by omega) (by omega)]
def goRs (acc:List Rl) (l:List UInt8):Got:=rdRs l.length acc l
theorem goRs_nil (acc:List Rl):goRs acc []=.all acc:=rfl
theorem goRs_some {acc:List Rl}{l r:List UInt8}{u:Rl}(h:rdR l=some (u,r)):goRs acc l=goRs (acc++[u]) r:=by
 unfold goRs
 have hl:=rdR_less h
 cases l with
 | nil=>simp at hl
 | cons c q=>
  rw[zB]at hl
  rw[zB,rdRs,h]
  exact rdRs_fuel q.length r q.length _ (by omega) (by omega)
theorem goRs_none {acc:List Rl}{l:List UInt8}(hl:l≠[]) (h:rdR l=none):goRs acc l=.bad (acc.length+1):=by
 unfold goRs
 cases l with
 | nil=>exact absurd rfl hl
 | cons c q=>rw[zB,rdRs,h]
theorem parse_go {s:List UInt8}(h:s.length≤262144):parseL s=parseG (goRs [] s):=by
 unfold parseL goRs;rw[if_neg (by omega)]
theorem rdR_yes {l:List UInt8}{nm:List UInt8}{pr:Int}{x1 x2 x3 x4:Ex}{b1 b2 b3 b4:Bool}{o1:Option (List UInt8×List UInt8)}{o2:Option (Int×List UInt8)}{m2 m3 m4 m5:Option (List UInt8)}
  (ho1:rdText l=o1) (ho2:(o1.map (·.2)).bind rdInt=o2) (e2:m2=o2.map (·.2)) (e3:m3=(m2.bind rdText).map (·.2)) (e4:m4=(m3.bind rdText).map (·.2)) (e5:m5=(m4.bind rdText).map (·.2))
  (hn:nm=(o1.map (·.1)).getD []) (hp:pr=(o2.map (·.1)).getD 0) (v1:RdV m2 x1 b1) (v2:RdV m3 x2 b2) (v3:RdV m4 x3 b3) (v4:RdV m5 x4 b4) :
  (b1=true∧b2=true∧b3=true∧b4=true ∧∃r,(m5.bind rdText).map (·.2)=some r∧rdR l=some (⟨nm,pr,x1,x2,x3,x4⟩,r))∨((b1=false∨b2=false∨b3=false∨b4=false)∧rdR l=none):=by
 have nx :∀ {m:Option (List UInt8)}{x:Ex}{r:List UInt8},m.bind rdE=some (x,r) →∃q,m=some q∧rdE q=some (x,r)∧(m.bind rdText).map (·.2)=some r:=fun {m x r} h=>by
  cases m with
  | none=>cases h
  | some q=>
   refine⟨q,rfl,h,?_⟩
   have h:rdE q=some (x,r):=h
   show(rdText q).map (·.2)=some r
   unfold rdE at h
   cases ht:rdText q with
   | none=>rw[ht]at h;cases h
   | some p=>
    rw[ht]at h
    simp only at h
    split at h
    ·simp only[zH,Prod.mk.injEq]at h
     show some p.2=some r
     rw[h.2]
    ·cases h
 by_cases hall:b1=true∧b2=true∧b3=true∧b4=true
 ·obtain⟨rfl,rfl,rfl,rfl⟩:=hall
  obtain⟨_,r1,h1⟩|⟨h,_⟩:=v1
  rotate_left
  ·cases h
  obtain⟨_,r2,h2⟩|⟨h,_⟩:=v2
  rotate_left
  ·cases h
  obtain⟨_,r3,h3⟩|⟨h,_⟩:=v3
  rotate_left
  ·cases h
  obtain⟨_,r4,h4⟩|⟨h,_⟩:=v4
  rotate_left
  ·cases h
  obtain⟨q1,a1,c1,d1⟩:=nx h1
  obtain⟨q2,a2,c2,d2⟩:=nx h2
  obtain⟨q3,a3,c3,d3⟩:=nx h3
  obtain⟨q4,a4,c4,d4⟩:=nx h4
  refine .inl ⟨rfl,rfl,rfl,rfl,r4,d4,?_⟩
  obtain rfl:q2=r1:=by rw[a2,d1]at e3;exact zG e3
  obtain rfl:q3=r2:=by rw[a3,d2]at e4;exact zG e4
  obtain rfl:q4=r3:=by rw[a4,d3]at e5;exact zG e5
  rw[a1]at e2
  cases o2 with
  | none=>cases e2
  | some p2=>
   cases o1 with
   | none=>cases ho2
   | some p1=>
    obtain rfl:q1=p2.2:=zG e2
    subst hn hp
    exact rdR_of ⟨ho1,ho2,c1,c2,c3,c4⟩
 ·refine .inr ⟨by
   cases b1<;>cases b2<;>cases b3<;>cases b4<;>simp_all,?_⟩
  cases hr:rdR l with
  | none=>rfl
  | some p=>
   exfalso
   obtain⟨l1,l2,l3,l4,l5,g1,g2,g3,g4,g5,g6⟩:=rdR_parts (u:=p.1) (r:=p.2) hr
   have tx :∀ {q:List UInt8}{x:Ex}{r:List UInt8},rdE q=some (x,r)→(rdText q).map (·.2)=some r:=fun {q x r} h=>by
    obtain⟨q',hq',_,h3⟩:=nx (m:=some q) h
    exact h3
   rw[g1]at ho1
   subst ho1
   have ho2:rdInt l1=o2:=ho2
   rw[g2]at ho2
   subst ho2
   have e2:m2=some l2:=e2
   subst e2
   have e3:m3=(rdText l2).map (·.2):=e3
   rw[tx g3]at e3
   subst e3
   have e4:m4=(rdText l3).map (·.2):=e4
   rw[tx g4]at e4
   subst e4
   have e5:m5=(rdText l4).map (·.2):=e5
   rw[tx g5]at e5
   subst e5
   have y :∀ {q:List UInt8}{x z:Ex}{r:List UInt8}{bo:Bool},RdV (some q) x bo→rdE q=some (z,r)→bo=true:=fun {q x z r bo} v h=>by
    obtain⟨h1,_⟩|⟨_,h2⟩:=v
    ·exact h1
    ·rw[show(some q).bind rdE=rdE q from rfl,h]at h2;cases h2
   exact hall ⟨y v1 g3,y v2 g4,y v3 g5,y v4 g6⟩
theorem put_mid {T:TypeId}{b:Nat}:∀(new old pre post:List Value) (w:World),w.heap[b]?=some (.cells (pre++(old++post)).toArray T (0,0))→old.length=new.length →
  (w.setCells b pre.length new).heap[b]?=some (.cells (pre++(new++post)).toArray T (0,0))∧w.grownBy (w.setCells b pre.length new) (some b)
 | [],old,pre,post,w,h,hl=>by
  obtain rfl:old=[]:=zC.1 (by simpa using hl)
  exact⟨h,grown_of (Ext.refl _) _⟩
 | v::new,[],pre,post,w,h,hl=>by simp at hl
 | v::new,o::old,pre,post,w,h,hl=>by
  have h1:(w.setCell ⟨b,pre.length,none⟩ v).heap[b]?=some (.cells ((pre++[v])++(old++post)).toArray T (0,0)):=by
   simp only[World.setCell,zK,if_pos,h,zF]
   simp
  have ih:=put_mid new old (pre++[v]) post (w.setCell ⟨b,pre.length,none⟩ v) h1 (by simpa using hl)
  rw[zA,List.length_singleton]at ih
  rw[World.setCells]
  refine⟨?_,grown_trans (grown_set w b pre.length v) ih.2⟩
  have:=ih.1
  simpa using this
theorem store_E {ops:Array Oper}{rest:List Oper}{op:Oper}{a:Act}{w:World}{Q:Exit→Act→World→Prop}(b o:Nat) (pre old post cs:List Value) (T:TypeId) (h:w.heap[b]?=some (.cells (pre++(old++post)).toArray T (0,0))) (ho:pre.length=o) (h7:old.length=7) (hc:cs.length=7) (h1 :∀v∈cs,v.oneCell'=true)
  (hgd:op.guard=none) (x y:Operand) (hop:op.op=.store 47 x y) (hx:a.eval x=.pointer (some ⟨b,o,none⟩)) (hy:a.eval y=.agg cs.toArray)
  (hk:wpList Tryz.prog ops Q rest (a.put op.dst undef) (w.setCells b o cs)):wpList Tryz.prog ops Q (op::rest) a w:=by
 subst ho
 obtain⟨i0,hi,_,hz1,_⟩:=info_parts infoE
 refine wpList_store_mid hgd 47 x y hop b pre.length cs.toArray hx hy (fun j hj=>?_) (by rw[hi];simp[hz1,hc]) (all_oneCell_toArray h1) hk
 have hj7:j<7:=by rw[←hc];simpa using hj
 refine⟨?_,by simp[World.frozen?,h]⟩
 have:(pre++(old++post))[pre.length+j]?=some old[j]:=by
  rw[List.getElem?_append_right (by omega),Nat.add_sub_cancel_left,List.getElem?_append_left (by omega),List.getElem?_eq_getElem (by omega)]
 simp[World.cell?,h,this]
end Go.Proofs.YtmiencglfhpmeaaGreatDoor
namespace Go.Proofs.YtmiencglfhpmeaaGreatDoor
open Go.RowKit Hach Num
def Rn.zero (nm:List UInt8):Rn:=⟨⟨nm,0,zeroE,zeroE,zeroE,zeroE⟩,none,none,none,none,0,0,0,0⟩
def Rn.setP (u:Rn) (v:Int):Rn:=⟨⟨u.r.nm,v,u.r.e1,u.r.e2,u.r.e3,u.r.e4⟩,u.A1,u.A2,u.A3,u.A4,u.c1,u.c2,u.c3,u.c4⟩
def Rn.set1 (u:Rn) (x:Ex) (A:Option Addr) (c:Nat):Rn:=⟨⟨u.r.nm,u.r.pr,x,u.r.e2,u.r.e3,u.r.e4⟩,A,u.A2,u.A3,u.A4,c,u.c2,u.c3,u.c4⟩
def Rn.set2 (u:Rn) (x:Ex) (A:Option Addr) (c:Nat):Rn:=⟨⟨u.r.nm,u.r.pr,u.r.e1,x,u.r.e3,u.r.e4⟩,u.A1,A,u.A3,u.A4,u.c1,c,u.c3,u.c4⟩
def Rn.set3 (u:Rn) (x:Ex) (A:Option Addr) (c:Nat):Rn:=⟨⟨u.r.nm,u.r.pr,u.r.e1,u.r.e2,x,u.r.e4⟩,u.A1,u.A2,A,u.A4,u.c1,u.c2,c,u.c4⟩
def Rn.set4 (u:Rn) (x:Ex) (A:Option Addr) (c:Nat):Rn:=⟨⟨u.r.nm,u.r.pr,u.r.e1,u.r.e2,u.r.e3,x⟩,u.A1,u.A2,u.A3,A,u.c1,u.c2,u.c3,c⟩
theorem rn_setP {w:World}{b:Nat}{u:Rn}(h:RnB w b u) (v:Int):RnB (w.setCell ⟨b,1,none⟩ (.int .i64 v)) b (u.setP v)∧w.grownBy (w.setCell ⟨b,1,none⟩ (.int .i64 v)) (some b):=
 put_mid [.int .i64 v] [.int .i64 u.r.pr] [.string ⟨u.r.nm.toArray⟩] (u.r.e1.cells u.A1 u.c1++(u.r.e2.cells u.A2 u.c2++(u.r.e3.cells u.A3 u.c3++u.r.e4.cells u.A4 u.c4))) w h rfl
theorem ex_one (x:Ex) (A:Option Addr) (c:Nat) :∀v∈x.cells A c,v.oneCell'=true:=by
 intro v hv
 simp only[Ex.cells,List.mem_cons,List.mem_nil_iff,or_false]at hv
 rcases hv with rfl|rfl|rfl|rfl|rfl|rfl|rfl<;>rfl
theorem rn_facts1 {w:World}{b:Nat}{u:Rn}(h:RnB w b u):w.cell? ⟨b,1,none⟩=some (.int .i64 u.r.pr):=h.range 1 _ rfl
variable {ops:Array Oper}{rest:List Oper}{op:Oper}{a:Act}{w:World}{Q:Exit→Act→World→Prop}
theorem store_1 (b:Nat) (u:Rn) (y:Ex) (A:Option Addr) (c:Nat) (h:RnB w b u) (hgd:op.guard=none) (x z:Operand) (hop:op.op=.store 47 x z) (hx:a.eval x=.pointer (some ⟨b,2,none⟩)) (hy:a.eval z=.agg (y.cells A c).toArray)
  (hk :∀w',RnB w' b (u.set1 y A c)→w.grownBy w' (some b)→wpList Tryz.prog ops Q rest (a.put op.dst undef) w'):wpList Tryz.prog ops Q (op::rest) a w:=by
 have hp:=put_mid (y.cells A c) (u.r.e1.cells u.A1 u.c1) [.string ⟨u.r.nm.toArray⟩,.int .i64 u.r.pr] (u.r.e2.cells u.A2 u.c2++(u.r.e3.cells u.A3 u.c3++u.r.e4.cells u.A4 u.c4)) w h rfl
 exact store_E b 2 [.string ⟨u.r.nm.toArray⟩,.int .i64 u.r.pr] (u.r.e1.cells u.A1 u.c1) (u.r.e2.cells u.A2 u.c2++(u.r.e3.cells u.A3 u.c3++u.r.e4.cells u.A4 u.c4)) (y.cells A c) 49 h rfl rfl rfl (ex_one y A c) hgd x z hop hx hy (hk _ hp.1 hp.2)
theorem store_2 (b:Nat) (u:Rn) (y:Ex) (A:Option Addr) (c:Nat) (h:RnB w b u) (hgd:op.guard=none) (x z:Operand) (hop:op.op=.store 47 x z) (hx:a.eval x=.pointer (some ⟨b,9,none⟩)) (hy:a.eval z=.agg (y.cells A c).toArray)
  (hk :∀w',RnB w' b (u.set2 y A c)→w.grownBy w' (some b)→wpList Tryz.prog ops Q rest (a.put op.dst undef) w'):wpList Tryz.prog ops Q (op::rest) a w:=by
 have hp:=put_mid (y.cells A c) (u.r.e2.cells u.A2 u.c2) (.string ⟨u.r.nm.toArray⟩::.int .i64 u.r.pr::u.r.e1.cells u.A1 u.c1) (u.r.e3.cells u.A3 u.c3++u.r.e4.cells u.A4 u.c4) w h rfl
 exact store_E b 9 (.string ⟨u.r.nm.toArray⟩::.int .i64 u.r.pr::u.r.e1.cells u.A1 u.c1) (u.r.e2.cells u.A2 u.c2) (u.r.e3.cells u.A3 u.c3++u.r.e4.cells u.A4 u.c4) (y.cells A c) 49 h rfl rfl rfl (ex_one y A c) hgd x z hop hx hy (hk _ hp.1 hp.2)
theorem store_3 (b:Nat) (u:Rn) (y:Ex) (A:Option Addr) (c:Nat) (h:RnB w b u) (hgd:op.guard=none) (x z:Operand) (hop:op.op=.store 47 x z) (hx:a.eval x=.pointer (some ⟨b,16,none⟩)) (hy:a.eval z=.agg (y.cells A c).toArray)
  (hk :∀w',RnB w' b (u.set3 y A c)→w.grownBy w' (some b)→wpList Tryz.prog ops Q rest (a.put op.dst undef) w'):wpList Tryz.prog ops Q (op::rest) a w:=by
 have hp:=put_mid (y.cells A c) (u.r.e3.cells u.A3 u.c3) (.string ⟨u.r.nm.toArray⟩::.int .i64 u.r.pr::(u.r.e1.cells u.A1 u.c1++u.r.e2.cells u.A2 u.c2)) (u.r.e4.cells u.A4 u.c4) w h rfl
 exact store_E b 16 (.string ⟨u.r.nm.toArray⟩::.int .i64 u.r.pr::(u.r.e1.cells u.A1 u.c1++u.r.e2.cells u.A2 u.c2)) (u.r.e3.cells u.A3 u.c3) (u.r.e4.cells u.A4 u.c4) (y.cells A c) 49 h rfl rfl rfl (ex_one y A c) hgd x z hop hx hy (hk _ hp.1 hp.2)
theorem store_4 (b:Nat) (u:Rn) (y:Ex) (A:Option Addr) (c:Nat) (h:RnB w b u) (hgd:op.guard=none) (x z:Operand) (hop:op.op=.store 47 x z) (hx:a.eval x=.pointer (some ⟨b,23,none⟩)) (hy:a.eval z=.agg (y.cells A c).toArray)
  (hk :∀w',RnB w' b (u.set4 y A c)→w.grownBy w' (some b)→wpList Tryz.prog ops Q rest (a.put op.dst undef) w'):wpList Tryz.prog ops Q (op::rest) a w:=by
 have hp:=put_mid (y.cells A c) (u.r.e4.cells u.A4 u.c4) (.string ⟨u.r.nm.toArray⟩::.int .i64 u.r.pr::(u.r.e1.cells u.A1 u.c1++(u.r.e2.cells u.A2 u.c2++u.r.e3.cells u.A3 u.c3))) [] w h rfl
 exact store_E b 23 (.string ⟨u.r.nm.toArray⟩::.int .i64 u.r.pr::(u.r.e1.cells u.A1 u.c1++(u.r.e2.cells u.A2 u.c2++u.r.e3.cells u.A3 u.c3))) (u.r.e4.cells u.A4 u.c4) [] (y.cells A c) 49 h rfl rfl rfl (ex_one y A c) hgd x z hop hx hy (hk _ hp.1 hp.2)
structure Eb where
 b:Nat
 x:Ex
 A:Option Addr
 c:Nat
 d:Nat
structure EbOk (bu:Nat) (w:World) (p:Eb):Prop where
 lo:bu<p.b
 blk:w.heap[p.b]?=some (.cells (p.x.cells p.A p.c).toArray 47 (0,0))
 kids:ExL w (fun k=>bu+1≤k∧k<w.heap.size) p.d p.A p.x.l
theorem EbOk.lt {bu:Nat}{w:World}{p:Eb}(h:EbOk bu w p):p.b<w.heap.size:=(zJ.1 h.blk).1
theorem EbOk.own {bu r:Nat}{w w':World}{p:Eb}(h:EbOk bu w p) (hg:w.grownBy w' (some r)) (hr:r≤bu):EbOk bu w' p:=
 ⟨h.lo,(hg.block p.b h.lt (by have:=h.lo;simp;omega)).trans h.blk,exl_grow h.kids hg (by omega)⟩
theorem EbOk.ext {bu:Nat}{w w':World}{p:Eb}(h:EbOk bu w p) (hE:Ext w w'):EbOk bu w' p:=
 ⟨h.lo,(hE.below.block p.b h.lt).trans h.blk,exl_ext h.kids hE⟩
theorem EbOk.range {bu:Nat}{w:World}{p:Eb}(h:EbOk bu w p):w.rangeAt p.b 0 (p.x.cells p.A p.c):=fun j v hv=>by
 simpa[World.cell?,h.blk]using hv
theorem EbOk.new {bu:Nat}{w:World}{x:Ex}{A:Option Addr}{c d:Nat}(hb:bu<w.heap.size) (hX:ExL w (fun k=>bu+1≤k∧k<w.heap.size) d A x.l):EbOk bu (w.alloc (.cells (x.cells A c).toArray 47)) ⟨w.heap.size,x,A,c,d⟩:=
 ⟨hb,Go.heap_alloc_new _ _,exl_ext hX (Ext.alloc _ _)⟩
structure PdSt (wr wk:World) (rb bu:Nat) (m:Option (List UInt8)) (u:Rn) (es:List Eb):Prop where
 lr:rb<wr.heap.size
 lu:wr.heap.size≤bu
 r:Wr.RR wk rb m
 g:wr.grownBy wk (some rb)
 u:RnB wk bu u
 e :∀p∈es,EbOk bu wk p
theorem PdSt.start {wr w2:World}{rb:Nat}{m:Option (List UInt8)}(nm:List UInt8) (lr:rb<wr.heap.size) (r:Wr.RR w2 rb m) (g:wr.grownBy w2 (some rb)):PdSt wr (w2.alloc (.cells (Rn.zero nm).cells.toArray 49)) rb w2.heap.size m (Rn.zero nm) []:=
 ⟨lr,g.size,r.ext (Ext.alloc _ _),grown_trans g (grown_of (Ext.alloc _ _) _),RnB.new _ _,fun p hp=>by cases hp⟩
theorem PdSt.int {wr wk w':World}{rb bu:Nat}{m m':Option (List UInt8)}{u:Rn}{es:List Eb}(h:PdSt wr wk rb bu m u es) (r:Wr.RR w' rb m') (g:wk.grownBy w' (some rb)):PdSt wr w' rb bu m' u es:=
 ⟨h.lr,h.lu,r,grown_trans h.g g,h.u.own g (by have:=h.lr;have:=h.lu;simp;omega),fun p hp=>(h.e p hp).own g (by have:=h.lr;have:=h.lu;omega)⟩
theorem PdSt.put {wr wk w':World}{rb bu:Nat}{m:Option (List UInt8)}{u u':Rn}{es:List Eb}(h:PdSt wr wk rb bu m u es) (hu:RnB w' bu u') (g:wk.grownBy w' (some bu)):PdSt wr w' rb bu m u' es:=
 ⟨h.lr,h.lu,h.r.own g (by have:=h.lr;have:=h.lu;simp;omega),grown_new h.g h.lu g,hu,fun p hp=>(h.e p hp).own g (zD _)⟩
theorem PdSt.rd {wr wk w':World}{rb bu d:Nat}{m m':Option (List UInt8)}{u:Rn}{es:List Eb}{x:Ex}{A:Option Addr}(h:PdSt wr wk rb bu m u es) (r:Wr.RR w' rb m') (hX:ExL w' (fun k=>wk.heap.size≤k∧k<w'.heap.size) d A x.l) (g:wk.grownBy w' (some rb)) (c:Nat) :
  PdSt wr (w'.alloc (.cells (x.cells A c).toArray 47)) rb bu m' u (es++[⟨w'.heap.size,x,A,c,d⟩]):=by
 have h1:=h.int r g
 have hl:=h.u.lt
 refine⟨h.lr,h.lu,r.ext (Ext.alloc _ _),grown_trans h1.g (grown_of (Ext.alloc _ _) _),h1.u.ext (Ext.alloc _ _),fun p hp=>?_⟩
 rcases List.mem_append.1 hp with hp|hp
 ·exact(h1.e p hp).ext (Ext.alloc _ _)
 ·rw[List.mem_singleton.1 hp]
  exact EbOk.new (zE hl g.size) (exl_low hX hl)
theorem PdSt.ext {wr wk w':World}{rb bu:Nat}{m:Option (List UInt8)}{u:Rn}{es:List Eb}(h:PdSt wr wk rb bu m u es) (hE:Ext wk w'):PdSt wr w' rb bu m u es:=
 ⟨h.lr,h.lu,h.r.ext hE,grown_trans h.g (grown_of hE _),h.u.ext hE,fun p hp=>(h.e p hp).ext hE⟩
end Go.Proofs.YtmiencglfhpmeaaGreatDoor
namespace Go.Proofs.YtmiencglfhpmeaaGreatDoor
open Go.RowKit Hach
def Lk_row (x:Int×Int×Int):Array Value:=#[.int .i64 x.1,.int .i64 x.2.1,.int .i64 x.2.2]
def Lk_zero:Array Value:=#[.int .i64 0,.int .i64 0,.int .i64 0]
def LkB (w:World) (b:Nat) (x:Int×Int×Int):Prop:=w.heap[b]?=some (.cells (Lk_row x) 39 (0,0))
def LkZ (w:World) (b:Nat):Prop:=w.heap[b]?=some (.cells Lk_zero 39 (0,0))
theorem LkB.lt {w:World}{b:Nat}{x:Int×Int×Int}(h:LkB w b x):b<w.heap.size:=(zJ.1 h).1
theorem LkB.ext {w w':World}{b:Nat}{x:Int×Int×Int}(h:LkB w b x) (hE:Ext w w'):LkB w' b x:=(hE.below.block b h.lt).trans h
theorem LkB.own {w w':World}{b:Nat}{x:Int×Int×Int}{r:Option Nat}(h:LkB w b x) (hg:w.grownBy w' r) (hb:some b≠r):LkB w' b x:=(hg.block b h.lt hb).trans h
theorem LkB.new (w:World) (x:Int×Int×Int):LkB (w.alloc (.cells (Lk_row x) 39)) w.heap.size x:=Go.heap_alloc_new _ _
theorem LkB.cells {w:World}{b:Nat}{x:Int×Int×Int}(h:LkB w b x):w.cell? ⟨b,0,none⟩=some (.int .i64 x.1)∧w.cell? ⟨b,1,none⟩=some (.int .i64 x.2.1)∧w.cell? ⟨b,2,none⟩=some (.int .i64 x.2.2):=by
 have h':w.heap[b]?=_:=h
 refine⟨?_,?_,?_⟩<;>simp[World.cell?,h',Lk_row]
theorem LkB.free {w:World}{b:Nat}{x:Int×Int×Int}(h:LkB w b x):w.frozen? ⟨b,0,none⟩=false∧w.frozen? ⟨b,1,none⟩=false∧w.frozen? ⟨b,2,none⟩=false:=by
 have h':w.heap[b]?=_:=h
 refine⟨?_,?_,?_⟩<;>simp[World.frozen?,h']
theorem LkZ.lt {w:World}{b:Nat}(h:LkZ w b):b<w.heap.size:=(zJ.1 h).1
theorem LkZ.ext {w w':World}{b:Nat}(h:LkZ w b) (hE:Ext w w'):LkZ w' b:=(hE.below.block b h.lt).trans h
theorem LkZ.own {w w':World}{b:Nat}{r:Option Nat}(h:LkZ w b) (hg:w.grownBy w' r) (hb:some b≠r):LkZ w' b:=(hg.block b h.lt hb).trans h
theorem LkZ.new (w:World):LkZ (w.alloc (.cells Lk_zero 39)) w.heap.size:=Go.heap_alloc_new _ _
theorem LkZ.cells {w:World}{b:Nat}(h:LkZ w b):w.cell? ⟨b,0,none⟩=some (.int .i64 0)∧w.cell? ⟨b,1,none⟩=some (.int .i64 0)∧w.cell? ⟨b,2,none⟩=some (.int .i64 0):=by
 have h':w.heap[b]?=_:=h
 refine⟨?_,?_,?_⟩<;>simp[World.cell?,h',Lk_zero]
theorem LkZ.free {w:World}{b:Nat}(h:LkZ w b):w.frozen? ⟨b,0,none⟩=false∧w.frozen? ⟨b,1,none⟩=false∧w.frozen? ⟨b,2,none⟩=false:=by
 have h':w.heap[b]?=_:=h
 refine⟨?_,?_,?_⟩<;>simp[World.frozen?,h']
def setLk (w:World) (b:Nat) (x:Int×Int×Int):World:=((w.setCell ⟨b,0,none⟩ (.int .i64 x.1)).setCell ⟨b,1,none⟩ (.int .i64 x.2.1)).setCell ⟨b,2,none⟩ (.int .i64 x.2.2)
theorem setLk_in {w:World}{b:Nat}{y:Int×Int×Int}(h:LkB w b y) (x:Int×Int×Int):LkB (setLk w b x) b x:=by
 have h':w.heap[b]?=some (.cells (Lk_row y) 39 (0,0)):=h
 simp[LkB,setLk,World.setCell,zK,h',Lk_row]
theorem setLk_z {w:World}{b:Nat}(h:LkZ w b) (x:Int×Int×Int):LkB (setLk w b x) b x:=by
 have h':w.heap[b]?=some (.cells Lk_zero 39 (0,0)):=h
 simp[LkB,setLk,World.setCell,zK,h',Lk_row,Lk_zero]
theorem setLk_grown (w:World) (b:Nat) (x:Int×Int×Int):w.grownBy (setLk w b x) (some b):=grown_trans (grown_trans (grown_set _ _ _ _) (grown_set _ _ _ _)) (grown_set _ _ _ _)
theorem look_fin {fn:Func}(hr:fn.results=#[.cell 4 39,.tmp 5,.tmp 6]) {W:World}{b:Nat}{Q:Ending→World→Prop}(x:Int×Int×Int) (s:ByteArray) (n:Int) (hB:LkB W b x) {tmps:Array Value}(h4:tmps.getD 4 undef=.pointer (some ⟨b,0,none⟩)) (h5:tmps.getD 5 undef=.string s) (h6:tmps.getD 6 undef=.int .i64 n)
  (hQ:Q (.returned (.tuple #[.agg (Lk_row x),.string s,.int .i64 n])) W):bodyPost Tryz.prog fn Q Exit.ret ⟨tmps,[]⟩ W:=by
 obtain⟨c0,c1,c2⟩:=hB.cells
 refine bodyPost_ret (v:=.tuple #[.agg (Lk_row x),.string s,.int .i64 n]) ?_ rfl hQ
 unfold Lk_row
 rw[zI]at h4 h5 h6
 simp only[results,hr]
 go_simp
theorem numb_min (n most:Int) (h:0≤most):min (max n 0) most=max 0 (min n most):=by omega
set_option maxRecDepth 100000 in
set_option maxHeartbeats 4000000 in
theorem limited_any (e:Ex) (most:Int) (A:Option Addr) (c d:Nat) (x:En) (bx:Nat) (w:World) (hX:ExB w w.heap.size d A e.l) (hsz:e.size<1099511627776) (hok:e.ok) (hB:EvB w bx x) (hm:0≤most) :
  Calls Tryz.prog 39 #[.agg (e.cells A c).toArray,.int .i64 most,.pointer (some ⟨bx,0,none⟩)] w fun r w'=>r=.returned (.int .i64 (numb e x most))∧Ext w w':=by
 obtain⟨w1,hw1⟩ :∃w1,w.alloc (.cells (e.cells A c).toArray 47)=w1:=⟨_,rfl⟩
 have hr:=range_new w (e.cells A c) 47
 rw[hw1]at hr
 have hE1:Ext w w1:=by rw[←hw1];exact Ext.alloc _ _
 have HW1:=zL hw1
 have HE1:=zL hE1
 have EV:=zL (Eval_any e x d A c w1 (hX.ext hE1) hsz hok)
 obtain⟨p0,p1,p2,p3,p4,p5,p6,p7,p8⟩:=(hB.ext hE1).cells
 obtain⟨C,hC⟩ :∃C,(e.cells A c)=C:=⟨_,rfl⟩
 have hl7:C.length=7:=by rw[←hC];rfl
 rw[hC]at hr HW1 EV ⊢
 unfold En.v at EV
 clear hw1 hE1 hX hok hC hB
 go_enter Tryz.func39,Tryz.ntmps39
 go_upto_region 1 with fail
 rw[HW1.out]
 go_wp2_with (first|(refine load_E rfl _ rfl _ _ _ hr hl7 rfl ?_))
 refine EV.out.mono ?_
 rintro r w2 ⟨rfl,hE2⟩
 have HE2:=zL (HE1.out.trans hE2)
 have HN:Hid (numb e x most=max 0 (min (evV e x).n most)):=zL rfl
 obtain⟨v,hv⟩ :∃v,evV e x=v:=⟨_,rfl⟩
 rw[hv]at HN ⊢
 unfold Vl.v
 clear p0 p1 p2 p3 p4 p5 p6 p7 p8 hv hr hE2
 go_wp2_with fail
 go_ret
 refine⟨?_,HE2.out.trans (Ext.alloc _ _)⟩
 rw[HN.out,←numb_min _ _ hm]
 rfl
set_option maxRecDepth 100000 in
set_option maxHeartbeats 4000000 in
theorem number_any (e:Ex) (most:Int) (A:Option Addr) (c d:Nat) (x:En) (w:World) (hX:ExB w w.heap.size d A e.l) (hsz:e.size<1099511627776) (hok:e.ok) :
  Calls Tryz.prog 41 #[.agg (e.cells A c).toArray,x.v,.int .i64 most] w fun r w'=>r=.returned (.int .i64 (numb e x most))∧Ext w w':=by
 obtain⟨w1,hw1⟩ :∃w1,w.alloc (.cells (e.cells A c).toArray 47)=w1:=⟨_,rfl⟩
 have hr:=range_new w (e.cells A c) 47
 rw[hw1]at hr
 have hE1:Ext w w1:=by rw[←hw1];exact Ext.alloc _ _
 have hlt:w.heap.size<w1.heap.size:=by rw[←hw1];simp
 have hs1:w1.heap.size=w.heap.size+1:=by rw[←hw1];simp
 obtain⟨w2,hw2⟩ :∃w2,w1.alloc (.cells (Ev_row x) 28)=w2:=⟨_,rfl⟩
 have hB:=EvB.new w1 x
 rw[hw2,hs1]at hB
 have hE2:Ext w1 w2:=by rw[←hw2];exact Ext.alloc _ _
 have hr2:=range_ext hr hlt hE2
 have HW1:=zL hw1
 have HE:=zL (hE1.trans hE2)
 have EV:=zL (rEval_any e x d A c w2 (hX.ext (hE1.trans hE2)) hsz hok)
 obtain⟨p0,p1,p2,p3,p4,p5,p6,p7,p8⟩:=hB.cells
 unfold Ev_row at hw2
 have HW2:=zL hw2
 obtain⟨C,hC⟩ :∃C,(e.cells A c)=C:=⟨_,rfl⟩
 have hl7:C.length=7:=by rw[←hC];rfl
 rw[hC]at hr2 HW1 EV ⊢
 unfold En.v at EV ⊢
 clear hw1 hw2 hE1 hE2 hX hok hC hB hr hs1
 go_enter Tryz.func41,Tryz.ntmps41
 go_upto_region 1 with fail
 rw[HW1.out,HW2.out]
 go_wp2_with (first|(refine load_E rfl _ rfl _ _ _ hr2 hl7 rfl ?_))
 refine EV.out.mono ?_
 rintro r w3 ⟨rfl,hE3⟩
 have HE2:=zL (HE.out.trans hE3)
 have HN:Hid (numb e x most=max 0 (min (evV e x).n most)):=zL rfl
 obtain⟨v,hv⟩ :∃v,evV e x=v:=⟨_,rfl⟩
 rw[hv]at HN ⊢
 unfold Vl.v
 clear p0 p1 p2 p3 p4 p5 p6 p7 p8 hv hr2 hE3
 go_wp2_with fail
 go_ret
 refine⟨?_,HE2.out.trans (Ext.alloc _ _)⟩
 rw[HN.out]
 rfl
set_option maxRecDepth 100000 in
set_option maxHeartbeats 4000000 in
theorem Holds_any (u:Rn) (d:Nat) (x:En) (w:World) (hk:u.kidsB w w.heap.size d) (hok:u.r.ok) :
  Calls Tryz.prog 40 #[.agg u.cells.toArray,x.v] w fun r w'=>r=.returned (.bool (holds x u.r))∧Ext w w':=by
 obtain⟨w1,hw1⟩ :∃w1,w.alloc (.cells u.cells.toArray 49)=w1:=⟨_,rfl⟩
 have hR:=RnB.new w u
 rw[hw1]at hR
 have hE1:Ext w w1:=by rw[←hw1];exact Ext.alloc _ _
 have hs1:w1.heap.size=w.heap.size+1:=by rw[←hw1];simp
 obtain⟨w2,hw2⟩ :∃w2,w1.alloc (.cells (Ev_row x) 28)=w2:=⟨_,rfl⟩
 have hB:=EvB.new w1 x
 rw[hw2,hs1]at hB
 have hE2:Ext w1 w2:=by rw[←hw2];exact Ext.alloc _ _
 have hr:=range1 (hR.ext hE2).range
 rw[Nat.zero_add]at hr
 have HW1:=zL hw1
 have HE:=zL (hE1.trans hE2)
 have EV:=zL (rEval_any u.r.e1 x d u.A1 u.c1 w2 (hk.ext (hE1.trans hE2)).k1 hok.2.2.1.2 hok.2.2.1.1)
 obtain⟨p0,p1,p2,p3,p4,p5,p6,p7,p8⟩:=hB.cells
 unfold Ev_row at hw2
 have HW2:=zL hw2
 unfold En.v at EV ⊢
 clear hw1 hw2 hE1 hE2 hok hB hR hs1 hk
 go_enter Tryz.func40,Tryz.ntmps40
 go_upto_region 1 with fail
 rw[HW1.out,HW2.out]
 go_wp2_with (first|(refine load_E rfl _ rfl _ _ _ hr rfl rfl ?_))
 refine EV.out.mono ?_
 rintro r w3 ⟨rfl,hE3⟩
 have HE2:=zL (HE.out.trans hE3)
 have HN:Hid (holds x u.r=(evV u.r.e1 x).b):=zL rfl
 obtain⟨v,hv⟩ :∃v,evV u.r.e1 x=v:=⟨_,rfl⟩
 rw[hv]at HN ⊢
 unfold Vl.v
 clear p0 p1 p2 p3 p4 p5 p6 p7 p8 hv hr hE3
 go_wp2_with fail
 go_ret
 exact⟨by rw[HN.out];rfl,HE2.out.trans (Ext.alloc _ _)⟩
end Go.Proofs.YtmiencglfhpmeaaGreatDoor
