/- The law StyleTexts: its walk (printed by gen_og.py). -/
import Derived.Test.YtmiencglfhpmeaaGreatDoorUQSo
import Derived.Test.YtmiencglfhpmeaaGreatDoorUQSh
import Derived.Test.YtmiencglfhpmeaaGreatDoorUQSt
import Derived.Test.YtmiencglfhpmeaaGreatDoorUQSs
import Derived.Test.YtmiencglfhpmeaaGreatDoorUQTc
import Derived.Test.YtmiencglfhpmeaaGreatDoorUQSq
open List renaming foldl_cons → zA, foldl_nil → zB, getD_cons_succ → zC, getD_cons_zero → zD, length_append → zE, length_take → zF, setIfInBounds_toArray → zG, set_cons_succ → zH, set_cons_zero → zI
open Array renaming getElem?_eq_some_iff → zJ
open Go.Lib renaming hid → zK
set_option linter.unusedSimpArgs false
set_option linter.unusedVariables false
namespace Go.Proofs.YtmiencglfhpmeaaGreatDoor
open Go.RowKit Hach
theorem parse_len (s:List UInt8):(parseL s).1.length≤40:=by
 unfold parseL
 split
 ·simp
 ·cases rdRs s.length [] s with
  | bad n=>simp[parseG]
  | all l=>
   unfold parseG
   simp only
   split
   ·simp
   ·rename_i h
    exact(chk_len (by simpa using h)).1
theorem tx_len (l:List Rl):(txL l).1.length≤255840:=by
 unfold txL
 split
 ·simp
 ·rename_i h
  exact chk_texts (by simpa using h)
theorem info5S:(Tryz.prog.info? 54).map (·.size)=some 5:=by kernel_rfl
def st5 (a b c d e:ByteArray):List Value:=[.string a,.string b,.string c,.string d,.string e]
theorem one5 (a b c d e:ByteArray) :∀v∈st5 a b c d e,v.oneCell'=true:=by
 intro v hv
 simp only[st5,List.mem_cons,List.mem_nil_iff,or_false]at hv
 rcases hv with rfl|rfl|rfl|rfl|rfl<;>rfl
theorem five_texts {W:World}{g:Nat}{T:TypeId}{u s:List UInt8}{U S:ByteArray}{k m:Nat}(hU:(⟨u.toArray⟩:ByteArray)=U) (hS:(⟨s.toArray⟩:ByteArray)=S) (hm:U.size=m) (hu:u.length≤255840) (hs:s.length≤200)
  (h:W.heap[g]?=some (.cells (st5 U S ((U.extract 0 k++S)++U.extract k m) (U.extract 0 k) (U++S)).toArray T (0,0))) :
  ∀n,n<5 →∃t:List UInt8,t.length<4294967281 ∧∀V,Ext W V→V.cell? ⟨g,n,none⟩=some (.string ⟨t.toArray⟩):=by
 subst hU;subst hS
 rw[toArr_size]at hm
 subst hm
 rw[ba_take,ba_drop,ba_append,ba_append,ba_append]at h
 have hh :∀V,Ext W V→V.heap[g]?=_:=fun V hE=>(hE.below.block g (zJ.1 h).1).trans h
 intro n hn
 rcases(by omega:n=0∨n=1∨n=2∨n=3∨n=4) with rfl|rfl|rfl|rfl|rfl
 ·exact⟨u,by omega,fun V hE=>cells_of (hh V hE) 0 _ rfl⟩
 ·exact⟨s,by omega,fun V hE=>cells_of (hh V hE) 1 _ rfl⟩
 ·exact⟨u.take k++s++u.drop k,by simp only[zE,zF,List.length_drop];omega,fun V hE=>cells_of (hh V hE) 2 _ rfl⟩
 ·exact⟨u.take k,by simp only[zF];omega,fun V hE=>cells_of (hh V hE) 3 _ rfl⟩
 ·exact⟨u++s,by simp only[zE];omega,fun V hE=>cells_of (hh V hE) 4 _ rfl⟩
set_option maxRecDepth 100000 in
set_option maxHeartbeats 8000000 in
theorem StyleTexts_any (A0:Option Addr) (n0 c0:Nat) (p0 p1 p2 q0 q1 q2:Int) (a1:Nat) (a2:List UInt8) (w:World) (hT:Wr.Tabs w) (hL0:LI w A0 n0) (ha1:a1<65536) (ha2:a2.length<9223372036854775808) :
  Calls Tryz.prog 4 #[.agg (ca7 A0 n0 c0 p0 p1 p2 q0 q1 q2),.int .u16 (a1:Nat),.string ⟨a2.toArray⟩] w fun e w'=>e=.returned (.bool true)∧Ext w w':=by
 obtain⟨w1,hw1⟩ :∃q,w.alloc (.cells (ca7 A0 n0 c0 p0 p1 p2 q0 q1 q2) 26)=q:=⟨_,rfl⟩
 have hE1:Ext w w1:=by rw[←hw1];exact Ext.alloc _ _
 have hc1:w1.heap[w.heap.size]?=some (.cells (ca7 A0 n0 c0 p0 p1 p2 q0 q1 q2) 26 (0,0)):=by rw[←hw1];exact Go.heap_alloc_new _ _
 have HC:Hid (∀V,Ext w1 V→V.rangeAt w.heap.size 0 [.slice A0 n0 c0,.int .i64 p0,.int .i64 p1,.int .i64 p2,.int .i64 q0,.int .i64 q1,.int .i64 q2]):=zK fun V h j v hj=>by
  rw[Nat.zero_add]
  exact cells_of ((h.below.block _ (zJ.1 hc1).1).trans hc1) j v (by simpa[ca7]using hj)
 have HT:=zK (hT.ext hE1)
 have HL0:=zK (hL0.ext hE1)
 have HE1:=zK hE1
 have HW1:=zK hw1
 have hcut:=take_cut a2 200
 have hsz:=toArr_size a2
 obtain⟨S0,hS0⟩ :∃q:ByteArray,(⟨a2.toArray⟩:ByteArray)=q:=⟨_,rfl⟩
 obtain⟨s,hs⟩ :∃q,a2.take 200=q:=⟨_,rfl⟩
 have hsl:s.length≤200:=by rw[←hs,zF];omega
 obtain⟨S,hS⟩ :∃q:ByteArray,(⟨s.toArray⟩:ByteArray)=q:=⟨_,rfl⟩
 rw[hS0]at hcut hsz ⊢
 rw[hs,hS]at hcut
 have hb0:S0.size<9223372036854775808:=by omega
 have hcut2:S0.extract 0 (min (S0.size:Int) 200).toNat=S:=by rw[←hcut];congr 1;omega
 have hsS:S.size≤200:=by rw[←hS,toArr_size];exact hsl
 have HCUT:=zK hcut2
 have HSL:=zK hsl
 have HS:=zK hS
 unfold ca7 at HW1 ⊢
 clear hT hL0 hE1 hw1 hc1 hcut hcut2 hS hS0 hs hsz hsl ha2
 go_enter Tryz.func4,Tryz.ntmps4
 go_upto_region 1 with fail
 rw[HW1.out]
 clear HW1
 go_wp2_with fail
 refine(sanity_any w1 HT.out).mono ?_
 rintro e w2 ⟨rfl,hE2⟩
 go_upto_region 3 with fail
 simp only[HCUT.out]
 have HE2:=zK hE2
 have zc:=HC.out w2 hE2
 have AL:=zK (all_any A0 n0 c0 p0 p1 p2 q0 q1 q2 w2 (HL0.out.ext hE2))
 unfold ca7 at AL
 clear hE2 HC HCUT
 go_wp2_with (refine load_C rfl _ rfl w.heap.size 0 _ zc rfl rfl ?_)
 refine AL.out.mono ?_
 rintro e w3 ⟨B0,B1,B2,k0,k1,k2,d0,d1,d2,l0,l1,l2,rfl,hR0,hR1,hR2,hE3⟩
 clear zc AL
 go_upto_region 4 with fail
 obtain⟨w4,hw4⟩ :∃q,w3.alloc (.cells #[.slice B0 l0.length k0,.slice B1 l1.length k1,.slice B2 l2.length k2] 31)=q:=⟨_,rfl⟩
 have hA:w4.heap[w3.heap.size]?=some (.cells #[.slice B0 l0.length k0,.slice B1 l1.length k1,.slice B2 l2.length k2] 31 (0,0)):=by rw[←hw4];exact Go.heap_alloc_new _ _
 have hE4:Ext w3 w4:=by rw[←hw4];exact Ext.alloc _ _
 obtain⟨b8,hb8⟩ :∃q,w3.heap.size=q:=⟨_,rfl⟩
 rw[hw4]
 rw[hb8]at hA ⊢
 have hAX :∀V,Ext w4 V→V.heap[b8]?=some (.cells #[.slice B0 l0.length k0,.slice B1 l1.length k1,.slice B2 l2.length k2] 31 (0,0)):=fun V h=>(h.below.block b8 (zJ.1 hA).1).trans hA
 have HR:Hid (∀i,i<3 →∃(A:Option Addr) (c d:Nat) (l:List Rl),(∀V,Ext w4 V→V.cell? ⟨b8,i,none⟩=some (.slice A l.length c))∧RowT w4 A c d l):=zK fun i hi=>by
  rcases(by omega:i=0∨i=1∨i=2) with rfl|rfl|rfl
  ·exact⟨B0,k0,d0,l0,fun V h=>cells_of (hAX V h) 0 _ rfl,hR0.ext hE4⟩
  ·exact⟨B1,k1,d1,l1,fun V h=>cells_of (hAX V h) 1 _ rfl,hR1.ext hE4⟩
  ·exact⟨B2,k2,d2,l2,fun V h=>cells_of (hAX V h) 2 _ rfl,hR2.ext hE4⟩
 have HE14:=zK ((HE2.out.trans hE3).trans hE4)
 have HT4:=zK (HT.out.ext HE14.out)
 have HEF:=zK (HE1.out.trans HE14.out)
 clear hR0 hR1 hR2 hE3 hE4 hw4 hA hb8 hAX HE2 HT HL0 HE1 HE14
 go_wp2_with fail
 go_loopw [9] (fun iv wr =>∃i:Nat,i≤3∧iv=.int .i64 (i:Int)∧Hid (Ext w4 wr)) (fun iv _=>3-(intOf iv).toNat)
 case atStart=>exact⟨0,Nat.zero_le _,rfl,zK (Ext.refl _)⟩
 case round=>
  obtain⟨i,hi,rfl,HI⟩:=hrel
  obtain⟨wo,hwo⟩ :∃q,q=wr:=⟨_,rfl⟩
  subst hwo
  by_cases hi3:i<3
  ·have t3:decide ((i:Int)<3)=true:=by simp;omega
   obtain⟨A,c,d,l,hcl,hrow⟩:=HR.out i hi3
   have cci:=hcl wo HI.out
   have HCI:=zK hcl
   have TX:=zK (TextL_any l A c d wo (hrow.ext HI.out).x (by have:=hrow.le;omega) hrow.c1 hrow.c2 (fun r hr=>(hrow.ok r hr).1) (HT4.out.ext HI.out) (tabsE (HT4.out.ext HI.out)))
   have RTX:=zK (fun(V:World) (h:Ext w4 V)=>rTextL_any l A c d V (hrow.ext h).x (by have:=hrow.le;omega) hrow.c1 hrow.c2 (fun r hr=>(hrow.ok r hr).1) (HT4.out.ext h))
   unfold TextR at TX RTX
   have hul:=tx_len l
   obtain⟨⟨u,er⟩,htx⟩ :∃q,txL l=q:=⟨_,rfl⟩
   obtain⟨N,hN⟩ :∃q,l.length=q:=⟨_,rfl⟩
   rw[htx]at hul
   simp only[htx]at TX RTX
   rw[hN]at TX RTX HCI cci
   obtain⟨U,hU⟩ :∃q:ByteArray,(⟨u.toArray⟩:ByteArray)=q:=⟨_,rfl⟩
   simp only[hU]at TX RTX
   have hUs:U.size≤255840:=by rw[←hU,toArr_size];exact hul
   have HU:=zK hU
   have HUL:Hid (u.length≤255840):=zK hul
   clear hcl hrow htx hN hU hul hi
   go_wp2_with fail
   refine TX.out.mono ?_
   rintro e w5 ⟨rfl,hE5⟩
   have HE5:=zK (HI.out.trans hE5)
   have ccj:=HCI.out w5 HE5.out
   clear hE5 cci TX
   go_wp2_with fail
   refine(RTX.out w5 HE5.out).mono ?_
   rintro e w6 ⟨rfl,hE6⟩
   have HE6:=zK (HE5.out.trans hE6)
   clear hE6 ccj RTX
   obtain⟨m,hm⟩ :∃q,U.size=q:=⟨_,rfl⟩
   have hdz:0<m+1:=by omega
   obtain⟨k,hk⟩ :∃k,a1%(m+1)=k:=⟨_,rfl⟩
   have hkm:k≤m:=by have:=Nat.mod_lt a1 hdz;omega
   have em:(a1:Int)%((m:Int)+1)=(k:Int):=by rw[←hk];simp
   have em2:(a1:Int).tmod ((m:Int)+1)=(k:Int):=by rw[Int.tmod_eq_emod_of_nonneg (by omega)];exact em
   have HMZ:=zK hm
   rw[hm]at hUs
   go_upto_region 12 with fail
   try simp only[em,em2]
   clear em em2 hk hdz
   have hkU:k≤U.size:=by rw[HMZ.out];exact hkm
   apply wp_region_seq (l:=[_,_,_,_,_,_,_,_,_,_,_,_,_,_,_,_,_,_,_]) (t:=[_]) [some 63,some 64,some 65,some 66,some 67,some 68,some 69,some 70,some 71,some 72,some 73,some 74,some 75,some 76,some 77,some 78,some 79,some 80,some 15,none] [[],[],[],[],[2,3],[],[4,5],[],[],[7,8],[6,9],[],[],[11,12],[],[],[14,15],[0,1,10,13,16],[],[17,18]] [19,19,19,19,19,19,19,19,19,19,19,19,19,19,19,19,19,19,19] [eqv _,eqv _,eqv _,eqv _,(eqv (.string (U.extract 0 k))),eqv _,eqv _,eqv _,eqv _,(eqv (.string (U.extract k m))),eqv _,eqv _,eqv _,(eqv (.string (U.extract 0 k))),eqv _,eqv _,eqv _,eqv _,(newV w6.heap.size 54 #[.string ⟨#[]⟩,.string ⟨#[]⟩,.string ⟨#[]⟩,.string ⟨#[]⟩,.string ⟨#[]⟩])] (by kernel_rfl) (by kernel_rfl) ⟨?o0,?o1,?o2,?o3,?o4,?o5,?o6,?o7,?o8,?o9,?o10,?o11,?o12,?o13,?o14,?o15,?o16,?o17,?o18,trivial⟩ ?last
   case o0|o1|o2|o3|o4|o5|o6|o7|o8|o11|o12|o13|o14|o15|o16=>
    intro xv W hE hp
    try have q0:xv _=_:=hp.1
    try have q1:xv _=_:=hp.2.1
    try have q2:xv _=_:=hp.2.2.1
    try have q3:xv _=_:=hp.2.2.2.1
    try have q4:xv _=_:=hp.2.2.2.2.1
    clear hp
    simp only[putD,zB,zA,zD,zC,Act.put,zG,zI,zH]
    refine OpGoal.plain ?_
    go_wp2_with fail
    exact⟨rfl,Ext.refl _,rfl⟩
   case o9=>
    intro xv W hE hp
    have r7:xv 7=_:=hp.1
    have r8:xv 8=_:=hp.2.1
    clear hp
    simp only[putD,zB,zA,zD,zC,Act.put,zG,zI,zH]
    refine OpGoal.plain ?_
    go_wp2_with fail
    exact⟨rfl,Ext.refl _,by first|rfl|(rw[←HMZ.out];rfl)|(rw[HMZ.out];rfl)⟩
   case o10|o17=>
    intro xv W hE hp
    try have q0:xv _=_:=hp.1
    try have q1:xv _=_:=hp.2.1
    try have q2:xv _=_:=hp.2.2.1
    try have q3:xv _=_:=hp.2.2.2.1
    try have q4:xv _=_:=hp.2.2.2.2.1
    clear hp
    simp only[putD,zB,zA,zD,zC,Act.put,zG,zI,zH]
    refine OpGoal.plain ?_
    go_wp2_with fail
    exact⟨rfl,Ext.refl _,rfl⟩
   case o18=>
    intro xv W hE _
    simp only[putD,zB,zD,zC]
    refine OpGoal.plain ?_
    go_wp2_with fail
    exact⟨rfl,Ext.alloc _ _,W.heap.size,rfl,((Ext.drew w6).trans hE).sz,Go.heap_alloc_new _ _⟩
   case last=>
    intro xv W hE hp
    have r0:xv 0=_:=hp.1
    have r1:xv 1=_:=hp.2.1
    have r2:xv 2=_:=hp.2.2.1
    have r3:xv 3=_:=hp.2.2.2.1
    have r4:xv 4=_:=hp.2.2.2.2.1
    have r5:xv 5=_:=hp.2.2.2.2.2.1
    have r6:xv 6=_:=hp.2.2.2.2.2.2.1
    have r7:xv 7=_:=hp.2.2.2.2.2.2.2.1
    have r8:xv 8=_:=hp.2.2.2.2.2.2.2.2.1
    have r9:xv 9=_:=hp.2.2.2.2.2.2.2.2.2.1
    have r10:xv 10=_:=hp.2.2.2.2.2.2.2.2.2.2.1
    have r11:xv 11=_:=hp.2.2.2.2.2.2.2.2.2.2.2.1
    have r12:xv 12=_:=hp.2.2.2.2.2.2.2.2.2.2.2.2.1
    have r13:xv 13=_:=hp.2.2.2.2.2.2.2.2.2.2.2.2.2.1
    have r14:xv 14=_:=hp.2.2.2.2.2.2.2.2.2.2.2.2.2.2.1
    have r15:xv 15=_:=hp.2.2.2.2.2.2.2.2.2.2.2.2.2.2.2.1
    have r16:xv 16=_:=hp.2.2.2.2.2.2.2.2.2.2.2.2.2.2.2.2.1
    have r17:xv 17=_:=hp.2.2.2.2.2.2.2.2.2.2.2.2.2.2.2.2.2.1
    obtain⟨g18,r18,lo18,hz18⟩:=hp.2.2.2.2.2.2.2.2.2.2.2.2.2.2.2.2.2.2.1
    clear hp
    simp only[putD,zB,zA,zD,zC,Act.put,List.length_cons,List.length_nil,List.range_succ,List.range_zero,List.nil_append,List.cons_append,zG,zI,zH]
    have r17':xv 17=.agg #[.string U,.string S,.string ((U.extract 0 k++S)++U.extract k m),.string (U.extract 0 k),.string (U++S)]:=r17
    rw[r17',r18]
    have HEW:=zK ((Ext.drew w6).trans hE)
    have hz:W.heap[g18]?=some (.cells ([.string ⟨#[]⟩,.string ⟨#[]⟩,.string ⟨#[]⟩,.string ⟨#[]⟩,.string ⟨#[]⟩]:List Value).toArray 54 (0,0)):=hz18
    clear hE hz18 r0 r1 r2 r3 r4 r5 r6 r7 r8 r9 r10 r11 r12 r13 r14 r15 r16 r17 r18 r17'
    go_upto_region 13 with(refine store_T 54 g18 [.string ⟨#[]⟩,.string ⟨#[]⟩,.string ⟨#[]⟩,.string ⟨#[]⟩,.string ⟨#[]⟩] (st5 U S ((U.extract 0 k++S)++U.extract k m) (U.extract 0 k) (U++S)) hz rfl info5S (one5 _ _ _ _ _) rfl _ _ rfl rfl rfl ?_;intro wA hA hgA)
    have HTX:=zK (five_texts HU.out HS.out HMZ.out HUL.out HSL.out hA)
    have HEA:=zK (HE6.out.trans (ext_fresh HEW.out hgA lo18))
    have HTA:=zK (HT4.out.ext HEA.out)
    clear hA hgA hz lo18 HEW hkU hkm
    go_wp2_with fail
    go_loopw [16] (fun nv wr =>∃n:Nat,n≤5∧nv=.int .i64 (n:Int)∧Hid (Ext wA wr)) (fun nv _=>5-(intOf nv).toNat)
    case atStart=>exact⟨0,Nat.zero_le _,rfl,zK (Ext.refl _)⟩
    case round=>
     obtain⟨n,hn,rfl,HN⟩:=hrel
     obtain⟨wn,hwn⟩ :∃q,q=wr:=⟨_,rfl⟩
     subst hwn
     by_cases hn5:n<5
     ·have t5:decide ((n:Int)<5)=true:=by simp;omega
      obtain⟨t,htl,htc⟩:=HTX.out n hn5
      have ct:=htc wn HN.out
      have HTC:=zK htc
      have PA:=zK (ParseL_any t htl wn (HTA.out.ext HN.out))
      have RPA:=zK (fun(V:World)=>rParseL_any t htl V)
      unfold ParseQL at PA RPA
      have hpl:=parse_len t
      obtain⟨⟨lp,px,pg⟩,hp⟩ :∃q,parseL t=q:=⟨_,rfl⟩
      rw[hp]at PA RPA hpl
      simp only at PA RPA hpl
      obtain⟨TB,hTB⟩ :∃q:ByteArray,(⟨t.toArray⟩:ByteArray)=q:=⟨_,rfl⟩
      rw[hTB]at PA RPA HTC ct
      clear htl htc hp hTB hn
      go_wp2_with fail
      refine PA.out.mono ?_
      rintro e w7 ⟨A7,c7,d7,rfl,hX7,hc7,hok7,hE7⟩
      have HX7:=zK (RlL.more hX7 fun b hb=>hb.2:RlB w7 w7.heap.size d7 A7 lp)
      have HOK7:=zK hok7
      have HE7:=zK (HN.out.trans hE7)
      have ct7:=HTC.out w7 HE7.out
      clear hX7 hok7 hE7 ct PA
      go_wp2_with fail
      refine(RPA.out w7).mono ?_
      rintro e w8 ⟨A8,c8,d8,rfl,hX8,hc8,hok8,hE8⟩
      have HX8:=zK (RlL.more hX8 fun b hb=>hb.2:RlB w8 w8.heap.size d8 A8 lp)
      have HX78:=zK (HX7.out.ext hE8)
      have HE8:=zK (HE7.out.trans hE8)
      have SM:=zK (rSameAll_any lp lp A7 A8 c7 c8 (max d7 d8) w8 (RlL.deep HX78.out (Nat.le_max_left _ _)) (RlL.deep HX8.out (Nat.le_max_right _ _)) (by omega) (by omega) (fun r hr=>(HOK7.out r hr).2) (fun r hr=>(HOK7.out r hr).2))
      rw[(sameL_iff lp lp).2 rfl]at SM
      obtain⟨Np,hNp⟩ :∃q,lp.length=q:=⟨_,rfl⟩
      rw[hNp]at SM hpl hc7 hc8 ⊢
      clear hX8 hok8 hE8 ct7 RPA HX7 HX8 HX78 HOK7 hNp
      go_wp2_with fail
      refine SM.out.mono ?_
      rintro e w9 ⟨rfl,hE9⟩
      have HE9:=zK (HE8.out.trans hE9)
      clear hE9 SM
      go_wp2_with fail
      go_roundw
      case rel=>exact⟨n+1,by omega,by go_num,HE9⟩
      case measure=>simp[intOf];omega
     ·obtain rfl:n=5:=by omega
      have HNE:=zK (HEA.out.trans HN.out)
      clear hn hn5
      go_wp2_with fail
      go_roundw
      case rel=>exact⟨i+1,by omega,by go_num,HNE⟩
      case measure=>simp[intOf];omega
  ·obtain rfl:i=3:=by omega
   have HFF:=zK (HEF.out.trans HI.out)
   clear hi hi3
   go_wp2_with fail
   go_ret
   exact⟨rfl,HFF.out⟩
end Go.Proofs.YtmiencglfhpmeaaGreatDoor
