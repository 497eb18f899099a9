/- Contracts of a reader of the reference: the decimal form of an integer up to a byte. -/
import Derived.Test.YtmiencglfhpmeaaGreatDoorUQSs
import Derived.Test.YtmiencglfhpmeaaGreatDoorUQXq
open List renaming drop_drop → zA, drop_length → zB, getD → zC, getElem?_eq_getElem → zD, length_drop → zE
open Nat renaming le_refl → zF, lt_or_ge → zG
open Option renaming bind_some → zH, some.injEq → zI
open Array renaming getElem?_eq_some_iff → zJ
open Int renaming ofNat_inj → zK
open Go.Lib renaming hid → zL, itoa → zM
set_option linter.unusedSimpArgs false
set_option linter.unusedVariables false
namespace Go.Proofs.YtmiencglfhpmeaaGreatDoor.Wr
open Go.RowKit Hach Num
theorem txt_eq {x y:List UInt8}(h:(⟨x.toArray⟩:ByteArray)=⟨y.toArray⟩):x=y:=by
 have:=congrArg (fun s:ByteArray=>s.data.toList) h
 simpa using this
def RNum (e:Ending) (w':World) (b:Nat) (l:Option (List UInt8)) (o:Option (Int×List UInt8)):Prop:=
 e=.returned (.tuple #[.int .i64 ((o.map (·.1)).getD 0),.bool o.isSome])∧match o with|some p=>RR w' b (some p.2)|none=>RR w' b l
theorem getD_drop (S:List UInt8) (a i:Nat):(S.drop a).getD i 0=S.getD (a+i) 0:=by
 simp[zC,List.getElem?_drop]
set_option maxRecDepth 100000 in
set_option maxHeartbeats 2000000 in
theorem rnumber_any (c:UInt8) (b:Nat) (l:Option (List UInt8)) (w:World) (h:RR w b l) :
  Calls Tryz.prog 91 #[.pointer (some ⟨b,0,none⟩),.int .u8 (c.toNat:Nat)] w fun e w'=>RNum e w' b l (l.bind (rdNum c))∧w.grownBy w' (some b):=by
 have hR:=h
 obtain⟨S,a,h1,h2,h3,h4⟩:=h
 have c0:w.cell? ⟨b,0,none⟩=some (.string ⟨S.toArray⟩):=by simp[World.cell?,h3]
 have c1:w.cell? ⟨b,1,none⟩=some (.int .i64 (a:Nat)):=by simp[World.cell?,h3]
 have c2:w.cell? ⟨b,2,none⟩=some (.bool l.isNone):=by simp[World.cell?,h3]
 have hself:w.grownBy w (some b):=⟨rfl,rfl,rfl,zF _,fun _ _ _=>rfl⟩
 cases l with
 | none=>
  go_enter Tryz.func91,Tryz.ntmps91
  go_wp2_with fail
  go_ret2
  exact⟨⟨rfl,hR⟩,hself⟩
 | some q=>
  have hq:=h4 q rfl
  have hql:q.length=S.length-a:=by rw[←hq,zE]
  have hqd :∀i,q.getD i 0=S.getD (a+i) 0:=fun i=>by rw[←hq,getD_drop]
  obtain⟨sv,hsv⟩ :∃sv:ByteArray,(⟨S.toArray⟩:ByteArray)=sv:=⟨_,rfl⟩
  have hsz:sv.size=S.length:=by rw[←hsv,toArr_size]
  have hget :∀(t:Nat) (h:t<sv.size),sv[t]'h=S.getD t 0:=by
   intro t h
   subst hsv
   have ht:t<S.length:=by rw[toArr_size]at h;exact h
   simp[zC,zD ht]
   rfl
  have hext :∀x y:Nat,sv.extract x y=⟨((S.drop x).take (y-x)).toArray⟩:=by
   intro x y
   rw[←hsv]
   apply ba_ext;rw[ByteArray.data_extract];simp
  rw[hsv]at c0
  have HSV:=zL hsv
  have HSZ:=zL hsz
  have HGET:=zL hget
  have HEXT:=zL hext
  have HQD:=zL hqd
  have HQ:=zL hq
  have hszl:sv.size<4294967281:=by omega
  have H4:=zL h4
  clear hsv hget hext hqd hq h4
  go_enter Tryz.func91,Tryz.ntmps91
  go_upto_block 0 with fail
  go_cut [6] from 12 (fun vt wx =>∃t:Nat,a≤t∧t≤S.length∧vt=.int .i64 t∧Hid (∀i,a≤i→i<t→S.getD i 0≠c)∧(t=S.length∨(t<S.length∧(S.getD t 0=c∨t=a+21)))∧wx=w)
  case first=>
   go_wp2_with fail
   go_loopw [6] (fun vt wr =>∃t:Nat,a≤t∧t≤S.length∧t≤a+21∧vt=.int .i64 t∧Hid (∀i,a≤i→i<t→S.getD i 0≠c)∧wr=w) (fun vt _=>S.length-(intOf vt).toNat)
   case atStart=>exact⟨a,zF _,h1,by omega,rfl,zL (fun i h1 h2=>absurd h1 (by omega)),rfl⟩
   case round=>
    obtain⟨t,hat,htl,ht21,rfl,HN,rfl⟩:=hrel
    by_cases hlt:t<S.length
    ·have hltz:t<sv.size:=by rw[HSZ.out];exact hlt
     have tA:decide ((t:Int)<(sv.size:Int))=true:=by rw[decide_eq_true_iff];omega
     obtain⟨x,hx⟩ :∃x,S.getD t 0=x:=⟨_,rfl⟩
     have hfb :∀h,sv[t]'h=x:=fun h=>(HGET.out t h).trans hx
     have HX:=zL hx
     clear hx
     by_cases h21:t<a+21
     ·have tB:decide ((t:Int)<(a:Int)+21)=true:=by rw[decide_eq_true_iff];omega
      by_cases hxc:x=c
      ·have tC:((x.toNat:Int) != (c.toNat:Int))=false:=by rw[hxc];simp
       have HXC:=zL hxc
       clear hxc
       go_wp2_with fail
       go_meet
       case rel=>exact⟨t,hat,htl,rfl,HN,.inr ⟨hlt,.inl (HX.out.trans HXC.out)⟩,rfl⟩
      ·have tC:((x.toNat:Int) != (c.toNat:Int))=true:=by
        rw[bne_iff_ne]
        intro e
        exact hxc (UInt8.toNat_inj.1 (by simpa using zK.1 e))
       have HXC:=zL hxc
       clear hxc
       go_wp2_with fail
       go_roundw
       case rel=>
        refine⟨t+1,by omega,by omega,by omega,by go_num,zL fun i h1 h2=>?_,(by first|trivial|rfl)⟩
        rcases zG i t with h|h
        ·exact HN.out i h1 h
        ·obtain rfl:i=t:=by omega
         rw[HX.out];exact HXC.out
       case measure=>simp[intOf];omega
     ·have tB:decide ((t:Int)<(a:Int)+21)=false:=by rw[decide_eq_false_iff_not];omega
      have he:t=a+21:=by omega
      have HE:=zL he
      clear he
      go_wp2_with fail
      go_meet
      case rel=>exact⟨t,hat,htl,rfl,HN,.inr ⟨hlt,.inr HE.out⟩,rfl⟩
    ·have tA:decide ((t:Int)<(sv.size:Int))=false:=by rw[decide_eq_false_iff_not,HSZ.out];omega
     have he:t=S.length:=by omega
     have HE:=zL he
     clear he
     go_wp2_with fail
     go_meet
     case rel=>exact⟨t,hat,htl,rfl,HN,.inl HE.out,rfl⟩
  case rest=>
  obtain⟨t,hat,htl,rfl,HN,hex,rfl⟩:=hcut
  have hscan :∀i,i<t-a→q.getD i 0≠c:=fun i hi=>by rw[HQD.out];exact HN.out _ (by omega) (by omega)
  have HSCAN:=zL hscan
  clear hscan
  by_cases hend:t=S.length
  ·have tA:((t:Int) == (S.length:Int))=true:=by rw[hend];exact beq_self_eq_true _
   have HNO:=zL (show(some q).bind (rdNum c)=none from scan_end HSCAN.out (by rw[hql,hend]))
   clear hex hend
   go_wp2_with fail
   go_ret2
   rw[HNO.out]
   exact⟨⟨rfl,hR⟩,hself⟩
  ·have hlt:t<S.length:=by omega
   have hltz:t<sv.size:=by rw[HSZ.out];exact hlt
   have tA:((t:Int) == (S.length:Int))=false:=by rw[beq_eq_false_iff_ne];omega
   obtain⟨x,hx⟩ :∃x,S.getD t 0=x:=⟨_,rfl⟩
   have hfb :∀h,sv[t]'h=x:=fun h=>(HGET.out t h).trans hx
   rw[hx]at hex
   have HX:=zL hx
   clear hx
   by_cases hxc:x=c
   ·have tC:((x.toNat:Int) != (c.toNat:Int))=false:=by rw[hxc];simp
    have hnum:(some q).bind (rdNum c)=(rnum (q.take (t-a))).map fun v=>(v,q.drop (t-a+1)):=by
     rw[rnum_eq]
     exact scan_at HSCAN.out (by omega) (by rw[HQD.out,show a+(t-a)=t by omega,HX.out,hxc])
    obtain⟨d,hd⟩ :∃d,q.take (t-a)=d:=⟨_,rfl⟩
    rw[hd]at hnum
    have hdl:d.length=t-a:=by rw[←hd,List.length_take];omega
    have HNUM:=zL hnum
    obtain⟨dv,hdv⟩ :∃dv:ByteArray,(⟨d.toArray⟩:ByteArray)=dv:=⟨_,rfl⟩
    have hsl:sv.extract a t=dv:=by rw[HEXT.out,HQ.out,hd,hdv]
    have hdz:dv.size=d.length:=by rw[←hdv,toArr_size]
    have HDGET:Hid (∀(t:Nat) (h:t<dv.size),dv[t]'h=d.getD t 0):=by
     intro t h
     subst hdv
     have ht:t<d.length:=by rw[toArr_size]at h;exact h
     simp[zC,zD ht]
     rfl
    have HDV:=zL hdv.symm
    have HTA:=zL hdl
    have hm32:d.length<4294967281:=by omega
    have g1 :¬((t:Int)<(a:Int)):=by omega
    have g2 :¬((S.length:Int)<(t:Int)):=by omega
    clear hnum hd hdv hex hend hxc hdl
    go_wp2_with fail
    go_quiet (fail)
    go_upto_region 10 with fail
    obtain⟨w2,hw2⟩ :∃w2,wc.drewN nq=w2:=⟨_,rfl⟩
    have hW2:Ext wc w2:=by rw[←hw2];exact ext_drewN _ _
    rw[hw2]
    have h3w:w2.heap[b]?=some (.cells #[.string ⟨S.toArray⟩,.int .i64 (a:Nat),.bool (some q:Option (List UInt8)).isNone] 140 (0,0)):=(hW2.below.block b (zJ.1 h3).1).trans h3
    clear hw2
    obtain⟨f,hf⟩ :∃f:Nat,(f=1∧d.head?=some 45)∨(f=0 ∧¬d.head?=some 45):=by
     by_cases h:d.head?=some 45
     ·exact⟨1,.inl ⟨rfl,h⟩⟩
     ·exact⟨0,.inr ⟨rfl,h⟩⟩
    have HFF:=zL hf
    clear hf
    go_cut [86] from 69 (fun vb wx=>vb=.bool (decide (f=1))∧wx=w2)
    case first=>
     by_cases hd0:d.length=0
     ·have tl:decide ((0:Int)<(d.length:Int))=false:=by rw[decide_eq_false_iff_not];omega
      have tl2:decide (0<d.length)=false:=by rw[decide_eq_false_iff_not];omega
      have hnil:d=[]:=List.eq_nil_of_length_eq_zero hd0
      have hf0:f=0:=by
       rcases HFF.out with⟨_,h⟩|⟨h,_⟩
       ·rw[hnil]at h;cases h
       ·exact h
      have HF0:=zL hf0
      clear hf0 hd0 hnil
      go_wp2_with fail
      go_meet
      case rel=>exact⟨by rw[HF0.out];rfl,rfl⟩
     ·have tl:decide ((0:Int)<(d.length:Int))=true:=by rw[decide_eq_true_iff];omega
      have hpos:0<d.length:=by omega
      have tl2:decide (0<d.length)=true:=by rw[decide_eq_true_iff];omega
      obtain⟨y,hy⟩ :∃y,d.getD 0 0=y:=⟨_,rfl⟩
      have hhead:d.head?=some y:=by
       match d,hpos,hy with
       | z::r,_,hy=>simp[zC]at hy;rw[hy];rfl
      have hyb :∀h,dv[0]'h=y:=fun h=>(HDGET.out 0 h).trans hy
      by_cases hy45:y=45
      ·have ty:((y.toNat:Int) == 45)=true:=by rw[hy45];rfl
       have hf1:f=1:=by
        rcases HFF.out with⟨h,_⟩|⟨_,h⟩
        ·exact h
        ·exact absurd (hhead.trans (by rw[hy45])) h
       have HF1:=zL hf1
       clear hf1 hy45 hhead hy hd0
       go_wp2_with fail
       go_meet
       case rel=>exact⟨by rw[HF1.out];rfl,rfl⟩
      ·have ty:((y.toNat:Int) == 45)=false:=by
        rw[beq_eq_false_iff_ne]
        intro e
        exact hy45 (UInt8.toNat_inj.1 (by simpa using zK.1 e))
       have hf0:f=0:=by
        rcases HFF.out with⟨_,h⟩|⟨h,_⟩
        ·rw[hhead]at h;exact absurd (Option.some.inj h) hy45
        ·exact h
       have HF0:=zL hf0
       clear hf0 hy45 hhead hy hd0
       go_wp2_with fail
       go_meet
       case rel=>exact⟨by rw[HF0.out];rfl,rfl⟩
    case rest=>
    obtain⟨rfl,rfl⟩:=hcut
    rcases HFF.out with⟨hf1,hh⟩|⟨hf0,hh⟩
    ·subst hf1
     have hpos:1≤d.length:=by
      match d,hh with
      | z::r,_=>simp
     have HH:=zL hh
     clear hh HFF
     go_wp2_with fail
     go_loopw [9,10] (fun vn vk wr =>∃(i:Nat) (acc:Int),1≤i∧i≤d.length∧vk=.int .i64 i∧vn=.int .i64 acc ∧ -9223372036854775808≤acc∧acc≤0∧Hid (negs 0 (d.drop 1)=negs acc (d.drop i))∧wr=wc) (fun _ vk _=>d.length-(intOf vk).toNat)
     case atStart=>exact⟨1,0,zF _,hpos,rfl,rfl,by decide,by decide,zL rfl,rfl⟩
     case round=>
      obtain⟨i,acc,hFi,hil,rfl,rfl,ha0,ha1,HG,rfl⟩:=hrel
      by_cases hlt:i<d.length
      ·have hst:=negs_step (acc:=acc) hlt
       obtain⟨y,hy⟩ :∃y,d.getD i 0=y:=⟨_,rfl⟩
       have hyb :∀h,dv[i]'h=y:=fun h=>(HDGET.out i h).trans hy
       rw[hy]at hst
       have hyl:y.toNat<256:=y.toNat_lt
       obtain⟨dy,hdy⟩ :∃dy:Int,(y.toNat:Int)-48=dy:=⟨_,rfl⟩
       rw[hdy]at hst
       have hd1 : -48≤dy∧dy≤207:=by omega
       obtain⟨hd1,hd2⟩:=hd1
       have HST:=zL hst
       clear hst hy
       by_cases b1:dy<0
       ·have q1:decide (dy<0)=true:=by simpa using b1
        have HO:=zL (show(some q).bind (rdNum c)=none from by rw[HNUM.out,rnum_neg HH.out,HG.out,HST.out,if_pos (.inl b1)];rfl)
        go_wp2_with fail
        go_ret2
        first|rw[HO.out]|rw[show rdNum c q=none from HO.out]
        exact⟨⟨rfl,hR.ext hW2⟩,grown_ext hW2 _⟩
       ·have q1:decide (dy<0)=false:=by simpa using b1
        by_cases b2:9<dy
        ·have q2:decide (9<dy)=true:=by simpa using b2
         have HO:=zL (show(some q).bind (rdNum c)=none from by rw[HNUM.out,rnum_neg HH.out,HG.out,HST.out,if_pos (.inr (.inl b2))];rfl)
         go_wp2_with fail
         go_ret2
         first|rw[HO.out]|rw[show rdNum c q=none from HO.out]
         exact⟨⟨rfl,hR.ext hW2⟩,grown_ext hW2 _⟩
        ·have q2:decide (9<dy)=false:=by simpa using b2
         by_cases b3:acc < -922337203685477580
         ·have q3:decide (acc < -922337203685477580)=true:=by simpa using b3
          have HO:=zL (show(some q).bind (rdNum c)=none from by rw[HNUM.out,rnum_neg HH.out,HG.out,HST.out,if_pos (.inr (.inr (.inl b3)))];rfl)
          go_wp2_with fail
          go_ret2
          first|rw[HO.out]|rw[show rdNum c q=none from HO.out]
          exact⟨⟨rfl,hR.ext hW2⟩,grown_ext hW2 _⟩
         ·have q3:decide (acc < -922337203685477580)=false:=by simpa using b3
          by_cases b4:acc = -922337203685477580
          ·have q4:(acc == -922337203685477580)=true:=by rw[b4];rfl
           by_cases b5:8<dy
           ·have q5:decide (8<dy)=true:=by simpa using b5
            have B45:=zL (And.intro b4 b5)
            clear b4
            have HO:=zL (show(some q).bind (rdNum c)=none from by rw[HNUM.out,rnum_neg HH.out,HG.out,HST.out,if_pos (.inr (.inr (.inr B45.out)))];rfl)
            go_wp2_with fail
            go_ret2
            first|rw[HO.out]|rw[show rdNum c q=none from HO.out]
            exact⟨⟨rfl,hR.ext hW2⟩,grown_ext hW2 _⟩
           ·have q5:decide (8<dy)=false:=by simpa using b5
            have hlow : -9223372036854775808≤10*acc-dy:=by omega
            have B4:=zL b4
            clear b4
            go_wp2_with fail
            go_roundw
            case rel=>
             refine⟨i+1,10*acc-dy,by omega,by omega,by go_num,rfl,by omega,by omega,zL ?_,(by first|trivial|rfl)⟩
             rw[HG.out,HST.out,if_neg (by have:=B4.out;omega)]
            case measure=>simp[intOf];omega
          ·have q4:(acc == -922337203685477580)=false:=by rw[beq_eq_false_iff_ne];exact b4
           have hlow : -9223372036854775808≤10*acc-dy:=by omega
           go_wp2_with fail
           go_roundw
           case rel=>
            refine⟨i+1,10*acc-dy,by omega,by omega,by go_num,rfl,by omega,by omega,zL ?_,(by first|trivial|rfl)⟩
            rw[HG.out,HST.out,if_neg (by omega)]
           case measure=>simp[intOf];omega
      ·obtain rfl:i=d.length:=by omega
       have HACC:Hid (negs 0 (d.drop 1)=some acc):=by
        show negs 0 (d.drop 1)=some acc
        rw[HG.out,zB];rfl
       go_wp2_with fail
       refine(dec_any _ (acc) (zF _) ⟨by omega,by omega⟩ _).mono ?_
       rintro e w3 ⟨rfl,hE3⟩
       obtain⟨iv,hiv⟩ :∃iv:ByteArray,(⟨(zM (acc)).toArray⟩:ByteArray)=iv:=⟨_,rfl⟩
       have h5:=(hE3.below.block b (zJ.1 h3w).1).trans h3w
       have f1:w3.frozen? ⟨b,1,none⟩=false:=by simp[World.frozen?,h5]
       have d1:w3.cell? ⟨b,1,none⟩=some (.int .i64 (a:Nat)):=by simp[World.cell?,h5]
       by_cases hv:zM (acc)=d
       ·have tq:(iv.toList == dv.toList)=true:=by rw[←hiv,HDV.out,hv];exact beq_self_eq_true _
        have HO:=zL (show(some q).bind (rdNum c)=some (acc,q.drop (t-a+1)) from by rw[HNUM.out,rnum_neg HH.out,HACC.out];simp only;rw[ if_pos hv];rfl)
        rw[hiv]
        clear hiv hv
        go_wp2_with fail
        go_ret2
        first|rw[HO.out]|rw[show rdNum c q=some (acc,q.drop (t-a+1)) from HO.out]
        refine⟨⟨rfl,S,t+1,by omega,h2,heap_setCell_same w3 b 1 _ _ _ h5,fun r' e=>?_⟩,(grown_ext (hW2.trans hE3) _).trans (grown_set _ b 1 _)⟩
        simp only[zI]at e
        rw[←e,←HQ.out,zA]
        congr 1;omega
       ·have tq:(iv.toList == dv.toList)=false:=by
         rw[beq_eq_false_iff_ne]
         intro e
         have e2:=eq_of_toList e
         rw[←hiv,HDV.out]at e2
         exact hv (txt_eq e2)
        have HO:=zL (show(some q).bind (rdNum c)=none from by rw[HNUM.out,rnum_neg HH.out,HACC.out];simp only;rw[ if_neg hv];rfl)
        rw[hiv]
        clear hiv hv
        go_wp2_with fail
        go_ret2
        first|rw[HO.out]|rw[show rdNum c q=none from HO.out]
        exact⟨⟨rfl,(hR.ext hW2).ext hE3⟩,grown_ext (hW2.trans hE3) _⟩
    ·subst hf0
     have HH:=zL hh
     clear hh HFF
     go_wp2_with fail
     go_loopw [9,10] (fun vn vk wr =>∃(i:Nat) (acc:Int),0≤i∧i≤d.length∧vk=.int .i64 i∧vn=.int .i64 acc ∧ -9223372036854775808≤acc∧acc≤0∧Hid (negs 0 (d.drop 0)=negs acc (d.drop i))∧wr=wc) (fun _ vk _=>d.length-(intOf vk).toNat)
     case atStart=>exact⟨0,0,zF _,Nat.zero_le _,rfl,rfl,by decide,by decide,zL rfl,rfl⟩
     case round=>
      obtain⟨i,acc,hFi,hil,rfl,rfl,ha0,ha1,HG,rfl⟩:=hrel
      by_cases hlt:i<d.length
      ·have hst:=negs_step (acc:=acc) hlt
       obtain⟨y,hy⟩ :∃y,d.getD i 0=y:=⟨_,rfl⟩
       have hyb :∀h,dv[i]'h=y:=fun h=>(HDGET.out i h).trans hy
       rw[hy]at hst
       have hyl:y.toNat<256:=y.toNat_lt
       obtain⟨dy,hdy⟩ :∃dy:Int,(y.toNat:Int)-48=dy:=⟨_,rfl⟩
       rw[hdy]at hst
       have hd1 : -48≤dy∧dy≤207:=by omega
       obtain⟨hd1,hd2⟩:=hd1
       have HST:=zL hst
       clear hst hy
       by_cases b1:dy<0
       ·have q1:decide (dy<0)=true:=by simpa using b1
        have HO:=zL (show(some q).bind (rdNum c)=none from by rw[HNUM.out,rnum_pos HH.out,HG.out,HST.out,if_pos (.inl b1)];rfl)
        go_wp2_with fail
        go_ret2
        first|rw[HO.out]|rw[show rdNum c q=none from HO.out]
        exact⟨⟨rfl,hR.ext hW2⟩,grown_ext hW2 _⟩
       ·have q1:decide (dy<0)=false:=by simpa using b1
        by_cases b2:9<dy
        ·have q2:decide (9<dy)=true:=by simpa using b2
         have HO:=zL (show(some q).bind (rdNum c)=none from by rw[HNUM.out,rnum_pos HH.out,HG.out,HST.out,if_pos (.inr (.inl b2))];rfl)
         go_wp2_with fail
         go_ret2
         first|rw[HO.out]|rw[show rdNum c q=none from HO.out]
         exact⟨⟨rfl,hR.ext hW2⟩,grown_ext hW2 _⟩
        ·have q2:decide (9<dy)=false:=by simpa using b2
         by_cases b3:acc < -922337203685477580
         ·have q3:decide (acc < -922337203685477580)=true:=by simpa using b3
          have HO:=zL (show(some q).bind (rdNum c)=none from by rw[HNUM.out,rnum_pos HH.out,HG.out,HST.out,if_pos (.inr (.inr (.inl b3)))];rfl)
          go_wp2_with fail
          go_ret2
          first|rw[HO.out]|rw[show rdNum c q=none from HO.out]
          exact⟨⟨rfl,hR.ext hW2⟩,grown_ext hW2 _⟩
         ·have q3:decide (acc < -922337203685477580)=false:=by simpa using b3
          by_cases b4:acc = -922337203685477580
          ·have q4:(acc == -922337203685477580)=true:=by rw[b4];rfl
           by_cases b5:8<dy
           ·have q5:decide (8<dy)=true:=by simpa using b5
            have B45:=zL (And.intro b4 b5)
            clear b4
            have HO:=zL (show(some q).bind (rdNum c)=none from by rw[HNUM.out,rnum_pos HH.out,HG.out,HST.out,if_pos (.inr (.inr (.inr B45.out)))];rfl)
            go_wp2_with fail
            go_ret2
            first|rw[HO.out]|rw[show rdNum c q=none from HO.out]
            exact⟨⟨rfl,hR.ext hW2⟩,grown_ext hW2 _⟩
           ·have q5:decide (8<dy)=false:=by simpa using b5
            have hlow : -9223372036854775808≤10*acc-dy:=by omega
            have B4:=zL b4
            clear b4
            go_wp2_with fail
            go_roundw
            case rel=>
             refine⟨i+1,10*acc-dy,by omega,by omega,by go_num,rfl,by omega,by omega,zL ?_,(by first|trivial|rfl)⟩
             rw[HG.out,HST.out,if_neg (by have:=B4.out;omega)]
            case measure=>simp[intOf];omega
          ·have q4:(acc == -922337203685477580)=false:=by rw[beq_eq_false_iff_ne];exact b4
           have hlow : -9223372036854775808≤10*acc-dy:=by omega
           go_wp2_with fail
           go_roundw
           case rel=>
            refine⟨i+1,10*acc-dy,by omega,by omega,by go_num,rfl,by omega,by omega,zL ?_,(by first|trivial|rfl)⟩
            rw[HG.out,HST.out,if_neg (by omega)]
           case measure=>simp[intOf];omega
      ·obtain rfl:i=d.length:=by omega
       have HACC:Hid (negs 0 (d.drop 0)=some acc):=by
        show negs 0 (d.drop 0)=some acc
        rw[HG.out,zB];rfl
       by_cases hmin:acc = -9223372036854775808
       ·have HO:=zL (show(some q).bind (rdNum c)=none from by rw[HNUM.out,rnum_pos HH.out,HACC.out];simp only;rw[if_pos hmin];rfl)
        clear HACC HG
        subst hmin
        have hw64:wrap64 9223372036854775808 = -9223372036854775808:=by first|rfl|(unfold wrap64;decide)|(unfold wrap64;omega)|simp[wrap64]
        go_wp2_with fail
        go_ret2
        first|rw[HO.out]|rw[show rdNum c q=none from HO.out]
        exact⟨⟨rfl,hR.ext hW2⟩,grown_ext hW2 _⟩
       ·have HMIN:=zL hmin
        have hb : -9223372036854775807≤acc:=by omega
        clear hmin
        by_cases hz:acc=0
        ·have tz:(acc == -acc)=true:=by rw[hz];rfl
         have tz2:(acc != 0)=false:=by rw[hz];rfl
         have HZ:=zL hz
         clear hz
         go_wp2_with fail
         refine(dec_any _ (-acc) (zF _) ⟨by omega,by omega⟩ _).mono ?_
         rintro e w3 ⟨rfl,hE3⟩
         obtain⟨iv,hiv⟩ :∃iv:ByteArray,(⟨(zM (-acc)).toArray⟩:ByteArray)=iv:=⟨_,rfl⟩
         have h5:=(hE3.below.block b (zJ.1 h3w).1).trans h3w
         have f1:w3.frozen? ⟨b,1,none⟩=false:=by simp[World.frozen?,h5]
         have d1:w3.cell? ⟨b,1,none⟩=some (.int .i64 (a:Nat)):=by simp[World.cell?,h5]
         by_cases hv:zM (-acc)=d
         ·have tq:(iv.toList == dv.toList)=true:=by rw[←hiv,HDV.out,hv];exact beq_self_eq_true _
          have HO:=zL (show(some q).bind (rdNum c)=some (-acc,q.drop (t-a+1)) from by rw[HNUM.out,rnum_pos HH.out,HACC.out];simp only;rw[if_neg HMIN.out,if_pos hv];rfl)
          rw[hiv]
          clear hiv hv
          go_wp2_with fail
          go_ret2
          first|rw[HO.out]|rw[show rdNum c q=some (-acc,q.drop (t-a+1)) from HO.out]
          refine⟨⟨rfl,S,t+1,by omega,h2,heap_setCell_same w3 b 1 _ _ _ h5,fun r' e=>?_⟩,(grown_ext (hW2.trans hE3) _).trans (grown_set _ b 1 _)⟩
          simp only[zI]at e
          rw[←e,←HQ.out,zA]
          congr 1;omega
         ·have tq:(iv.toList == dv.toList)=false:=by
           rw[beq_eq_false_iff_ne]
           intro e
           have e2:=eq_of_toList e
           rw[←hiv,HDV.out]at e2
           exact hv (txt_eq e2)
          have HO:=zL (show(some q).bind (rdNum c)=none from by rw[HNUM.out,rnum_pos HH.out,HACC.out];simp only;rw[if_neg HMIN.out,if_neg hv];rfl)
          rw[hiv]
          clear hiv hv
          go_wp2_with fail
          go_ret2
          first|rw[HO.out]|rw[show rdNum c q=none from HO.out]
          exact⟨⟨rfl,(hR.ext hW2).ext hE3⟩,grown_ext (hW2.trans hE3) _⟩
        ·have tz:(acc == -acc)=false:=by rw[beq_eq_false_iff_ne];omega
         have HZ:=zL hz
         clear hz
         go_wp2_with fail
         refine(dec_any _ (-acc) (zF _) ⟨by omega,by omega⟩ _).mono ?_
         rintro e w3 ⟨rfl,hE3⟩
         obtain⟨iv,hiv⟩ :∃iv:ByteArray,(⟨(zM (-acc)).toArray⟩:ByteArray)=iv:=⟨_,rfl⟩
         have h5:=(hE3.below.block b (zJ.1 h3w).1).trans h3w
         have f1:w3.frozen? ⟨b,1,none⟩=false:=by simp[World.frozen?,h5]
         have d1:w3.cell? ⟨b,1,none⟩=some (.int .i64 (a:Nat)):=by simp[World.cell?,h5]
         by_cases hv:zM (-acc)=d
         ·have tq:(iv.toList == dv.toList)=true:=by rw[←hiv,HDV.out,hv];exact beq_self_eq_true _
          have HO:=zL (show(some q).bind (rdNum c)=some (-acc,q.drop (t-a+1)) from by rw[HNUM.out,rnum_pos HH.out,HACC.out];simp only;rw[if_neg HMIN.out,if_pos hv];rfl)
          rw[hiv]
          clear hiv hv
          go_wp2_with fail
          go_ret2
          first|rw[HO.out]|rw[show rdNum c q=some (-acc,q.drop (t-a+1)) from HO.out]
          refine⟨⟨rfl,S,t+1,by omega,h2,heap_setCell_same w3 b 1 _ _ _ h5,fun r' e=>?_⟩,(grown_ext (hW2.trans hE3) _).trans (grown_set _ b 1 _)⟩
          simp only[zI]at e
          rw[←e,←HQ.out,zA]
          congr 1;omega
         ·have tq:(iv.toList == dv.toList)=false:=by
           rw[beq_eq_false_iff_ne]
           intro e
           have e2:=eq_of_toList e
           rw[←hiv,HDV.out]at e2
           exact hv (txt_eq e2)
          have HO:=zL (show(some q).bind (rdNum c)=none from by rw[HNUM.out,rnum_pos HH.out,HACC.out];simp only;rw[if_neg HMIN.out,if_neg hv];rfl)
          rw[hiv]
          clear hiv hv
          go_wp2_with fail
          go_ret2
          first|rw[HO.out]|rw[show rdNum c q=none from HO.out]
          exact⟨⟨rfl,(hR.ext hW2).ext hE3⟩,grown_ext (hW2.trans hE3) _⟩
   ·have tC:((x.toNat:Int) != (c.toNat:Int))=true:=by
     rw[bne_iff_ne]
     intro e
     exact hxc (UInt8.toNat_inj.1 (by simpa using zK.1 e))
    have h21:t=a+21:=by
     rcases hex with h|⟨_,h|h⟩
     ·exact absurd h hend
     ·exact absurd h hxc
     ·exact h
    have HNO:=zL (show(some q).bind (rdNum c)=none from scan_far (fun i hi=>by
     rcases zG i 21 with h|h
     ·exact HSCAN.out i (by omega)
     ·obtain rfl:i=21:=by omega
      rw[HQD.out,←h21,HX.out];exact hxc))
    clear hex hend hxc h21
    go_wp2_with fail
    go_ret2
    rw[HNO.out]
    exact⟨⟨rfl,hR⟩,hself⟩
end Go.Proofs.YtmiencglfhpmeaaGreatDoor.Wr
namespace Go.Proofs.YtmiencglfhpmeaaGreatDoor.Wr
open Go.RowKit Hach Num
def RIntEnd (e:Ending) (w':World) (b:Nat) (o:Option (Int×List UInt8)):Prop:=e=.returned (.int .i64 ((o.map (·.1)).getD 0))∧RR w' b (o.map (·.2))
def RTextEnd (e:Ending) (w':World) (b:Nat) (o:Option (List UInt8×List UInt8)):Prop:=e=.returned (.string ⟨((o.map (·.1)).getD []).toArray⟩)∧RR w' b (o.map (·.2))
theorem rint_any (b:Nat) (l:Option (List UInt8)) (w:World) (hR:RR w b l) :
  Calls Tryz.prog 63 #[.pointer (some ⟨b,0,none⟩)] w fun e w'=>RIntEnd e w' b (l.bind rdInt)∧w.grownBy w' (some b):=by
 have hn:=rnumber_any 59 b l w hR
 have hn:Calls Tryz.prog 91 #[.pointer (some ⟨b,0,none⟩),.int .u8 59] w fun e w'=>RNum e w' b l (l.bind rdInt)∧w.grownBy w' (some b):=hn
 cases ho:l.bind rdInt with
 | none=>
  rw[ho]at hn
  go_enter Tryz.func63,Tryz.ntmps63
  go_wp2_with fail
  refine hn.mono ?_
  rintro e w1 ⟨⟨rfl,hR1⟩,hg1⟩
  go_wp2_with fail
  refine(rfail_any b l w1 hR1).mono ?_
  rintro e w2 ⟨rfl,hR2,hg2⟩
  go_wp2_with fail
  go_ret
  exact⟨⟨rfl,hR2⟩,hg1.trans hg2⟩
 | some p=>
  rw[ho]at hn
  go_enter Tryz.func63,Tryz.ntmps63
  go_wp2_with fail
  refine hn.mono ?_
  rintro e w1 ⟨⟨rfl,hR1⟩,hg1⟩
  go_wp2_with fail
  go_ret
  exact⟨⟨rfl,hR1⟩,hg1⟩
theorem rtext_any (b:Nat) (l:Option (List UInt8)) (w:World) (hR:RR w b l) :
  Calls Tryz.prog 62 #[.pointer (some ⟨b,0,none⟩)] w fun e w'=>RTextEnd e w' b (l.bind rdText)∧w.grownBy w' (some b):=by
 have hn:Calls Tryz.prog 91 #[.pointer (some ⟨b,0,none⟩),.int .u8 58] w fun e w'=>RNum e w' b l (l.bind (rdNum 58))∧w.grownBy w' (some b):=rnumber_any 58 b l w hR
 cases ho:l.bind (rdNum 58) with
 | none=>
  have ht:l.bind rdText=none:=by
   cases l with
   | none=>rfl
   | some l=>simp only[zH]at ho ⊢;unfold rdText;rw[ho]
  rw[ho]at hn
  rw[ht]
  clear ht ho
  go_enter Tryz.func62,Tryz.ntmps62
  go_wp2_with fail
  refine hn.mono ?_
  rintro e w1 ⟨⟨rfl,hR1⟩,hg1⟩
  go_wp2_with fail
  refine(rfail_any b l w1 hR1).mono ?_
  rintro e w2 ⟨rfl,hR2,hg2⟩
  go_wp2_with fail
  go_ret
  exact⟨⟨rfl,hR2⟩,hg1.trans hg2⟩
 | some p=>
  obtain⟨n,r⟩:=p
  rw[ho]at hn
  have hni:InI n:=by
   cases l with
   | none=>cases ho
   | some l=>exact(rdNum_only (show rdNum 58 l=some (n,r) from ho)).1
  obtain⟨hn0,hn1⟩:=hni
  by_cases hbad:n<0∨(r.length:Int)<n
  ·have ht:l.bind rdText=none:=by
    cases l with
    | none=>rfl
    | some l=>simp only[zH]at ho ⊢;unfold rdText;rw[ho];simp only;rw[if_pos hbad]
   rw[ht]
   clear ht ho
   by_cases hneg:n<0
   ·have t1:decide (n<0)=true:=by simpa using hneg
    clear hbad
    go_enter Tryz.func62,Tryz.ntmps62
    go_wp2_with fail
    refine hn.mono ?_
    rintro e w1 ⟨⟨rfl,hR1⟩,hg1⟩
    have hR1:RR w1 b (some r):=hR1
    go_wp2_with fail
    refine(rfail_any b _ w1 hR1).mono ?_
    rintro e w2 ⟨rfl,hR2,hg2⟩
    go_wp2_with fail
    go_ret
    exact⟨⟨rfl,hR2⟩,hg1.trans hg2⟩
   ·have t1:decide (n<0)=false:=by simpa using hneg
    have t2:decide ((r.length:Int)<n)=true:=by
     rcases hbad with h|h
     ·exact absurd h hneg
     ·simpa using h
    clear hbad
    go_enter Tryz.func62,Tryz.ntmps62
    go_wp2_with fail
    refine hn.mono ?_
    rintro e w1 ⟨⟨rfl,hR1⟩,hg1⟩
    have hR1:RR w1 b (some r):=hR1
    go_wp2_with fail
    refine(rleft_any b (some r) w1 hR1).mono ?_
    rintro e w2 ⟨rfl,hE2⟩
    rw[show((some r).getD []).length=r.length from rfl]
    go_wp2_with fail
    refine(rfail_any b _ w2 (hR1.ext hE2)).mono ?_
    rintro e w3 ⟨rfl,hR3,hg3⟩
    go_wp2_with fail
    go_ret
    exact⟨⟨rfl,hR3⟩,(hg1.trans (grown_ext hE2 _)).trans hg3⟩
  ·obtain⟨k,rfl⟩ :∃k:Nat,n=k:=⟨n.toNat,by omega⟩
   have hk:k≤r.length:=by omega
   have ht:l.bind rdText=some (r.take k,r.drop k):=by
    cases l with
    | none=>cases ho
    | some l=>simp only[zH]at ho ⊢;unfold rdText;rw[ho];simp only;rw[if_neg hbad];simp
   rw[ht]
   have t1:decide ((k:Int)<0)=false:=by simp
   have t2:decide ((r.length:Int)<k)=false:=by simp;omega
   have t3:decide (r.length<k)=false:=by simpa using hk
   clear ht ho hbad
   go_enter Tryz.func62,Tryz.ntmps62
   go_wp2_with fail
   refine hn.mono ?_
   rintro e w1 ⟨⟨rfl,hR1⟩,hg1⟩
   have hR1:RR w1 b (some r):=hR1
   go_wp2_with fail
   refine(rleft_any b (some r) w1 hR1).mono ?_
   rintro e w2 ⟨rfl,hE2⟩
   rw[show((some r).getD []).length=r.length from rfl]
   obtain⟨S,a,h1,h2,h3,h4⟩:=hR1.ext hE2
   have hd:=h4 r rfl
   have hrl:r.length=S.length-a:=by rw[←hd,zE]
   have c0:w2.cell? ⟨b,0,none⟩=some (.string ⟨S.toArray⟩):=by simp[World.cell?,h3]
   have c1:w2.cell? ⟨b,1,none⟩=some (.int .i64 (a:Nat)):=by simp[World.cell?,h3]
   have f1:w2.frozen? ⟨b,1,none⟩=false:=by simp[World.frozen?,h3]
   have hz:=toArr_size S
   obtain⟨ov,hov⟩ :∃ov:ByteArray,(⟨S.toArray⟩:ByteArray).extract a (a+k)=ov:=⟨_,rfl⟩
   have HOV:Hid (ov=⟨(r.take k).toArray⟩):=by
    show ov=_
    rw[←hov,←hd]
    apply ba_ext;rw[ByteArray.data_extract];simp[show a+k-a=k by omega]
   have HD:=zL hd
   have g1 :¬((a:Int)+(k:Int)<(a:Int)):=by omega
   have g2 :¬((S.length:Int)<(a:Int)+(k:Int)):=by omega
   clear hd h4
   go_wp2_with fail
   go_quiet (fail)
   go_wp2_with fail
   go_ret
   refine⟨⟨?_,S,a+k,by omega,h2,heap_setCell_same _ b 1 _ _ _ h3,fun r' e=>?_⟩,((hg1.trans (grown_ext hE2 _)).trans (grown_ext (ext_drewN _ _) _)).trans (grown_set _ b 1 _)⟩
   ·show Ending.returned (Value.string _)=_
    rw[hov,HOV.out];rfl
   ·simp only[Option.map_some,zI]at e
    rw[←e,←HD.out,zA]
end Go.Proofs.YtmiencglfhpmeaaGreatDoor.Wr
