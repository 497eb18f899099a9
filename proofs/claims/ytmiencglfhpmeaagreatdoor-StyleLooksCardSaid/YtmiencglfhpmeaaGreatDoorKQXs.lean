/- Contracts of the library's functions that layer 2 calls, and of the readers' small methods. -/
import Derived.Test.YtmiencglfhpmeaaGreatDoorKQXq
import Derived.Lib.SmallJoins
import Derived.Lib.AppendIntMem
import Derived.ScopeJumps
import Derived.Deep.LoopGhost
import Derived.Deep.CutBlock
import Derived.Test.YtmiencglfhpmeaaGreatDoorKQSh
import Derived.Test.YtmiencglfhpmeaaGreatDoorKQSa
import Derived.Test.YtmiencglfhpmeaaGreatDoorKQXk
import Derived.Test.YtmiencglfhpmeaaGreatDoorKQXp
import Derived.Test.YtmiencglfhpmeaaGreatDoorKQXn
import Derived.Deep.QuietTactic
import Derived.BigQuiet
open List renaming length_append → zA, length_singleton → zB
open Nat renaming le_refl → zC
open Option renaming bind_some → zD, getD_some → zE
open Int renaming mul_tdiv_add_tmod → zF, neg_neg → zG, neg_tdiv → zH, neg_tmod → zI, tmod → zJ, toNat_natCast → zK
open Go.Lib renaming decDigits_one → zL, hid → zM, itoa → zN
set_option linter.unusedSimpArgs false
set_option linter.unusedVariables false
namespace Go.Proofs.YtmiencglfhpmeaaGreatDoor.Wr
open Go.RowKit Hach Num
def Tabs (w:World):Prop:=
 Lib.TabIs Tryz.prog w "internal/strconv.uint64pow10" .u64 Lib.pow10Tab∧4≤w.heap.size∧(∃m,w.cell? ⟨1,0,none⟩=some (.int .i64 m)) ∧
  (∃ev,w.cell? ⟨2,0,none⟩=some ev∧(ev=.nilIface ∨∃te pe,ev=.iface te pe))∧(∃ev,w.cell? ⟨3,0,none⟩=some ev∧(ev=.nilIface ∨∃te pe,ev=.iface te pe))
theorem Tabs.keep {w w':World}(h:Tabs w) (hz:w.heap.size≤w'.heap.size) (hk :∀k,k<4→w'.heap[k]?=w.heap[k]?):Tabs w':=by
 obtain⟨h0,hs,h1,h2,h3⟩:=h
 refine⟨?_,by omega,?_,?_,?_⟩
 ·have hg:Tryz.prog.globalNamed "internal/strconv.uint64pow10" = some 0:=by kernel_rfl
  unfold Lib.TabIs World.var? at h0 ⊢
  rw[hg]at h0 ⊢
  simp only[zD]at h0 ⊢
  rw[hk 0 (by omega)]
  exact h0
 ·obtain⟨m,h⟩:=h1
  exact⟨m,(World.cell?_of_block (a:=⟨1,0,none⟩) (hk 1 (by omega))).trans h⟩
 ·obtain⟨m,h,r⟩:=h2
  exact⟨m,(World.cell?_of_block (a:=⟨2,0,none⟩) (hk 2 (by omega))).trans h,r⟩
 ·obtain⟨m,h,r⟩:=h3
  exact⟨m,(World.cell?_of_block (a:=⟨3,0,none⟩) (hk 3 (by omega))).trans h,r⟩
theorem Tabs.sz {w:World}(h:Tabs w):4≤w.heap.size:=h.2.1
theorem Tabs.ext {w w':World}(h:Tabs w) (hE:Ext w w'):Tabs w':=h.keep hE.sz fun k hk=>hE.below.block k (by have:=h.sz;omega)
theorem Tabs.grown {w w':World}{b:Nat}(h:Tabs w) (hg:w.grownBy w' (some b)) (hb:4≤b):Tabs w':=
 h.keep hg.size fun k hk=>hg.block k (by have:=h.sz;omega) (by simp;omega)
theorem ext_grow (w:World) (k:Nat) (os:Array Obj):Ext w (Sort.grow (w.drewN k) os):=Lib.below_grow _ w (zC _) k os
theorem ext_drewN (w:World) (k:Nat):Ext w (w.drewN k):=⟨rfl,rfl,rfl,zC _,fun _ _=>rfl⟩
theorem itoa_any (n:Int) (hn:InI n) (w:World) (ht:Tabs w) :
  Calls Tryz.prog 84 #[.int .i64 n] w fun e w'=>e=.returned (.string ⟨(zN n).toArray⟩)∧Ext w w':=by
 refine(Tryz.strconv_Itoa n hn.1 hn.2 w ht.1).mono ?_
 rintro e w' ⟨rfl,k,os,rfl⟩
 exact⟨rfl,ext_grow w k os⟩
theorem atoi_any (d:ByteArray) (hd:d.size<4294967296) (w:World) (ht:Tabs w) :
    Calls Tryz.prog 111 #[.string d] w fun e w'=>
      ((∃v,InI v∧num d.data.toList=(if zN v=d.data.toList then some v else none)∧e=.returned (.tuple #[.int .i64 v,.nilIface])) ∨
       (∃v te pe,num d.data.toList=none∧e=.returned (.tuple #[.int .i64 v,.iface te pe])))∧Ext w w':=by
  obtain⟨_,_,_,⟨e2,c2,k2⟩,⟨e3,c3,k3⟩⟩:=ht
  cases h:Lib.atoiAll d.data.toList
  · rename_i v
    refine(Tryz.strconv_Atoi_ok d (by omega) v h w).mono ?_
    rintro e w' ⟨rfl,hw⟩
    refine⟨.inl ⟨v,Lib.atoiAll_bounds h,?_,rfl⟩,?_⟩
    · unfold num;rw[h]
    · rcases hw with rfl|⟨t,rfl⟩
      · exact Ext.refl _
      · exact Joins.below_bytesWorld _ w _ t (zC _)
  · refine(show Calls Tryz.prog 111 #[.string d] w _ from Any.strconv_Atoi_syntax Tryz.laysC172 d (by omega) h e2 w c2 k2).mono ?_
    rintro e w' ⟨N,rfl,_,_,hb⟩
    exact⟨.inr ⟨_,_,_,by unfold num;rw[h],rfl⟩,hb⟩
  · refine(show Calls Tryz.prog 111 #[.string d] w _ from Any.strconv_Atoi_range Tryz.laysC172 d (by omega) h e3 w c3 k3).mono ?_
    rintro e w' ⟨N,rfl,_,_,hb⟩
    exact⟨.inr ⟨_,_,_,by unfold num;rw[h],rfl⟩,hb⟩
theorem cut_any (s:ByteArray) (c:UInt8) (hs:s.size<4294967281) (w:World) (ht:Tabs w) :
    Calls Tryz.prog 110 #[.string s,.string ⟨#[c]⟩] w fun e w'=>
      ((∃a b,cutB c s.data.toList=some (a,b)∧e=.returned (.tuple #[.string ⟨a.toArray⟩,.string ⟨b.toArray⟩,.bool true])) ∨
       (cutB c s.data.toList=none∧e=.returned (.tuple #[.string s,.string ⟨#[]⟩,.bool false])))∧Ext w w':=by
  obtain⟨_,_,⟨m,hm⟩,_⟩:=ht
  refine(Tryz.strings_Cut s ⟨#[c]⟩ m w hs hm).mono ?_
  rintro e w' ⟨rfl,k,rfl⟩
  refine⟨?_,ext_drewN w k⟩
  have hc:=cut_one c s.data.toList
  show _∨_
  rw[show(⟨#[c]⟩:ByteArray).data.toList=[c] from rfl,hc]
  cases h:cutB c s.data.toList with
  | none=>exact .inr ⟨rfl,rfl⟩
  | some p=>exact .inl ⟨p.1,p.2,rfl,rfl⟩
theorem grown_set (w:World) (b o:Nat) (v:Value):w.grownBy (w.setCell ⟨b,o,none⟩ v) (some b):=
 ⟨rfl,rfl,rfl,by simp[World.setCell],fun k _ hk=>heap_setCell_other w _ k v (fun e=>hk (by rw[e]))⟩
theorem grown_ext {w w':World}(h:Ext w w') (r:Option Nat):w.grownBy w' r:=⟨h.os,h.tape,h.output,h.size,fun k hk _=>h.block k hk⟩
def Rd (w:World) (b:Nat) (l:Option (List UInt8)):Prop:=w.heap[b]?=some (.cells #[.string ⟨(l.getD []).toArray⟩,.bool l.isNone] 134 (0,0))
theorem Rd.cell0 {w:World}{b:Nat}{l:Option (List UInt8)}(h:Rd w b l):w.cell? ⟨b,0,none⟩=some (.string ⟨(l.getD []).toArray⟩):=by simp[World.cell?,show w.heap[b]?=_ from h]
theorem Rd.cell1 {w:World}{b:Nat}{l:Option (List UInt8)}(h:Rd w b l):w.cell? ⟨b,1,none⟩=some (.bool l.isNone):=by simp[World.cell?,show w.heap[b]?=_ from h]
theorem Rd.free {w:World}{b:Nat}{l:Option (List UInt8)}(h:Rd w b l) (o:Nat):w.frozen? ⟨b,o,none⟩=false:=by simp[World.frozen?,show w.heap[b]?=_ from h]
theorem Rd.lt {w:World}{b:Nat}{l:Option (List UInt8)}(h:Rd w b l):b<w.heap.size:=(Array.getElem?_eq_some_iff.1 h).1
theorem Rd.ext {w w':World}{b:Nat}{l:Option (List UInt8)}(h:Rd w b l) (hE:Ext w w'):Rd w' b l:=(hE.below.block b h.lt).trans h
theorem bad_any (b:Nat) (l:Option (List UInt8)) (w:World) (h:Rd w b l) :
  Calls Tryz.prog 59 #[.pointer (some ⟨b,0,none⟩)] w fun e w'=>e=.returned (.bool l.isNone)∧w'=w:=by
 have c1:=h.cell1
 go_enter Tryz.func59,Tryz.ntmps59
 go_wp2_with fail
 go_ret
 exact⟨rfl,rfl⟩
theorem left_any (b:Nat) (l:Option (List UInt8)) (w:World) (h:Rd w b l) :
  Calls Tryz.prog 55 #[.pointer (some ⟨b,0,none⟩)] w fun e w'=>e=.returned (.int .i64 ((l.getD []).length:Nat))∧w'=w:=by
 have c0:=h.cell0
 cases l with
 | none=>
  go_enter Tryz.func55,Tryz.ntmps55
  go_wp2_with fail
  refine(bad_any b _ w h).mono ?_
  rintro e w' ⟨rfl,rfl⟩
  go_wp2_with fail
  go_ret
  exact⟨rfl,rfl⟩
 | some l=>
  go_enter Tryz.func55,Tryz.ntmps55
  go_wp2_with fail
  refine(bad_any b _ w h).mono ?_
  rintro e w' ⟨rfl,rfl⟩
  go_wp2_with fail
  go_ret
  exact⟨by simp,rfl⟩
theorem fail_any (b:Nat) (l:Option (List UInt8)) (w:World) (h:Rd w b l) :
  Calls Tryz.prog 89 #[.pointer (some ⟨b,0,none⟩)] w fun e w'=>e=.returned (.tuple #[])∧Rd w' b none∧w.grownBy w' (some b):=by
 have c0:=h.cell0
 have c1:=h.cell1
 have f0:=h.free 0
 have f1:=h.free 1
 go_enter Tryz.func89,Tryz.ntmps89
 go_wp2_with fail
 go_end0
 refine⟨rfl,?_,(grown_set w b 1 _).trans (grown_set _ b 0 _)⟩
 exact heap_setCell_same _ b 0 _ _ _ (heap_setCell_same w b 1 _ _ _ h)
end Go.Proofs.YtmiencglfhpmeaaGreatDoor.Wr
namespace Go.Proofs.YtmiencglfhpmeaaGreatDoor.Wr
open Go.RowKit Hach Num
def NumEnd (e:Ending) (w':World) (b:Nat) (o:Option (Int×List UInt8)):Prop:=match o with
 | none=>e=.returned (.tuple #[.int .i64 0,.bool false])∧Rd w' b none
 | some (v,r)=>e=.returned (.tuple #[.int .i64 v,.bool true])∧Rd w' b (some r)
set_option maxHeartbeats 400000 in
theorem number_any (b:Nat) (l:Option (List UInt8)) (c:UInt8) (w:World) (hR:Rd w b l) (hb:4≤b) (hT:Tabs w) (hl:(l.getD []).length<4294967281) :
  Calls Tryz.prog 88 #[.pointer (some ⟨b,0,none⟩),.string ⟨#[c]⟩] w fun e w'=>NumEnd e w' b (l.bind (rdNum c))∧w.grownBy w' (some b):=by
 go_enter Tryz.func88,Tryz.ntmps88
 go_wp2_with fail
 refine wp_scope_jumps 0 (fun a' w' =>∃u1 u2 u3 u4 u5 u6 u7 u8 u9 u10 u11 u12 u13 u14 u15 u16 u17 u18 u19 u20 u21 u22 u23 u24 u25 u26 u27 u28 u29 u30 u31 u32 u33 u34 u35 u36 u37 u38 u39 u40:Value,a'={ tmps:=#[.pointer (some ⟨b,0,none⟩),u1,u2,u3,u4,u5,u6,u7,u8,u9,u10,u11,u12,u13,u14,u15,u16,u17,u18,u19,u20,u21,u22,u23,u24,u25,u26,u27,u28,u29,u30,u31,u32,u33,u34,u35,u36,u37,u38,u39,u40],defers:=[] }∧(∃l',Rd w' b l')∧w.grownBy w' (some b)∧l.bind (rdNum c)=none) (fun _ _=>0) rfl ?first ?pass
 case pass=>
  rintro a' w' ⟨u1,u2,u3,u4,u5,u6,u7,u8,u9,u10,u11,u12,u13,u14,u15,u16,u17,u18,u19,u20,u21,u22,u23,u24,u25,u26,u27,u28,u29,u30,u31,u32,u33,u34,u35,u36,u37,u38,u39,u40,rfl,⟨l',hR'⟩,hg,hno⟩
  go_wp2_with fail
  refine(fail_any b l' w' hR').mono ?_
  rintro e w2 ⟨rfl,hR2,hg2⟩
  go_wp2_with fail
  simp only[Exit.jump]
  go_ret2
  rw[hno]
  exact⟨⟨rfl,hR2⟩,hg.trans hg2⟩
 case first=>
  cases l with
  | none=>
   go_wp2_with fail
   refine(bad_any b _ w hR).mono ?_
   rintro e w' ⟨rfl,rfl⟩
   go_wp2_with fail
   go_step3
   refine⟨rfl,_,_,_,_,_,_,_,_,_,_,_,_,_,_,_,_,_,_,_,_,_,_,_,_,_,_,_,_,_,_,_,_,_,_,_,_,_,_,_,_,rfl,⟨_,hR⟩,⟨rfl,rfl,rfl,zC _,fun _ _ _=>rfl⟩,rfl⟩
  | some l=>
   have c0:=hR.cell0
   have f0:=hR.free 0
   have hls:(⟨l.toArray⟩:ByteArray).size<4294967281:=by show l.toArray.size<_;simpa using hl
   go_wp2_with fail
   refine(bad_any b _ w hR).mono ?_
   rintro e w' ⟨rfl,rfl⟩
   go_wp2_with fail
   refine(cut_any ⟨l.toArray⟩ c hls w' hT).mono ?_
   rintro e w1 ⟨he,hE1⟩
   have hR1:=hR.ext hE1
   have f1:=hR1.free 0
   have c1:=hR1.cell0
   have hT1:=hT.ext hE1
   simp only[]at he
   rcases he with⟨a,r,hc,rfl⟩|⟨hc,rfl⟩
   ·have hal:a.length<4294967281:=by
     obtain⟨e,_⟩:=cutB_some hc
     have:l.length=a.length+(r.length+1):=by rw[show l=_ from e];simp
     simp at hl;omega
    have has:(⟨a.toArray⟩:ByteArray).size<4294967296:=by show a.toArray.size<_;simp;omega
    go_wp2_with fail
    obtain⟨w2,hw2⟩ :∃w2,w1.setCell ⟨b,0,none⟩ (.string ⟨r.toArray⟩)=w2:=⟨_,rfl⟩
    have hR2:Rd w2 b (some r):=by rw[←hw2];exact heap_setCell_same w1 b 0 _ _ _ hR1
    have hg2:w'.grownBy w2 (some b):=by rw[←hw2];exact(grown_ext hE1 _).trans (grown_set w1 b 0 _)
    have hT2:=hT.grown hg2 hb
    rw[hw2]
    clear hw2
    refine(atoi_any ⟨a.toArray⟩ has w2 hT2).mono ?_
    rintro e w3 ⟨he,hE3⟩
    have hR3:=hR2.ext hE3
    have hg3:=hg2.trans (grown_ext hE3 _)
    have hT3:=hT.grown hg3 hb
    rcases he with⟨v,hv,hn,rfl⟩|⟨v,te,pe,hn,rfl⟩
    ·go_wp2_with fail
     refine(itoa_any v hv w3 hT3).mono ?_
     rintro e w4 ⟨rfl,hE4⟩
     have hR4:=hR3.ext hE4
     have hg4:=hg3.trans (grown_ext hE4 _)
     obtain⟨iv,hiv⟩ :∃iv:ByteArray,(⟨(zN v).toArray⟩:ByteArray)=iv:=⟨_,rfl⟩
     obtain⟨av,hav⟩ :∃av:ByteArray,(⟨a.toArray⟩:ByteArray)=av:=⟨_,rfl⟩
     by_cases hva:zN v=a
     ·have tq:(iv.toList == av.toList)=true:=by rw[←hiv,←hav,hva];exact beq_self_eq_true _
      have hnum:(some l).bind (rdNum c)=some (v,r):=by simp only[zD,rdNum,hc];rw[show num a=some v from by rw[show num a=_ from hn,if_pos hva]];rfl
      rw[hiv,hav]
      clear hn hva hiv hav
      go_wp2_with fail
      simp only[Exit.jump]
      go_ret2
      rw[hnum]
      exact⟨⟨rfl,hR4⟩,hg4⟩
     ·have tq:(iv.toList == av.toList)=false:=by
       rw[beq_eq_false_iff_ne]
       intro e
       have e2:=eq_of_toList e
       rw[←hiv,←hav]at e2
       injection e2 with e2
       exact hva (by simpa using congrArg Array.toList e2)
      have hnum:(some l).bind (rdNum c)=none:=by simp only[zD,rdNum,hc];rw[show num a=none from by rw[show num a=_ from hn,if_neg hva]];rfl
      rw[hiv,hav]
      clear hn hva hiv hav
      go_wp2_with fail
      go_step3
      refine⟨rfl,_,_,_,_,_,_,_,_,_,_,_,_,_,_,_,_,_,_,_,_,_,_,_,_,_,_,_,_,_,_,_,_,_,_,_,_,_,_,_,_,rfl,⟨_,hR4⟩,hg4,hnum⟩
    ·go_wp2_with fail
     go_step3
     refine⟨rfl,_,_,_,_,_,_,_,_,_,_,_,_,_,_,_,_,_,_,_,_,_,_,_,_,_,_,_,_,_,_,_,_,_,_,_,_,_,_,_,_,rfl,⟨_,hR3⟩,hg3,(by simp only[zD,rdNum,hc,hn];rfl)⟩
   ·go_wp2_with fail
    go_step3
    refine⟨rfl,_,_,_,_,_,_,_,_,_,_,_,_,_,_,_,_,_,_,_,_,_,_,_,_,_,_,_,_,_,_,_,_,_,_,_,_,_,_,_,_,rfl,⟨_,(heap_setCell_same w1 b 0 _ _ _ hR1:Rd _ b (some []))⟩,(grown_ext hE1 _).trans (grown_set w1 b 0 _),(by simp only[zD,rdNum,hc])⟩
theorem ba_take (r:List UInt8) (k:Nat):(⟨r.toArray⟩:ByteArray).extract 0 k=⟨(r.take k).toArray⟩:=by
 apply ba_ext;rw[ByteArray.data_extract];simp
theorem ba_drop (r:List UInt8) (k:Nat):(⟨r.toArray⟩:ByteArray).extract k r.length=⟨(r.drop k).toArray⟩:=by
 apply ba_ext;rw[ByteArray.data_extract];simp
 rw[List.take_of_length_le]
 simp
def IntEnd (e:Ending) (w':World) (b:Nat) (o:Option (Int×List UInt8)):Prop:=e=.returned (.int .i64 ((o.map (·.1)).getD 0))∧Rd w' b (o.map (·.2))
def TextEnd (e:Ending) (w':World) (b:Nat) (o:Option (List UInt8×List UInt8)):Prop:=e=.returned (.string ⟨((o.map (·.1)).getD []).toArray⟩)∧Rd w' b (o.map (·.2))
theorem int_any (b:Nat) (l:Option (List UInt8)) (w:World) (hR:Rd w b l) (hb:4≤b) (hT:Tabs w) (hl:(l.getD []).length<4294967281) :
  Calls Tryz.prog 57 #[.pointer (some ⟨b,0,none⟩)] w fun e w'=>IntEnd e w' b (l.bind rdInt)∧w.grownBy w' (some b):=by
 go_enter Tryz.func57,Tryz.ntmps57
 go_wp2_with fail
 refine(number_any b l 59 w hR hb hT hl).mono ?_
 rintro e w' ⟨hn,hg⟩
 show _
 have hn:NumEnd e w' b (l.bind rdInt):=hn
 cases ho:l.bind rdInt with
 | none=>
  rw[ho]at hn
  obtain⟨rfl,hR'⟩:=hn
  have HO:=zM ho
  clear ho
  go_wp2_with fail
  go_ret
  rw[HO.out]
  exact⟨⟨rfl,hR'⟩,hg⟩
 | some p=>
  rw[ho]at hn
  obtain⟨v,r⟩:=p
  obtain⟨rfl,hR'⟩:=hn
  have HO:=zM ho
  clear ho
  go_wp2_with fail
  go_ret
  rw[HO.out]
  exact⟨⟨rfl,hR'⟩,hg⟩
theorem text_any (b:Nat) (l:Option (List UInt8)) (w:World) (hR:Rd w b l) (hb:4≤b) (hT:Tabs w) (hl:(l.getD []).length<4294967281) :
  Calls Tryz.prog 56 #[.pointer (some ⟨b,0,none⟩)] w fun e w'=>TextEnd e w' b (l.bind rdText)∧w.grownBy w' (some b):=by
 go_enter Tryz.func56,Tryz.ntmps56
 go_wp2_with fail
 refine(number_any b l 58 w hR hb hT hl).mono ?_
 rintro e w' ⟨hn,hg⟩
 cases ho:l.bind (rdNum 58) with
 | none=>
  have ht:l.bind rdText=none:=by
   cases l with
   | none=>rfl
   | some l=>simp only[zD]at ho ⊢;unfold rdText;rw[ho]
  rw[ho]at hn
  have HT:=zM ht
  clear ht ho
  obtain⟨rfl,hR'⟩:=hn
  go_wp2_with fail
  refine(fail_any b _ w' hR').mono ?_
  rintro e w2 ⟨rfl,hR2,hg2⟩
  go_wp2_with fail
  go_ret
  rw[HT.out]
  exact⟨⟨rfl,hR2⟩,hg.trans hg2⟩
 | some p=>
  rw[ho]at hn
  obtain⟨n,r⟩:=p
  obtain⟨rfl,hR'⟩:=hn
  have c0:=hR'.cell0
  have f0:=hR'.free 0
  simp only[zE]at c0
  have hr:r.length<4294967281∧InI n:=by
   cases l with
   | none=>cases ho
   | some l=>
    obtain⟨hv,e⟩:=rdNum_only (show rdNum 58 l=some (n,r) from ho)
    have:l.length=(zN n).length+(r.length+1):=by rw[e];simp
    simp only[zE]at hl
    exact⟨by omega,hv⟩
  obtain⟨hrl,hn0,hn1⟩:=hr
  have hsz:(⟨r.toArray⟩:ByteArray).size=r.length:=by show r.toArray.size=_;simp
  by_cases hbad:n<0∨(r.length:Int)<n
  ·have ht:l.bind rdText=none:=by
    cases l with
    | none=>rfl
    | some l=>simp only[zD]at ho ⊢;unfold rdText;rw[ho];simp only;rw[if_pos hbad]
   have HT:=zM ht
   clear ht ho
   have t1:decide (n<0)=true∨decide (n<0)=false∧decide ((r.length:Int)<n)=true:=by
    by_cases h:n<0
    ·left;simpa using h
    ·right;refine⟨by simpa using h,?_⟩
     rcases hbad with h'|h'
     ·exact absurd h' h
     ·simpa using h'
   rcases t1 with t1|⟨t1,t2⟩
   ·go_wp2_with fail
    refine(fail_any b _ w' hR').mono ?_
    rintro e w2 ⟨rfl,hR2,hg2⟩
    go_wp2_with fail
    go_ret
    rw[HT.out]
    exact⟨⟨rfl,hR2⟩,hg.trans hg2⟩
   ·go_wp2_with fail
    refine(fail_any b _ w' hR').mono ?_
    rintro e w2 ⟨rfl,hR2,hg2⟩
    go_wp2_with fail
    go_ret
    rw[HT.out]
    exact⟨⟨rfl,hR2⟩,hg.trans hg2⟩
  ·obtain⟨k,rfl⟩ :∃k:Nat,n=k:=⟨n.toNat,by omega⟩
   have hk:k≤r.length:=by omega
   have ht:l.bind rdText=some (r.take k,r.drop k):=by
    cases l with
    | none=>cases ho
    | some l=>simp only[zD]at ho ⊢;unfold rdText;rw[ho];simp only;rw[if_neg hbad];simp
   have HT:=zM ht
   clear ht ho
   have t1:decide ((k:Int)<0)=false:=by simp
   have t2:decide ((r.length:Int)<k)=false:=by simp;omega
   have t3:decide (r.length<k)=false:=by simpa using hk
   go_wp2_with fail
   go_ret
   rw[HT.out]
   refine⟨⟨?_,?_⟩,hg.trans (grown_set w' b 0 _)⟩
   ·show Ending.returned (Value.string _)=_
    rw[ba_take];rfl
   ·have:=heap_setCell_same w' b 0 _ _ (.string ((⟨r.toArray⟩:ByteArray).extract k r.length)) hR'
    rw[ba_drop]at this
    rw[ba_drop]
    exact this
end Go.Proofs.YtmiencglfhpmeaaGreatDoor.Wr
namespace Go.Proofs.YtmiencglfhpmeaaGreatDoor.Wr
open Go.RowKit Hach Num
def txv (x:List UInt8):Value:=.string ⟨x.toArray⟩
theorem grown_own {w w1 w2:World}{b:Nat}{v:Value}(h:w.grownBy w1 (some b)) (k:w1.grownBy w2 v.ownBlock) (hv :∀g,v.ownBlock=some g→w.heap.size≤g):w.grownBy w2 (some b):=
 ⟨k.os.trans h.os,k.tape.trans h.tape,k.output.trans h.output,Nat.le_trans h.size k.size,fun i hi hr=>(k.block i (Nat.lt_of_lt_of_le hi h.size) (fun e=>by have:=hv i e.symm;omega)).trans (h.block i hi hr)⟩
theorem Rd.own {w w':World}{b:Nat}{l:Option (List UInt8)}{r:Option Nat}(h:Rd w b l) (hg:w.grownBy w' r) (hb:some b≠r):Rd w' b l:=(hg.block b h.lt hb).trans h
end Go.Proofs.YtmiencglfhpmeaaGreatDoor.Wr
namespace Go.Proofs.YtmiencglfhpmeaaGreatDoor.Wr
open Go.RowKit Hach Num
theorem ba_append (a b:List UInt8):(⟨a.toArray⟩:ByteArray)++⟨b.toArray⟩=⟨(a++b).toArray⟩:=by
 apply ba_ext;rw[data_append]
theorem one_byte {w:World}{g:Nat}{y:UInt8}(h:w.cell? ⟨g,0,none⟩=some (.int .u8 (y.toNat:Nat))) (c:Nat):(convert 97 9 (.slice (some ⟨g,0,none⟩) 1 c)).run Tryz.prog w=.ok (.string ⟨#[y]⟩) w:=by
 have hc:=run_convert_bytes_arg (P:=Tryz.prog) w 97 5 Tryz.underlying97 Tryz.underlying5 g 0 1 c [(y.toNat:Int)] rfl (by
  intro i hi
  obtain rfl:i=0:=by simpa using hi
  exact h) 9 Tryz.underlying9
 rw[hc]
 simp[strOfNums]
theorem itoa_small {n:Int}(h0:0≤n) (h1:n<10):zN n=[UInt8.ofNat (48+n.toNat)]:=by
 unfold zN;rw[if_neg (by omega),zL (by omega)]
theorem itoa_minus {n:Int}(h0 : -10<n) (h1:n<0):zN n=45::zN (-n):=by
 unfold zN;rw[if_pos h1,if_neg (by omega)];congr 2;omega
theorem itoa_step {n:Int}(h:n ≤ -10∨10≤n):zN n=zN (n.tdiv 10)++zN (if n<0 then -(n.tmod 10) else n.tmod 10):=by
 rcases h with h|h
 ·have hd:n.tdiv 10 = -((n.natAbs/10:Nat):Int):=by
   have e:n = -((n.natAbs:Nat):Int):=by omega
   rw[e,zH];simp[Int.tdiv]
  have hm:n.tmod 10 = -((n.natAbs%10:Nat):Int):=by
   have e:n = -((n.natAbs:Nat):Int):=by omega
   rw[e,zI];simp[zJ]
  rw[if_pos (by omega),hd,hm]
  unfold zN
  rw[if_pos (by omega),if_pos (by omega),if_neg (by omega)]
  rw[Lib.decDigits,dif_neg (by omega)]
  simp only[zG,Int.natAbs_neg,Int.natAbs_natCast,zK,List.cons_append]
  rw[zL (i:=n.natAbs%10) (by omega)]
 ·have hd:n.tdiv 10=((n.toNat/10:Nat):Int):=by
   have e:n=((n.toNat:Nat):Int):=by omega
   rw[e];simp[Int.tdiv]
  have hm:n.tmod 10=((n.toNat%10:Nat):Int):=by
   have e:n=((n.toNat:Nat):Int):=by omega
   rw[e];simp[zJ]
  rw[if_neg (by omega),hd,hm]
  unfold zN
  rw[if_neg (by omega),if_neg (by omega),if_neg (by omega)]
  rw[Lib.decDigits,dif_neg (by omega)]
  simp only[zK]
  rw[zL (i:=n.toNat%10) (by omega)]
theorem itoa_size {v:Int}(h:InI v):(zN v).length≤21∧(⟨(zN v).toArray⟩:ByteArray).size≤21:=by
 have:=Lib.itoa_length_le v h.1 h.2
 exact⟨this,by show(zN v).toArray.size≤21;simpa using this⟩
set_option maxRecDepth 100000 in
theorem dec_digit (j:Nat) (hj:j<10) (w:World) :
  Calls Tryz.prog 86 #[.int .i64 (j:Nat)] w fun e w'=>e=.returned (.string ⟨(zN j).toArray⟩)∧Ext w w':=by
 have hit:=itoa_small (n:=j) (by omega) (by omega)
 simp only[zK]at hit
 have hy:(UInt8.ofNat (48+j)).toNat=48+j:=dig_toNat hj
 obtain⟨y,hyy⟩ :∃y,UInt8.ofNat (48+j)=y:=⟨_,rfl⟩
 rw[hyy]at hy hit
 have hcv:(convert 97 9 (.slice (some ⟨w.heap.size,0,none⟩) 1 1)).run Tryz.prog (w.alloc (.cells #[.int .u8 (48+(j:Int))] 5))=.ok (.string ⟨#[y]⟩) (w.alloc (.cells #[.int .u8 (48+(j:Int))] 5)):=
  one_byte (y:=y) (by rw[hy];exact(World.cell?_alloc_new _ _ _ _).trans rfl) 1
 have HIT:=zM hit
 clear hit hy hyy
 go_enter Tryz.func86,Tryz.ntmps86
 go_wp2_with fail
 go_ret
 exact⟨by rw[HIT.out];rfl,Ext.alloc _ _⟩
set_option maxRecDepth 100000 in
set_option maxHeartbeats 400000 in
theorem dec_any (k:Nat) :∀(n:Int),n.natAbs≤k→InI n →∀w:World,
  Calls Tryz.prog 86 #[.int .i64 n] w fun e w'=>e=.returned (.string ⟨(zN n).toArray⟩)∧Ext w w':=by
 induction k using Nat.strongRecOn with
 | _ k ih=>
 intro n hk hn w
 obtain⟨hn0,hn1⟩:=hn
 by_cases h1:0≤n∧n<10
 ·obtain⟨j,rfl⟩ :∃j:Nat,n=j:=⟨n.toNat,by omega⟩
  exact dec_digit j (by omega) w
 ·by_cases h2:n<0
  ·by_cases h3 : -10<n
   ·obtain⟨j,rfl⟩ :∃j:Nat,n = -(j:Int):=⟨n.natAbs,by omega⟩
    have hit:=itoa_minus h3 h2
    rw[zG]at hit
    have em:(-(j:Int)).tmod 10 = -(j:Int):=by rw[zI,Int.tmod_eq_of_lt (by omega) (by omega)]
    have ed:(-(j:Int)).tdiv 10=0:=by rw[zH,Int.tdiv_eq_zero_of_lt (by omega) (by omega)];rfl
    have hj:j<10:=by omega
    have HIT:=zM hit
    clear hit ih
    go_enter Tryz.func86,Tryz.ntmps86
    go_wp2_with fail
    refine(dec_digit j hj w).mono ?_
    rintro e w1 ⟨rfl,hE⟩
    obtain⟨l1,l2⟩:=itoa_size (v:=j) ⟨by omega,by omega⟩
    go_wp2_with fail
    go_ret
    refine⟨?_,hE⟩
    rw[HIT.out]
    show Ending.returned (Value.string (⟨[45].toArray⟩++_))=_
    rw[ba_append];rfl
   ·have hit:=itoa_step (n:=n) (.inl (by omega))
    rw[if_pos h2]at hit
    obtain⟨q,hq⟩ :∃q,n.tdiv 10=q:=⟨_,rfl⟩
    obtain⟨m,hm⟩ :∃m,n.tmod 10=m:=⟨_,rfl⟩
    rw[hq,hm]at hit
    have hq0:q ≤ -1∧n<q:=by
     have:=zF n 10
     have:=Int.tmod_lt_of_pos n (show(0:Int)<10 by decide)
     have:=Int.lt_tmod_of_pos n (show(0:Int)<10 by decide)
     rw[hq,hm]at *
     omega
    have hm0 : -9≤m∧m≤0:=by
     have e:n = -((n.natAbs:Nat):Int):=by omega
     have:m = -((n.natAbs%10:Nat):Int):=by rw[←hm,e,zI];simp[zJ]
     omega
    obtain⟨hq1,hq2⟩:=hq0
    obtain⟨hm1,hm2⟩:=hm0
    have tq:(q == 0)=false:=by rw[beq_eq_false_iff_ne];omega
    have hrec:=ih q.natAbs (by omega) q (zC _) ⟨by omega,by omega⟩
    obtain⟨j,hj⟩ :∃j:Nat,-m=j:=⟨(-m).toNat,by omega⟩
    rw[hj]at hit
    have HIT:=zM hit
    have HREC:=zM hrec
    clear hit ih hrec
    go_enter Tryz.func86,Tryz.ntmps86
    go_wp2_with fail
    refine(HREC.out w).mono ?_
    rintro e w1 ⟨rfl,hE⟩
    go_wp2_with fail
    refine(dec_digit j (by omega) w1).mono ?_
    rintro e w2 ⟨rfl,hE2⟩
    obtain⟨l1,l2⟩:=itoa_size (v:=j) ⟨by omega,by omega⟩
    obtain⟨l3,l4⟩:=itoa_size (v:=q) ⟨by omega,by omega⟩
    go_wp2_with fail
    go_ret
    refine⟨?_,hE.trans hE2⟩
    rw[HIT.out,←ba_append];rfl
  ·have hit:=itoa_step (n:=n) (.inr (by omega))
   rw[if_neg h2]at hit
   obtain⟨q,hq⟩ :∃q,n.tdiv 10=q:=⟨_,rfl⟩
   obtain⟨m,hm⟩ :∃m,n.tmod 10=m:=⟨_,rfl⟩
   rw[hq,hm]at hit
   have hm0:0≤m∧m≤9:=by
    have e:n=((n.toNat:Nat):Int):=by omega
    have:m=((n.toNat%10:Nat):Int):=by rw[←hm,e];simp[zJ]
    omega
   have hq0:1≤q∧q<n:=by
    have:=zF n 10
    rw[hq,hm]at *
    omega
   obtain⟨hq1,hq2⟩:=hq0
   have hrec:=ih q.natAbs (by omega) q (zC _) ⟨by omega,by omega⟩
   obtain⟨j,rfl⟩ :∃j:Nat,m=j:=⟨m.toNat,by omega⟩
   have HIT:=zM hit
   have HREC:=zM hrec
   have t1:decide (n<10)=false:=by simp;omega
   clear hit ih hrec
   go_enter Tryz.func86,Tryz.ntmps86
   go_wp2_with fail
   refine(HREC.out w).mono ?_
   rintro e w1 ⟨rfl,hE⟩
   go_wp2_with fail
   refine(dec_digit j (by omega) w1).mono ?_
   rintro e w2 ⟨rfl,hE2⟩
   obtain⟨l1,l2⟩:=itoa_size (v:=j) ⟨by omega,by omega⟩
   obtain⟨l3,l4⟩:=itoa_size (v:=q) ⟨by omega,by omega⟩
   go_wp2_with fail
   go_ret
   refine⟨?_,hE.trans hE2⟩
   rw[HIT.out,←ba_append];rfl
end Go.Proofs.YtmiencglfhpmeaaGreatDoor.Wr
namespace Go.Proofs.YtmiencglfhpmeaaGreatDoor.Wr
open Go.RowKit Hach Num
theorem bytes_length (l:List UInt8):(Lib.byteCells l).length=l.length:=by simp[Lib.byteCells]
theorem toArr_size (l:List UInt8):(⟨l.toArray⟩:ByteArray).size=l.length:=by show l.toArray.size=_;simp
theorem wInt_any (n:Int) (hn:InI n) (w:World) (hT:Tabs w) :
  Calls Tryz.prog 48 #[.int .i64 n] w fun e w'=>e=.returned (.string ⟨(wrInt n).toArray⟩)∧Ext w w':=by
 obtain⟨l1,l2⟩:=itoa_size hn
 go_enter Tryz.func48,Tryz.ntmps48
 go_wp2_with fail
 refine(itoa_any n hn w hT).mono ?_
 rintro e w' ⟨rfl,hE⟩
 go_wp2_with fail
 go_ret
 refine⟨?_,hE⟩
 show Ending.returned (Value.string (_++⟨[59].toArray⟩))=_
 rw[ba_append];rfl
theorem wText_any (s:List UInt8) (hs:s.length<4294967296) (w:World) (hT:Tabs w) :
  Calls Tryz.prog 47 #[.string ⟨s.toArray⟩] w fun e w'=>e=.returned (.string ⟨(wrText s).toArray⟩)∧Ext w w':=by
 have hn:InI (s.length:Int):=⟨by omega,by omega⟩
 obtain⟨l1,l2⟩:=itoa_size hn
 have hz:=toArr_size s
 have hz2:=toArr_size (zN (s.length:Int)++[58])
 rw[←ba_append]at hz2
 simp only[zA,zB]at hz2
 go_enter Tryz.func47,Tryz.ntmps47
 go_wp2_with fail
 refine(itoa_any _ hn w hT).mono ?_
 rintro e w' ⟨rfl,hE⟩
 go_wp2_with fail
 go_ret
 refine⟨?_,hE⟩
 show Ending.returned (Value.string (_++⟨[58].toArray⟩++_))=_
 rw[ba_append,ba_append,List.append_assoc];rfl
theorem rInt_any (n:Int) (hn:InI n) (w:World) (_hT:Tabs w) :
  Calls Tryz.prog 52 #[.int .i64 n] w fun e w'=>e=.returned (.string ⟨(wrInt n).toArray⟩)∧Ext w w':=by
 obtain⟨l1,l2⟩:=itoa_size hn
 go_enter Tryz.func52,Tryz.ntmps52
 go_wp2_with fail
 refine(dec_any _ n (zC _) hn w).mono ?_
 rintro e w' ⟨rfl,hE⟩
 go_wp2_with fail
 go_ret
 refine⟨?_,hE⟩
 show Ending.returned (Value.string (_++⟨[59].toArray⟩))=_
 rw[ba_append];rfl
end Go.Proofs.YtmiencglfhpmeaaGreatDoor.Wr
namespace Go.Proofs.YtmiencglfhpmeaaGreatDoor.Wr
open Go.RowKit Hach Num
end Go.Proofs.YtmiencglfhpmeaaGreatDoor.Wr
namespace Go.Proofs.YtmiencglfhpmeaaGreatDoor
open Go.RowKit Hach Num
theorem textsL_take (l:List Rl) (k:Nat) (hk:k<l.length):textsL (l.take (k+1))=textsL (l.take k)++(l[k]).text:=by
 rw[List.take_succ_eq_append_getElem hk,textsL_append];simp[textsL]
structure TxSz (r:Rl):Prop where
 t0:r.nm.length≤24
 t1:(wrText r.nm).length≤46
 t2:(wrInt r.pr).length≤22
 i2:InI r.pr
 t3:(wrText (txT r.e1)).length≤1582
 t4:(wrText (txT r.e2)).length≤1582
 t5:(wrText (txT r.e3)).length≤1582
 t6:(wrText (txT r.e4)).length≤1582
 l3:(txT r.e1).length≤1560
 l4:(txT r.e2).length≤1560
 l5:(txT r.e3).length≤1560
 l6:(txT r.e4).length≤1560
theorem txSz {b:List Rl}{r:Rl}(h:r.err b=0):TxSz r:=by
 obtain⟨h1,_,h3,h4,h5,h6,h7⟩:=err_zero h
 have hn:=rlnm_len h1
 have l4:=txT_len h4
 have l5:=txT_len h5
 have l6:=txT_len h6
 have l7:=txT_len h7
 have t0:=wrText_len (s:=r.nm) (by omega)
 have t1:=itoa_len (v:=r.pr) ⟨by omega,by omega⟩
 have t4:=wrText_len (s:=txT r.e1) (by omega)
 have t5:=wrText_len (s:=txT r.e2) (by omega)
 have t6:=wrText_len (s:=txT r.e3) (by omega)
 have t7:=wrText_len (s:=txT r.e4) (by omega)
 have tI:(wrInt r.pr).length≤22:=by unfold wrInt;simp only[zA,zB];omega
 exact⟨by omega,by omega,tI,⟨by omega,by omega⟩,by omega,by omega,by omega,by omega,l4,l5,l6,l7⟩
def TextR (l:List Rl) (w:World) (e:Ending) (w':World):Prop:=e=.returned (.tuple #[.string ⟨(txL l).1.toArray⟩,.int .i64 (txL l).2])∧Ext w w'
theorem take_texts {l:List Rl}(h:chkL l=0) (k:Nat):(textsL (l.take k)).length≤255840:=by
 have h1:=(chk_len h).1
 have h2:=textsL_len (l.take k) fun r hr=>chk_mem h (List.mem_of_mem_take hr)
 rw[List.length_take]at h2
 omega
end Go.Proofs.YtmiencglfhpmeaaGreatDoor
namespace Go.Proofs.YtmiencglfhpmeaaGreatDoor
open Go.RowKit Hach
end Go.Proofs.YtmiencglfhpmeaaGreatDoor
namespace Go.Proofs.YtmiencglfhpmeaaGreatDoor
open Go.RowKit Hach
end Go.Proofs.YtmiencglfhpmeaaGreatDoor
namespace Go.Proofs.YtmiencglfhpmeaaGreatDoor
open Go.RowKit Hach
def DN (l:List UInt8):Prop :=∀c∈l,isDig c=true∨c.toNat=45
end Go.Proofs.YtmiencglfhpmeaaGreatDoor
