/- Names: the contracts of gazette.Right, and of the reference's Right. -/
import Derived.Test.YtmiencglfhpmeaaGreatDoorKQSa
import Derived.Lib.SmallJoins
import Derived.Deep.RegionWith
import Derived.Deep.Cut
open List renaming getD_eq_getElem?_getD → zA, getElem?_eq_getElem → zB, getElem?_eq_some_iff → zC, getElem_mem → zD
open Nat renaming zero_le → zE
open Go.Lib renaming hid → zF
set_option linter.unusedSimpArgs false
set_option linter.unusedVariables false
namespace Go.Proofs.YtmiencglfhpmeaaGreatDoor
open Go.RowKit Hach
theorem conv_ex (s:ByteArray) (w:World) :∃c W,(convert 9 97 (.string s)).run Tryz.prog w=.ok (.slice (some ⟨w.heap.size,0,none⟩) s.size c) W∧Ext w W ∧∀j,j<s.size→W.cell? ⟨w.heap.size,j,none⟩=some (.int .u8 (s.data.toList.getD j 0).toNat):=
 ⟨_,_,Lib.run_convert_string_bytes (P:=Tryz.prog) w 9 97 5 s Tryz.underlying9 Tryz.underlying97 Tryz.underlying5,⟨rfl,rfl,rfl,by rw[Lib.bytesWorld_size];omega,fun k hk=>Lib.bytesWorld_at_old _ _ _ _ hk⟩,fun j hj=>Lib.bytesWorld_cell _ _ _ j hj⟩
theorem right1_any (c:UInt8) (w:World):Calls Tryz.prog 100 #[.int .u8 (c.toNat:Nat)] w fun e w'=>e=.returned (.bool (!okC c))∧w'=w:=by
 have hlt:=c.toNat_lt
 obtain⟨q,hq⟩ :∃q,okC c=q:=⟨_,rfl⟩
 rw[hq]
 by_cases h1:c.toNat<32
 ·have t1:decide ((c.toNat:Int)<32)=true:=by simp;omega
  obtain rfl:q=false:=by rw[←hq];unfold okC;rw[decide_eq_true h1];rfl
  clear h1 hq
  go_enter Tryz.func100,Tryz.ntmps100
  go_wp2_with fail
  go_ret
  exact⟨rfl,rfl⟩
 ·have t1:decide ((c.toNat:Int)<32)=false:=by simp;omega
  by_cases h2:126<c.toNat
  ·have t2:decide ((126:Int)<(c.toNat:Int))=true:=by simp;omega
   obtain rfl:q=false:=by rw[←hq];unfold okC;rw[decide_eq_true h2];simp
   clear h1 h2 hq
   go_enter Tryz.func100,Tryz.ntmps100
   go_wp2_with fail
   go_ret
   exact⟨rfl,rfl⟩
  ·have t2:decide ((126:Int)<(c.toNat:Int))=false:=by simp;omega
   by_cases h3:c.toNat=34
   ·have t3:((c.toNat:Int) == 34)=true:=by rw[beq_iff_eq];omega
    obtain rfl:q=false:=by rw[←hq];unfold okC;rw[decide_eq_true h3];simp
    clear h1 h2 h3 hq
    go_enter Tryz.func100,Tryz.ntmps100
    go_wp2_with fail
    go_ret
    exact⟨rfl,rfl⟩
   ·have t3:((c.toNat:Int) == 34)=false:=by rw[beq_eq_false_iff_ne];omega
    obtain rfl:q=true:=by rw[←hq];unfold okC;rw[decide_eq_false h1,decide_eq_false h2,decide_eq_false h3];rfl
    clear h1 h2 h3 hq
    go_enter Tryz.func100,Tryz.ntmps100
    go_wp2_with fail
    go_ret
    exact⟨rfl,rfl⟩
theorem byte_eq (s:List UInt8) (S:ByteArray) (hS:(⟨s.toArray⟩:ByteArray)=S) (j:Nat) (h:j<S.size):(((S[j]'h).toNat:Int) == 32)=decide (s.getD j 0=32):=by
 subst hS
 have hj:j<s.length:=h
 have e:(⟨s.toArray⟩:ByteArray)[j]'h=s.getD j 0:=by
  rw[zA,zB hj];rfl
 rw[e]
 by_cases hq:s.getD j 0=32
 ·rw[hq];rfl
 ·rw[decide_eq_false hq,beq_eq_false_iff_ne]
  intro hh
  refine hq (UInt8.toNat_inj.1 ?_)
  have:(s.getD j 0).toNat=32:=by omega
  exact this
theorem okc_all {s:List UInt8}(h :∀j,j<s.length→okC (s.getD j 0)=true):s.all okC=true:=by
 rw[List.all_eq_true]
 intro c hc
 obtain⟨j,hj,rfl⟩:=List.getElem_of_mem hc
 have:=h j hj
 rwa [zA,zB hj]at this
theorem okc_not {s:List UInt8}{j:Nat}(hj:j<s.length) (h:okC (s.getD j 0)=false):s.all okC=false:=by
 rw[List.all_eq_false]
 refine⟨s.getD j 0,?_,by rw[h];simp⟩
 rw[zA,zB hj]
 exact zD hj
set_option maxRecDepth 100000 in
set_option maxHeartbeats 2000000 in
theorem idx1_any (s:List UInt8) (g c:Nat) (w:World) (hR :∀j,j<s.length→w.cell? ⟨g,j,none⟩=some (.int .u8 (s.getD j 0).toNat)) (hl:s.length<4294967296) :
  Calls Tryz.prog 121 #[.slice (some ⟨g,0,none⟩) s.length c,.func (.func 100) #[] #[]] w fun e w' =>∃k:Int,e=.returned (.int .i64 k)∧decide (0≤k)=(!s.all okC)∧w'=w:=by
 have HR:=zF hR
 clear hR
 go_enter Tryz.func121,Tryz.ntmps121
 go_wp2_with fail
 go_loopw [8] (fun kv wr =>∃k:Nat,k≤s.length∧kv=.int .i64 k∧Hid (∀j,j<k→okC (s.getD j 0)=true)∧wr=w) (fun kv _=>s.length-(intOf kv).toNat)
 case atStart=>exact⟨0,zE _,rfl,zF (fun j hj=>absurd hj (by omega)),rfl⟩
 case round=>
  obtain⟨k,hk,rfl,HA,rfl⟩:=hrel
  by_cases hlt:k<s.length
  ·have hc:=HR.out k hlt
   have tk:decide (k<s.length)=true:=by simp;omega
   obtain⟨u,hu⟩ :∃u,s.getD k 0=u:=⟨_,rfl⟩
   rw[hu]at hc
   have HU:=zF hu
   have RI:=zF (right1_any u wr)
   obtain⟨q,hq⟩ :∃q,okC u=q:=⟨_,rfl⟩
   have HQ:=zF hq
   rw[hq]at RI
   obtain⟨z,hz⟩ :∃z:Int,(u.toNat:Int)=z:=⟨_,rfl⟩
   rw[hz]at hc RI
   clear hu hq hz
   go_wp2_with fail
   refine(RI.out).mono ?_
   rintro e w' ⟨rfl,rfl⟩
   cases q with
   | false=>
    have HX:=zF (show(decide ((0:Int)≤(k:Int)))=(!s.all okC) by rw[okc_not hlt (by rw[HU.out];exact HQ.out)];simp)
    go_wp2_with fail
    go_ret
    exact⟨_,rfl,HX.out,rfl⟩
   | true=>
    have HN:Hid (∀j,j<k+1→okC (s.getD j 0)=true):=zF (fun j hj=>by
     by_cases hjk:j=k
     ·subst hjk;rw[HU.out];exact HQ.out
     ·exact HA.out j (by omega))
    go_wp2_with fail
    go_roundw
    case rel=>exact⟨k+1,by omega,by go_num,HN,trivial⟩
    case measure=>simp[intOf];omega
  ·have HX:=zF (show decide ((0:Int) ≤ -1)=(!s.all okC) by rw[okc_all fun j hj=>HA.out j (by omega)];rfl)
   have tk:decide (k<s.length)=false:=by simp;omega
   go_wp2_with fail
   go_ret
   exact⟨_,rfl,HX.out,rfl⟩
set_option maxRecDepth 100000 in
set_option maxHeartbeats 2000000 in
theorem cont1_any (s:List UInt8) (g c:Nat) (w:World) (hR :∀j,j<s.length→w.cell? ⟨g,j,none⟩=some (.int .u8 (s.getD j 0).toNat)) (hl:s.length<4294967296) :
  Calls Tryz.prog 99 #[.slice (some ⟨g,0,none⟩) s.length c,.func (.func 100) #[] #[]] w fun e w'=>e=.returned (.bool (!s.all okC))∧w'=w:=by
 go_enter Tryz.func99,Tryz.ntmps99
 go_wp2_with fail
 refine(idx1_any s g c w hR hl).mono ?_
 rintro e w' ⟨k,rfl,hk,rfl⟩
 go_wp2_with fail
 go_ret
 exact⟨rfl,rfl⟩
set_option maxRecDepth 100000 in
set_option maxHeartbeats 2000000 in
theorem Right_any (s:List UInt8) (hl:s.length<4294967296) (w:World) :
  Calls Tryz.prog 76 #[.string ⟨s.toArray⟩] w fun e w'=>e=.returned (.bool (nmOk s))∧Ext w w':=by
 obtain⟨S,hS⟩ :∃S:ByteArray,⟨s.toArray⟩=S:=⟨_,rfl⟩
 have hz:S.size=s.length:=by rw[←hS];show s.toArray.size=_;simp
 have HS:=zF hS
 rw[hS]
 clear hS
 by_cases h1:s.length<1
 ·have t1:decide ((s.length:Int)<1)=true:=by simp;omega
  have HN:Hid (nmOk s=false):=zF (by unfold nmOk;rw[decide_eq_true h1];simp)
  clear h1
  go_enter Tryz.func76,Tryz.ntmps76
  go_wp2_with fail
  go_ret
  exact⟨by rw[HN.out];rfl,Ext.refl _⟩
 ·have t1:decide ((s.length:Int)<1)=false:=by simp;omega
  by_cases h2:24<s.length
  ·have t2:decide ((24:Int)<(s.length:Int))=true:=by simp;omega
   have HN:Hid (nmOk s=false):=zF (by unfold nmOk;rw[decide_eq_true h2];simp)
   clear h1 h2
   go_enter Tryz.func76,Tryz.ntmps76
   go_wp2_with fail
   go_ret
   exact⟨by rw[HN.out];rfl,Ext.refl _⟩
  ·have t2:decide ((24:Int)<(s.length:Int))=false:=by simp;omega
   have hp:0<s.length:=by omega
   have h0:0<S.size:=by omega
   have h9:s.length-1<S.size:=by omega
   have hall:nmOk s=(!(decide (s.getD 0 0=32)||decide (s.getD (s.length-1) 0=32))&&s.all okC):=by
    unfold nmOk;rw[decide_eq_false h1,decide_eq_false h2];rfl
   have e0:=byte_eq s S HS.out 0 h0
   have e9:=byte_eq s S HS.out (s.length-1) h9
   obtain⟨b0,hb0⟩ :∃b,decide (s.getD 0 0=32)=b:=⟨_,rfl⟩
   obtain⟨b9,hb9⟩ :∃b,decide (s.getD (s.length-1) 0=32)=b:=⟨_,rfl⟩
   rw[hb0]at e0 hall
   rw[hb9]at e9 hall
   have HA:=zF hall
   have HB:Hid (∀(g c:Nat) (W:World),(∀j,j<S.size→W.cell? ⟨g,j,none⟩=some (.int .u8 (S.data.toList.getD j 0).toNat))→Calls Tryz.prog 99 #[.slice (some ⟨g,0,none⟩) s.length c,.func (.func 100) #[] #[]] W fun e w'=>e=.returned (.bool (!s.all okC))∧w'=W):=zF (fun g c W h=>by
    refine cont1_any s g c W (fun j hj=>?_) hl
    have:=h j (by omega)
    rw[←HS.out]at this
    exact this)
   clear h1 h2 hb0 hb9 hall
   cases b0 with
   | true=>
    go_enter Tryz.func76,Tryz.ntmps76
    go_wp2_with fail
    go_ret
    exact⟨by rw[HA.out];rfl,Ext.refl _⟩
   | false=>
    cases b9 with
    | true=>
     go_enter Tryz.func76,Tryz.ntmps76
     go_wp2_with fail
     go_ret
     exact⟨by rw[HA.out];rfl,Ext.refl _⟩
    | false=>
     obtain⟨c,W,hcv,hE,hc⟩:=conv_ex S w
     have HC:=zF hc
     have HE:=zF hE
     rw[hz]at hcv
     clear hc hE
     go_enter Tryz.func76,Tryz.ntmps76
     go_wp2_with fail
     refine(HB.out _ _ _ HC.out).mono ?_
     rintro e w' ⟨rfl,rfl⟩
     go_wp2_with fail
     go_ret
     exact⟨by rw[HA.out];simp,HE.out⟩
theorem byte_at (s:List UInt8) (S:ByteArray) (hS:(⟨s.toArray⟩:ByteArray)=S) (j:Nat) (h:j<S.size):S[j]'h=s.getD j 0:=by
 subst hS
 have hj:j<s.length:=h
 rw[zA,zB hj];rfl
set_option maxRecDepth 100000 in
set_option maxHeartbeats 4000000 in
theorem rRight_any (s:List UInt8) (hl:s.length<4294967296) (w:World) :
  Calls Tryz.prog 79 #[.string ⟨s.toArray⟩] w fun e w'=>e=.returned (.bool (nmOk s))∧Ext w w':=by
 obtain⟨S,hS⟩ :∃S:ByteArray,⟨s.toArray⟩=S:=⟨_,rfl⟩
 have hz:S.size=s.length:=by rw[←hS];show s.toArray.size=_;simp
 have HS:=zF hS
 rw[hS]
 clear hS
 by_cases h1:s.length<1
 ·have t1:decide ((s.length:Int)<1)=true:=by simp;omega
  have HN:Hid (nmOk s=false):=zF (by unfold nmOk;rw[decide_eq_true h1];simp)
  clear h1
  go_enter Tryz.func79,Tryz.ntmps79
  go_wp2_with fail
  go_ret
  exact⟨by rw[HN.out];rfl,Ext.refl _⟩
 ·have t1:decide ((s.length:Int)<1)=false:=by simp;omega
  by_cases h2:24<s.length
  ·have t2:decide ((24:Int)<(s.length:Int))=true:=by simp;omega
   have HN:Hid (nmOk s=false):=zF (by unfold nmOk;rw[decide_eq_true h2];simp)
   clear h1 h2
   go_enter Tryz.func79,Tryz.ntmps79
   go_wp2_with fail
   go_ret
   exact⟨by rw[HN.out];rfl,Ext.refl _⟩
  ·have t2:decide ((24:Int)<(s.length:Int))=false:=by simp;omega
   have hp:0<s.length:=by omega
   have h0:0<S.size:=by omega
   have h9:s.length-1<S.size:=by omega
   have hall:nmOk s=(!(decide (s.getD 0 0=32)||decide (s.getD (s.length-1) 0=32))&&s.all okC):=by
    unfold nmOk;rw[decide_eq_false h1,decide_eq_false h2];rfl
   have e0:=byte_eq s S HS.out 0 h0
   have e9:=byte_eq s S HS.out (s.length-1) h9
   obtain⟨b0,hb0⟩ :∃b,decide (s.getD 0 0=32)=b:=⟨_,rfl⟩
   obtain⟨b9,hb9⟩ :∃b,decide (s.getD (s.length-1) 0=32)=b:=⟨_,rfl⟩
   rw[hb0]at e0 hall
   rw[hb9]at e9 hall
   have HA:=zF hall
   clear h1 h2 hb0 hb9 hall
   cases b0 with
   | true=>
    go_enter Tryz.func79,Tryz.ntmps79
    go_wp2_with fail
    go_ret
    exact⟨by rw[HA.out];rfl,Ext.refl _⟩
   | false=>
    cases b9 with
    | true=>
     go_enter Tryz.func79,Tryz.ntmps79
     go_wp2_with fail
     go_ret
     exact⟨by rw[HA.out];rfl,Ext.refl _⟩
    | false=>
     go_enter Tryz.func79,Tryz.ntmps79
     go_wp2_with fail
     clear e0 e9 t1 t2
     go_loopw [3] (fun kv wr =>∃k:Nat,k≤s.length∧kv=.int .i64 k∧Hid (∀j,j<k→okC (s.getD j 0)=true)∧wr=w) (fun kv _=>s.length-(intOf kv).toNat)
     case atStart=>exact⟨0,zE _,rfl,zF (fun j hj=>absurd hj (by omega)),rfl⟩
     case round=>
      obtain⟨k,hk,rfl,HK,rfl⟩:=hrel
      by_cases hlt:k<s.length
      ·have tk:decide (k<s.length)=true:=by simp;omega
       have hkS:k<S.size:=by omega
       have hb:=byte_at s S HS.out k hkS
       obtain⟨u,hu⟩ :∃u,s.getD k 0=u:=⟨_,rfl⟩
       rw[hu]at hb
       have hu256:=u.toNat_lt
       have HU:=zF hu
       clear hu
       obtain⟨q,hq⟩ :∃q,okC u=q:=⟨_,rfl⟩
       have HQ:=zF hq
       have bad:q=false→Hid (nmOk s=false):=fun e=>zF (by rw[HA.out,okc_not hlt (by rw[HU.out,HQ.out,e])];simp)
       by_cases g1:u.toNat<32
       ·have y1:decide ((u.toNat:Int)<32)=true:=by simp;omega
        have HB:=bad (by rw[←hq];unfold okC;rw[decide_eq_true g1];rfl)
        clear g1 hq bad
        go_wp2_with fail
        go_ret
        exact⟨by rw[HB.out];rfl,Ext.refl _⟩
       ·have y1:decide ((u.toNat:Int)<32)=false:=by simp;omega
        by_cases g2:126<u.toNat
        ·have y2:decide ((126:Int)<(u.toNat:Int))=true:=by simp;omega
         have HB:=bad (by rw[←hq];unfold okC;rw[decide_eq_true g2];simp)
         clear g1 g2 hq bad
         go_wp2_with fail
         go_ret
         exact⟨by rw[HB.out];rfl,Ext.refl _⟩
        ·have y2:decide ((126:Int)<(u.toNat:Int))=false:=by simp;omega
         by_cases g3:u.toNat=34
         ·have y3:((u.toNat:Int) == 34)=true:=by rw[beq_iff_eq];omega
          have HB:=bad (by rw[←hq];unfold okC;rw[decide_eq_true g3];simp)
          clear g1 g2 g3 hq bad
          go_wp2_with fail
          go_ret
          exact⟨by rw[HB.out];rfl,Ext.refl _⟩
         ·have y3:((u.toNat:Int) == 34)=false:=by rw[beq_eq_false_iff_ne];omega
          have hgood:q=true:=by rw[←hq];unfold okC;rw[decide_eq_false g1,decide_eq_false g2,decide_eq_false g3];rfl
          have HN:Hid (∀j,j<k+1→okC (s.getD j 0)=true):=zF (fun j hj=>by
           by_cases hjk:j=k
           ·subst hjk;rw[HU.out,HQ.out,hgood]
           ·exact HK.out j (by omega))
          clear g1 g2 g3 hq bad hgood
          go_wp2_with fail
          go_roundw
          case rel=>exact⟨k+1,by omega,by go_num,HN,trivial⟩
          case measure=>simp[intOf];omega
      ·have HX:Hid (nmOk s=true):=zF (by rw[HA.out,okc_all fun j hj=>HK.out j (by omega)];rfl)
       have tk:decide (k<s.length)=false:=by simp;omega
       go_wp2_with fail
       go_ret
       exact⟨by rw[HX.out];rfl,Ext.refl _⟩
end Go.Proofs.YtmiencglfhpmeaaGreatDoor
namespace Go.Proofs.YtmiencglfhpmeaaGreatDoor
open Go.RowKit Hach
def RnB (w:World) (b:Nat) (u:Rn):Prop:=w.heap[b]?=some (.cells u.cells.toArray 49 (0,0))
theorem RnB.lt {w:World}{b:Nat}{u:Rn}(h:RnB w b u):b<w.heap.size:=(Array.getElem?_eq_some_iff.1 h).1
theorem RnB.ext {w w':World}{b:Nat}{u:Rn}(h:RnB w b u) (hE:Ext w w'):RnB w' b u:=(hE.below.block b h.lt).trans h
theorem RnB.own {w w':World}{b:Nat}{u:Rn}{r:Option Nat}(h:RnB w b u) (hg:w.grownBy w' r) (hb:some b≠r):RnB w' b u:=(hg.block b h.lt hb).trans h
theorem RnB.new (w:World) (u:Rn):RnB (w.alloc (.cells u.cells.toArray 49)) w.heap.size u:=Go.heap_alloc_new _ _
theorem RnB.range {w:World}{b:Nat}{u:Rn}(h:RnB w b u):w.rangeAt b 0 u.cells:=fun j v hv=>by
 have h':w.heap[b]?=_:=h
 simpa[World.cell?,h']using hv
theorem RnB.free {w:World}{b:Nat}{u:Rn}(h:RnB w b u) (o:Nat):w.frozen? ⟨b,o,none⟩=false:=by simp[World.frozen?,show w.heap[b]?=_ from h]
theorem rn_sub1 (u:Rn) (i:Nat) (v:Value) (h:(u.r.e1.cells u.A1 u.c1)[i]?=some v):u.cells[2+i]?=some v:=by
 match i,h with
 | 0,h=>exact h
 | 1,h=>exact h
 | 2,h=>exact h
 | 3,h=>exact h
 | 4,h=>exact h
 | 5,h=>exact h
 | 6,h=>exact h
 | n+7,h=>simp[Ex.cells]at h
theorem rn_sub2 (u:Rn) (i:Nat) (v:Value) (h:(u.r.e2.cells u.A2 u.c2)[i]?=some v):u.cells[9+i]?=some v:=by
 match i,h with
 | 0,h=>exact h
 | 1,h=>exact h
 | 2,h=>exact h
 | 3,h=>exact h
 | 4,h=>exact h
 | 5,h=>exact h
 | 6,h=>exact h
 | n+7,h=>simp[Ex.cells]at h
theorem rn_sub3 (u:Rn) (i:Nat) (v:Value) (h:(u.r.e3.cells u.A3 u.c3)[i]?=some v):u.cells[16+i]?=some v:=by
 match i,h with
 | 0,h=>exact h
 | 1,h=>exact h
 | 2,h=>exact h
 | 3,h=>exact h
 | 4,h=>exact h
 | 5,h=>exact h
 | 6,h=>exact h
 | n+7,h=>simp[Ex.cells]at h
theorem rn_sub4 (u:Rn) (i:Nat) (v:Value) (h:(u.r.e4.cells u.A4 u.c4)[i]?=some v):u.cells[23+i]?=some v:=by
 match i,h with
 | 0,h=>exact h
 | 1,h=>exact h
 | 2,h=>exact h
 | 3,h=>exact h
 | 4,h=>exact h
 | 5,h=>exact h
 | 6,h=>exact h
 | n+7,h=>simp[Ex.cells]at h
theorem range1 {w:World}{b o:Nat}{u:Rn}(h:w.rangeAt b o u.cells):w.rangeAt b (o+2) (u.r.e1.cells u.A1 u.c1):=fun i v hi=>by
 have:=h (2+i) v (rn_sub1 u i v hi)
 rwa [show o+(2+i)=o+2+i by omega]at this
theorem range2 {w:World}{b o:Nat}{u:Rn}(h:w.rangeAt b o u.cells):w.rangeAt b (o+9) (u.r.e2.cells u.A2 u.c2):=fun i v hi=>by
 have:=h (9+i) v (rn_sub2 u i v hi)
 rwa [show o+(9+i)=o+9+i by omega]at this
theorem range3 {w:World}{b o:Nat}{u:Rn}(h:w.rangeAt b o u.cells):w.rangeAt b (o+16) (u.r.e3.cells u.A3 u.c3):=fun i v hi=>by
 have:=h (16+i) v (rn_sub3 u i v hi)
 rwa [show o+(16+i)=o+16+i by omega]at this
theorem range4 {w:World}{b o:Nat}{u:Rn}(h:w.rangeAt b o u.cells):w.rangeAt b (o+23) (u.r.e4.cells u.A4 u.c4):=fun i v hi=>by
 have:=h (23+i) v (rn_sub4 u i v hi)
 rwa [show o+(23+i)=o+23+i by omega]at this
theorem load_expr {w:World}{b o:Nat}{e:Ex}{A:Option Addr}{c:Nat}(h:w.rangeAt b o (e.cells A c)):(Instr.loadAt 47 (.pointer (some ⟨b,o,none⟩))).run Tryz.prog w=.ok (.agg (e.cells A c).toArray) w:=by
 obtain⟨i0,hi,_,hz1,_⟩:=info_parts infoE
 exact run_loadAt_mid w b o 47 (e.cells A c) _ h Tryz.underlying47 rfl (by rw[hi];simp[hz1];rfl)
theorem load_E {ops:Array Oper}{rest:List Oper}{op:Oper}{a:Act}{w:World}{Q:Exit→Act→World→Prop}(hgd:op.guard=none) (x:Operand) (ho:op.op=.load 47 x) (b o:Nat) (cs:List Value) (hr:w.rangeAt b o cs) (h7:cs.length=7)
  (hx:a.eval x=.pointer (some ⟨b,o,none⟩)) (h:wpList Tryz.prog ops Q rest (a.put op.dst (.agg cs.toArray)) w):wpList Tryz.prog ops Q (op::rest) a w:=by
 obtain⟨i0,hi,_,hz1,_⟩:=info_parts infoE
 exact wpList_load_mid hgd _ x ho b o hx cs _ hr Tryz.underlying47 rfl (by rw[hi];simp[hz1,h7]) h
theorem load_R {ops:Array Oper}{rest:List Oper}{op:Oper}{a:Act}{w:World}{Q:Exit→Act→World→Prop}(hgd:op.guard=none) (x:Operand) (ho:op.op=.load 49 x) (b o:Nat) (cs:List Value) (hr:w.rangeAt b o cs) (h7:cs.length=30)
  (hx:a.eval x=.pointer (some ⟨b,o,none⟩)) (h:wpList Tryz.prog ops Q rest (a.put op.dst (.agg cs.toArray)) w):wpList Tryz.prog ops Q (op::rest) a w:=by
 obtain⟨i0,hi,_,hz1,_⟩:=info_parts infoR
 exact wpList_load_mid hgd _ x ho b o hx cs _ hr Tryz.underlying49 rfl (by rw[hi];simp[hz1,h7]) h
structure RnF (w:World) (b o:Nat) (u:Rn):Prop where
 nm:w.cell? ⟨b,o,none⟩=some (.string ⟨u.r.nm.toArray⟩)
 pr:w.cell? ⟨b,o+1,none⟩=some (.int .i64 u.r.pr)
 all:(Instr.loadAt 49 (.pointer (some ⟨b,o,none⟩))).run Tryz.prog w=.ok (.agg u.cells.toArray) w
 e1:(Instr.loadAt 47 (.pointer (some ⟨b,o+2,none⟩))).run Tryz.prog w=.ok (.agg (u.r.e1.cells u.A1 u.c1).toArray) w
 e2:(Instr.loadAt 47 (.pointer (some ⟨b,o+9,none⟩))).run Tryz.prog w=.ok (.agg (u.r.e2.cells u.A2 u.c2).toArray) w
 e3:(Instr.loadAt 47 (.pointer (some ⟨b,o+16,none⟩))).run Tryz.prog w=.ok (.agg (u.r.e3.cells u.A3 u.c3).toArray) w
 e4:(Instr.loadAt 47 (.pointer (some ⟨b,o+23,none⟩))).run Tryz.prog w=.ok (.agg (u.r.e4.cells u.A4 u.c4).toArray) w
theorem rn_facts {w:World}{b o:Nat}{u:Rn}(h:w.rangeAt b o u.cells):RnF w b o u:=
 ⟨h 0 _ rfl,h 1 _ rfl,load_rule h,load_expr (range1 h),load_expr (range2 h),load_expr (range3 h),load_expr (range4 h)⟩
@[go_sem] theorem fld_nm (u:Rn) (w:World):(Instr.field 49 (.agg u.cells.toArray) 0).run Tryz.prog w=.ok (.string ⟨u.r.nm.toArray⟩) w:=by kernel_rfl
@[go_sem] theorem fld_pr (u:Rn) (w:World):(Instr.field 49 (.agg u.cells.toArray) 1).run Tryz.prog w=.ok (.int .i64 u.r.pr) w:=by kernel_rfl
@[go_sem] theorem fld_e1 (u:Rn) (w:World):(Instr.field 49 (.agg u.cells.toArray) 2).run Tryz.prog w=.ok (.agg (u.r.e1.cells u.A1 u.c1).toArray) w:=by kernel_rfl
@[go_sem] theorem fld_e2 (u:Rn) (w:World):(Instr.field 49 (.agg u.cells.toArray) 3).run Tryz.prog w=.ok (.agg (u.r.e2.cells u.A2 u.c2).toArray) w:=by kernel_rfl
@[go_sem] theorem fld_e3 (u:Rn) (w:World):(Instr.field 49 (.agg u.cells.toArray) 4).run Tryz.prog w=.ok (.agg (u.r.e3.cells u.A3 u.c3).toArray) w:=by kernel_rfl
@[go_sem] theorem fld_e4 (u:Rn) (w:World):(Instr.field 49 (.agg u.cells.toArray) 5).run Tryz.prog w=.ok (.agg (u.r.e4.cells u.A4 u.c4).toArray) w:=by kernel_rfl
theorem row_new (W:World) (us:List Nd) (d:Nat) (h :∀u∈us,ExB W W.heap.size d u.A u.x.l) (C:Array Value) (hC:C=(us.map Nd.cells).flatten.toArray) :
  ExB (W.alloc (.cells C 47)) (W.alloc (.cells C 47)).heap.size (d+1) (some ⟨W.heap.size,0,none⟩) (us.map (·.x)):=by
 have hE:=Ext.alloc W (.cells C 47)
 intro _
 refine⟨W.heap.size,0,rfl,by simp,fun j x hj=>?_⟩
 rw[List.getElem?_map]at hj
 cases hu:us[j]? with
 | none=>rw[hu]at hj;cases hj
 | some u=>
  rw[hu]at hj
  simp only[Option.map_some,Option.some.injEq]at hj
  subst hj
  refine⟨u.A,u.c,ExL.ext (h u (List.mem_of_getElem? hu)) hE,fun i v hi=>?_⟩
  obtain⟨hjl,rfl⟩:=zC.1 hu
  have hi7:i<7:=(zC.1 hi).1
  rw[Nat.zero_add,World.cell?_alloc_new,hC]
  have:=nds_at us j hjl i hi7
  rw[Nd.cells]at this
  simpa[this]using hi
set_option maxRecDepth 100000 in
set_option maxHeartbeats 2000000 in
theorem expressions_any (u:Rn) (d:Nat) (w:World) (hk:u.kidsB w w.heap.size d) :
  Calls Tryz.prog 43 #[.agg u.cells.toArray] w fun e w' =>∃g,e=.returned (.slice (some ⟨g,0,none⟩) 4 4)∧w.heap.size≤g∧ExB w' w'.heap.size (d+1) (some ⟨g,0,none⟩) [u.r.e1,u.r.e2,u.r.e3,u.r.e4]∧Ext w w':=by
 obtain⟨w1,hw1⟩ :∃w1,w.alloc (.cells u.cells.toArray 49)=w1:=⟨_,rfl⟩
 have hB:=RnB.new w u
 rw[hw1]at hB
 have hE1:Ext w w1:=by rw[←hw1];exact Ext.alloc _ _
 have l1:=range1 hB.range
 have l2:=range2 hB.range
 have l3:=range3 hB.range
 have l4:=range4 hB.range
 have HW1:=zF hw1
 clear hw1
 simp only[Nat.zero_add]at l1 l2 l3 l4
 unfold Ex.cells at l1 l2 l3 l4
 go_enter Tryz.func43,Tryz.ntmps43
 go_upto_region 1 with fail
 rw[HW1.out]
 go_wp2_with (first|(refine load_E rfl _ rfl _ _ _ l1 rfl rfl ?_)|(refine load_E rfl _ rfl _ _ _ l2 rfl rfl ?_)|(refine load_E rfl _ rfl _ _ _ l3 rfl rfl ?_)|(refine load_E rfl _ rfl _ _ _ l4 rfl rfl ?_))
 go_ret
 refine⟨w1.heap.size,rfl,hE1.sz,?_,hE1.trans (Ext.alloc _ _)⟩
 have hk1:=hk.ext hE1
 exact row_new w1 [⟨u.r.e1,u.A1,u.c1⟩,⟨u.r.e2,u.A2,u.c2⟩,⟨u.r.e3,u.A3,u.c3⟩,⟨u.r.e4,u.A4,u.c4⟩] d (fun v hv=>by
  simp only[List.mem_cons,List.not_mem_nil,or_false]at hv
  rcases hv with rfl|rfl|rfl|rfl
  ·exact hk1.k1
  ·exact hk1.k2
  ·exact hk1.k3
  ·exact hk1.k4) _ rfl
end Go.Proofs.YtmiencglfhpmeaaGreatDoor
namespace Go.Proofs.YtmiencglfhpmeaaGreatDoor
open Go.RowKit Hach
theorem bs_eq2 (t u:List UInt8) (D E:ByteArray) (hD:⟨t.toArray⟩=D) (hE:⟨u.toArray⟩=E):(D.toList == E.toList)=decide (t=u):=by
 subst hD;subst hE;exact bytes_beq t u
set_option maxRecDepth 100000 in
set_option maxHeartbeats 2000000 in
theorem check1_any (x:Rn) (b:Nat) (nm:List UInt8) (w:World) (hb:b<w.heap.size) (hN:w.cell? ⟨b,0,none⟩=some (.string ⟨nm.toArray⟩)) :
  Calls Tryz.prog 78 #[.agg x.cells.toArray,.pointer (some ⟨b,0,none⟩)] w fun e w'=>e=.returned (.bool (decide (x.r.nm=nm)))∧Ext w w':=by
 obtain⟨w1,hw1⟩ :∃w1,w.alloc (.cells x.cells.toArray 49)=w1:=⟨_,rfl⟩
 have hB:=RnB.new w x
 rw[hw1]at hB
 have hE1:Ext w w1:=by rw[←hw1];exact Ext.alloc _ _
 have hn1:w1.cell? ⟨b,0,none⟩=some (.string ⟨nm.toArray⟩):=(hE1.old (p:=⟨b,0,none⟩) hb).trans hN
 have hx1:=(rn_facts hB.range).nm
 obtain⟨D,hD⟩ :∃D:ByteArray,⟨x.r.nm.toArray⟩=D:=⟨_,rfl⟩
 obtain⟨E,hE⟩ :∃E:ByteArray,⟨nm.toArray⟩=E:=⟨_,rfl⟩
 have hq:=bs_eq2 x.r.nm nm D E hD hE
 rw[hD]at hx1
 rw[hE]at hn1
 have HW1:=zF hw1
 clear hw1 hN hD hE
 go_enter Tryz.func78,Tryz.ntmps78
 go_upto_region 1 with fail
 rw[HW1.out]
 go_wp2_with fail
 go_ret
 exact⟨by rfl,hE1⟩
set_option maxRecDepth 100000 in
set_option maxHeartbeats 2000000 in
theorem idxR_any (l:List Rl) (nm:List UInt8) (A:Option Addr) (c b d:Nat) (w:World) (hX:RlB w w.heap.size d A l) (hl:l.length<4294967296) (hb:b<w.heap.size) (hN:w.cell? ⟨b,0,none⟩=some (.string ⟨nm.toArray⟩)) :
  Calls Tryz.prog 101 #[.slice A l.length c,.func (.func 78) #[] #[.pointer (some ⟨b,0,none⟩)]] w fun e w' =>∃k:Int,e=.returned (.int .i64 k)∧decide (0≤k)=l.any (fun x=>decide (x.nm=nm))∧Ext w w':=by
 have CK:=zF (fun(x:Rn) (W:World) (h:Ext w W)=>check1_any x b nm W (Nat.lt_of_lt_of_le hb h.sz) ((h.old (p:=⟨b,0,none⟩) hb).trans hN))
 clear hN
 go_enter Tryz.func101,Tryz.ntmps101
 go_wp2_with fail
 go_loopw [8] (fun kv wr =>∃k:Nat,k≤l.length∧kv=.int .i64 k∧Hid ((l.take k).any (fun x=>decide (x.nm=nm))=false)∧Ext w wr) (fun kv _=>l.length-(intOf kv).toNat)
 case atStart=>exact⟨0,zE _,rfl,zF (by simp),Ext.refl _⟩
 case round=>
  obtain⟨k,hk,rfl,HA,hE⟩:=hrel
  by_cases hlt:k<l.length
  ·obtain⟨g,o,u,rfl,hg,hu,hku,hr⟩:=(hX.ext hE).at_ hlt
   have HT:=zF (show l.take (k+1)=l.take k++[u.r] by rw[hu];exact List.take_succ_eq_append_getElem hlt)
   obtain⟨q,hq⟩ :∃q,decide (u.r.nm=nm)=q:=⟨_,rfl⟩
   have HQ:=zF hq
   have HM:=zF (show u.r∈l by rw[hu];exact zD hlt)
   have tk:decide (k<l.length)=true:=by simp;omega
   clear hX hku hu hq
   go_wp2_with (first|(refine load_R rfl _ rfl _ _ _ hr rfl rfl ?_))
   refine(CK.out u _ hE).mono ?_
   rw[HQ.out]
   rintro e w' ⟨rfl,hE'⟩
   cases q with
   | true=>
    have HX:=zF (show(decide ((0:Int)≤(k:Int)))=l.any (fun x=>decide (x.nm=nm)) by
     rw[List.any_eq_true.2 ⟨u.r,HM.out,HQ.out⟩];simp)
    go_wp2_with fail
    go_ret
    exact⟨_,rfl,HX.out,hE.trans hE'⟩
   | false=>
    have HN:Hid ((l.take (k+1)).any (fun x=>decide (x.nm=nm))=false):=zF (by rw[HT.out,List.any_append,HA.out];simpa using HQ.out)
    go_wp2_with fail
    go_roundw
    case rel=>exact⟨k+1,by omega,by go_num,HN,hE.trans hE'⟩
    case measure=>simp[intOf];omega
  ·have HX:=zF (show decide ((0:Int) ≤ -1)=l.any (fun x=>decide (x.nm=nm)) by
    have:=HA.out
    rw[List.take_of_length_le (by omega)]at this
    rw[this];rfl)
   have tk:decide (k<l.length)=false:=by simp;omega
   go_wp2_with fail
   go_ret
   exact⟨_,rfl,HX.out,hE⟩
set_option maxRecDepth 100000 in
theorem contR_any (l:List Rl) (nm:List UInt8) (A:Option Addr) (c b d:Nat) (w:World) (hX:RlB w w.heap.size d A l) (hl:l.length<4294967296) (hb:b<w.heap.size) (hN:w.cell? ⟨b,0,none⟩=some (.string ⟨nm.toArray⟩)) :
  Calls Tryz.prog 77 #[.slice A l.length c,.func (.func 78) #[] #[.pointer (some ⟨b,0,none⟩)]] w fun e w'=>e=.returned (.bool (l.any (fun x=>decide (x.nm=nm))))∧Ext w w':=by
 have IX:=zF (idxR_any l nm A c b d w hX hl hb hN)
 clear hN hX
 go_enter Tryz.func77,Tryz.ntmps77
 go_wp2_with fail
 refine(IX.out).mono ?_
 rintro e w' ⟨k,rfl,hk,hE⟩
 go_wp2_with fail
 go_ret
 exact⟨rfl,hE⟩
end Go.Proofs.YtmiencglfhpmeaaGreatDoor
