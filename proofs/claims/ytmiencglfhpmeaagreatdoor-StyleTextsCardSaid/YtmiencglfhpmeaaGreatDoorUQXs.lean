/- The contract of the reference's tokens. -/
import Derived.Test.YtmiencglfhpmeaaGreatDoorUQXr
import Derived.Test.YtmiencglfhpmeaaGreatDoorUQXn
import Derived.Deep.QuietTactic
import Derived.BigQuiet
import Derived.Test.YtmiencglfhpmeaaGreatDoorUQXp
open List renaming all_cons → zA, drop_succ_cons → zB, drop_zero → zC, foldl_cons → zD, getD → zE, getD_cons_zero → zF, getElem?_eq_getElem → zG, getElem_mem → zH, length_cons → zI, length_drop → zJ, length_eq_zero_iff → zK, length_take → zL, mem_of_mem_take → zM, take_of_length_le → zN, take_succ_eq_append_getElem → zO
open Nat renaming le_refl → zP, zero_le → zQ
open Option renaming some.injEq → zR
open Array renaming getElem?_modify → zS
open Bool renaming and_eq_true → zT, and_false → zU
open Go.Lib renaming hid → zV
set_option linter.unusedSimpArgs false
set_option linter.unusedVariables false
namespace Go.Proofs.YtmiencglfhpmeaaGreatDoor
open Go.RowKit Hach
def strLen:Value→Nat
 | .string b=>b.size
 | _=>0
theorem ext1 (c:UInt8) (t:List UInt8) (m:Nat) (hm:m=t.length+1):(sv (c::t)).extract 1 m=sv t:=by
 unfold sv
 rw[ba_sub,zB,zC,zN (by omega)]
theorem extF (s:List UInt8) (n:Nat):(sv s).extract 0 n=sv (s.take n):=by
 unfold sv;rw[ba_sub];rfl
theorem extB (s:List UInt8) (n m:Nat) (hm:m=s.length):(sv s).extract n m=sv (s.drop n):=by
 unfold sv
 rw[ba_sub,zN (by rw[zJ];omega)]
def TokensR (p:List Tok×Bool) (w:World) (e:Ending) (w':World):Prop:=
  (p.2=true→e=.returned (.tuple #[.slice none 0 0,.bool false])∧Ext w w') ∧
  (p.2=false →∃v,e=.returned (.tuple #[v,.bool true])∧OwnC 9 w' w.heap.size v (p.1.map txv)∧Ext w w')
theorem tokens_any (s:List UInt8) (w:World) (hl:s.length<4294967296):Calls Tryz.prog 113 #[.string ⟨s.toArray⟩] w (TokensR (lt s) w):=by
 have HL:=zV hl
 have hlt0:=(lt_toks s.length s (zP _)).2
 have HLT:=zV (show(lt s).1.length<4294967296 by omega)
 obtain⟨p,hp⟩ :∃p,lt s=p:=⟨_,rfl⟩
 have HP:=zV hp
 rw[hp]at HLT ⊢
 clear hlt0 hp
 obtain⟨S,hS⟩ :∃S:ByteArray,(⟨s.toArray⟩:ByteArray)=S:=⟨_,rfl⟩
 have HS:=zV hS
 rw[hS]
 clear hS hl
 go_enter Tryz.func113,Tryz.ntmps113
 go_wp2_with fail
 go_loopw [0,4,5] (fun rv lv _ wr =>∃(r:List UInt8) (pre:List Tok),rv=.string (sv r)∧r.length≤s.length∧p.1=pre++(lt r).1∧p.2=(lt r).2∧OwnC 9 wr w.heap.size lv (pre.map txv)∧Ext w wr) (fun rv _ _ _=>strLen rv)
 case atStart=>exact⟨s,[],by rw[←HS.out];rfl,zP _,by rw[HP.out];rfl,by rw[HP.out],OwnC.nil _ _ _,Ext.refl _⟩
 case round=>
  obtain⟨r,pre,rfl,hr,hp1,hp2,hO,hE⟩:=hrel
  have hrl:r.length<4294967296:=Nat.lt_of_le_of_lt hr HL.out
  have HR:=zV hr
  have HP1:=zV hp1
  have HP2:=zV hp2
  cases r with
  | nil=>
   obtain⟨R,hR⟩ :∃R:ByteArray,sv []=R:=⟨_,rfl⟩
   have hRs:R.size=0:=by rw[←hR];rfl
   rw[hR]
   clear hR hr hp1 hp2 hrl HR
   go_wp2_with fail
   go_ret2
   refine⟨fun h=>?_,fun _=>⟨_,rfl,?_,hE⟩⟩
   ·rw[HP2.out,lt_nil]at h;cases h
   ·rw[HP1.out,lt_nil,List.append_nil];exact hO
  | cons c t=>
   obtain⟨m,hm⟩ :∃m,t.length+1=m:=⟨_,rfl⟩
   have h0:=ba_get (c::t) 0
   simp only[zF]at h0
   change ∀h:0<(sv (c::t)).size,(sv (c::t))[0]=c at h0
   have hsz:(sv (c::t)).size=m:=by rw[sv_size,zI,hm]
   have e1:=zV (ext1 c t m hm.symm)
   have TK:=zV (token_any (c::t) · (by simp) hrl)
   have HRL:=zV hrl
   change Hid (∀W,Calls Tryz.prog 140 #[.string (sv (c::t))] W _) at TK
   obtain⟨R,hR⟩ :∃R:ByteArray,sv (c::t)=R:=⟨_,rfl⟩
   have HRR:=zV hR
   rw[hR]at h0 hsz e1 TK ⊢
   have hm1:1≤m:=by omega
   have hml:m<4294967296:=by rw[zI]at hrl;omega
   have HM:=zV hm
   clear hR hr hp1 hp2 hrl hm
   by_cases hc:c.toNat=32
   ·have t1:((c.toNat:Int) == 32)=true:=by rw[hc];rfl
    have HB:=zV (lt_blank c t hc)
    have hsz2:strLen (.string (R.extract 1 m))<strLen (.string R):=by
     rw[e1.out];show(sv t).size<R.size
     rw[sv_size,hsz];have:=HM.out;omega
    clear hc
    go_wp2_with fail
    go_roundw
    case rel=>exact⟨t,pre,by rw[e1.out],by have:=HR.out;rw[zI]at this;omega,by rw[HP1.out,HB.out],by rw[HP2.out,HB.out],hO,hE⟩
    case measure=>exact hsz2
   ·have t1:((c.toNat:Int) == 32)=false:=by rw[beq_eq_false_iff_ne];omega
    have HC:=zV (lt_cons c t)
    have HC2:=zV hc
    have HN:=zV (tokLen_le (c::t))
    have HT:=zV (fun h:tokLen (c::t)≠0=>(tok_is (c::t) h))
    have HCX:=zV (show lt (c::t)=if tokLen (c::t)=0 then([],true) else((c::t).take (tokLen (c::t))::(lt ((c::t).drop (tokLen (c::t)))).1,(lt ((c::t).drop (tokLen (c::t)))).2) by rw[HC.out,if_neg HC2.out])
    clear HC HC2
    generalize tokLen (c::t)=n at TK HN HT HCX
    clear hc
    have hnm:n≤m:=by have h1:=HN.out;have h2:=HM.out;rw[zI]at h1;omega
    by_cases hn0:n=0
    ·subst hn0
     have HE:=zV (show p.2=true by rw[HP2.out,HCX.out,if_pos rfl])
     go_wp2_with fail
     refine(TK.out _).mono ?_
     rintro e w2 ⟨rfl,rfl⟩
     go_wp2_with fail
     go_ret2
     exact⟨fun _=>⟨rfl,hE⟩,fun h=>by rw[HE.out]at h;cases h⟩
    ·have tn:((n:Int) == 0)=false:=by rw[beq_eq_false_iff_ne];omega
     have HCN:=zV (show lt (c::t)=((c::t).take n::(lt ((c::t).drop n)).1,(lt ((c::t).drop n)).2) by rw[HCX.out,if_neg hn0])
     have HXF:=zV (show R.extract 0 n=sv ((c::t).take n) by rw[←HRR.out];exact extF _ n)
     have HXB:=zV (show R.extract n m=sv ((c::t).drop n) by rw[←HRR.out];exact extB _ n m (by have:=HM.out;rw[zI];omega))
     have hsz2:strLen (.string (R.extract n m))<strLen (.string R):=by
      rw[HXB.out];show(sv ((c::t).drop n)).size<R.size
      rw[sv_size,hsz,zJ,zI];have:=HM.out;omega
     obtain⟨us,hus⟩ :∃us,pre.map txv=us:=⟨_,rfl⟩
     have HUS:=zV hus
     rw[hus]at hO
     obtain⟨A0,c0,e,hRd⟩:=hO.form
     subst e
     have hus4:us.length<4294967296:=by
      rw[←hus,List.length_map]
      have h1:=HLT.out
      have h2:=congrArg List.length HP1.out
      rw[List.length_append]at h2;omega
     have hEa:Ext wr (wr.alloc (.cells #[.string (R.extract 0 n)] 9)):=Ext.alloc _ _
     have hOa:=hO.ext hEa
     have hEb:=hE.trans hEa
     have hba:w.heap.size≤(wr.alloc (.cells #[.string (R.extract 0 n)] 9)).heap.size:=hEb.sz
     have HCG:=zV (show(wr.alloc (.cells #[.string (R.extract 0 n)] 9)).cell? ⟨wr.heap.size,0,none⟩=some (.string (R.extract 0 n)) by rw[World.cell?_alloc_new];rfl)
     have hne0:decide ((0:Int)≤(n:Int))=true:=by simp
     clear hRd hO hE hEa hn0 hus
     go_wp2_with fail
     refine(TK.out _).mono ?_
     rintro e w2 ⟨rfl,rfl⟩
     go_wp2_with (at_builtin;refine app_C ctyS rfl 18 22 rfl w.heap.size (.slice A0 us.length c0) us rfl hOa w2.heap.size (.string (R.extract 0 n)) rfl HCG.out rfl hus4 hba ?_;intro v1 wb hO2 hg2)
     go_roundw
     case rel=>
      refine⟨(c::t).drop n,pre++[(c::t).take n],by rw[HXB.out],by have:=HR.out;rw[zJ];omega,by rw[HP1.out,HCN.out,List.append_assoc];rfl,by rw[HP2.out,HCN.out],?_,Below.trans hEb (below_row' hg2 hba fun g e=>(hOa.lt g e).1)⟩
      rw[List.map_append,HUS.out]
      rw[HXF.out]at hO2
      exact hO2
     case measure=>exact hsz2
end Go.Proofs.YtmiencglfhpmeaaGreatDoor
namespace Go.Proofs.YtmiencglfhpmeaaGreatDoor
open Go.RowKit Hach
def RdrAt (w:World) (b:Nat) (v:Value) (wrong:Bool):Prop:=w.heap[b]?=some (.cells #[v,.bool wrong] 161 (0,0))
theorem RdrAt.lt {w:World}{b:Nat}{v:Value}{k:Bool}(h:RdrAt w b v k):b<w.heap.size:=(Array.getElem?_eq_some_iff.1 h).1
theorem RdrAt.own {w w':World}{b:Nat}{v:Value}{k:Bool}{r:Option Nat}(h:RdrAt w b v k) (hg:w.grownBy w' r) (hb:some b≠r):RdrAt w' b v k:=(hg.block b h.lt hb).trans h
theorem RdrAt.cells {w:World}{b:Nat}{v:Value}{k:Bool}(h:RdrAt w b v k):w.cell? ⟨b,0,none⟩=some v∧w.cell? ⟨b,1,none⟩=some (.bool k)∧w.frozen? ⟨b,0,none⟩=false∧w.frozen? ⟨b,1,none⟩=false:=by
 have h':w.heap[b]?=_:=h
 refine⟨?_,?_,?_,?_⟩<;>simp[World.cell?,World.frozen?,h']
theorem RdrAt.set0 {w:World}{b:Nat}{v:Value}{k:Bool}(h:RdrAt w b v k) (u:Value):RdrAt (w.setCell ⟨b,0,none⟩ u) b u k:=by
 have h':w.heap[b]?=_:=h
 simp[RdrAt,World.setCell,zS,h']
theorem RdrAt.set1 {w:World}{b:Nat}{v:Value}{k:Bool}(h:RdrAt w b v k) (u:Bool):RdrAt (w.setCell ⟨b,1,none⟩ (.bool u)) b v u:=by
 have h':w.heap[b]?=_:=h
 simp[RdrAt,World.setCell,zS,h']
def Left (w:World) (b:Nat) (A:Option Addr) (c:Nat) (ts:List Tok):Prop:=(∀t∈ts,IsTok t∧t.length≤4096)∧ts.length≤4096∧(ts≠[]→ts.length≤c ∧∃g o,A=some ⟨g,o,none⟩∧g<b ∧∀j,j<ts.length→w.cell? ⟨g,o+j,none⟩=some (bs (ts.getD j [])))
theorem Left.own {w w':World}{b:Nat}{A:Option Addr}{c:Nat}{ts:List Tok}{r:Option Nat}(h:Left w b A c ts) (hb:b<w.heap.size) (hg:w.grownBy w' r) (hr :∀x,r=some x→b≤x):Left w' b A c ts:=by
 refine⟨h.1,h.2.1,fun hn=>?_⟩
 obtain⟨hc,g,o,e,h2,h3⟩:=h.2.2 hn
 exact⟨hc,g,o,e,h2,fun j hj=>(grown_cell hg (by omega) (fun e=>by have:=hr g e;omega) _).trans (h3 j hj)⟩
def RL (w:World) (b:Nat) (ts:List Tok) (wrong:Bool):Prop :=∃A c,RdrAt w b (.slice A ts.length c) wrong∧Left w b A c ts
theorem RL.lt {w:World}{b:Nat}{ts:List Tok}{k:Bool}(h:RL w b ts k):b<w.heap.size:=by obtain⟨A,c,h,_⟩:=h;exact h.lt
theorem RL.own {w w':World}{b:Nat}{ts:List Tok}{k:Bool}{r:Option Nat}(h:RL w b ts k) (hg:w.grownBy w' r) (hr :∀x,r=some x→b<x):RL w' b ts k:=by
 obtain⟨A,c,h1,h2⟩:=h
 exact⟨A,c,h1.own hg (fun e=>by have:=hr b e.symm;omega),h2.own h1.lt hg fun x e=>Nat.le_of_lt (hr x e)⟩
theorem RL.ext {w w':World}{b:Nat}{ts:List Tok}{k:Bool}(h:RL w b ts k) (hE:Ext w w'):RL w' b ts k:=h.own (grown_of hE none) (fun x e=>by cases e)
theorem RL.toks {w:World}{b:Nat}{ts:List Tok}{k:Bool}(h:RL w b ts k):(∀t∈ts,IsTok t∧t.length≤4096)∧ts.length≤4096:=by
 obtain⟨A,c,_,h2⟩:=h;exact⟨h2.1,h2.2.1⟩
theorem Left.tail {w w':World}{b:Nat}{g o c:Nat}{t:Tok}{ts:List Tok}(h:Left w b (some ⟨g,o,none⟩) c (t::ts)) (hb:b<w.heap.size) (hg:w.grownBy w' (some b)) (A':Option Addr) (hA:ts≠[]→A'=some ⟨g,o+1,none⟩):Left w' b A' (c-1) ts:=by
 have h':=h.own hb hg (fun x e=>by simp only[zR]at e;omega)
 refine⟨fun u hu=>h.1 u (List.mem_cons_of_mem _ hu),by have:=h.2.1;simp at this;omega,fun hn=>?_⟩
 obtain⟨hc,g',o',e,h2,h3⟩:=h'.2.2 (by simp)
 simp only[zR,Addr.mk.injEq,and_true]at e
 obtain⟨rfl,rfl⟩:=e
 rw[zI]at hc
 refine⟨by omega,g,o+1,hA hn,h2,fun j hj=>?_⟩
 have:=h3 (j+1) (by rw[zI];omega)
 rw[show o+1+j=o+(j+1) by omega,this,List.getD_cons_succ]
set_option maxHeartbeats 2000000 in
theorem rnext_any {b:Nat}{w:World}{ts:List Tok}{k:Bool}(h:RL w b ts k):Calls Tryz.prog 141 #[rp b] w fun e w'=>e=.returned (bs (hd ts))∧Ext w w':=by
 obtain⟨A,c,h1,h2⟩:=h
 obtain⟨c0,c1,f0,f1⟩:=h1.cells
 unfold rp
 cases ts with
 | nil=>
  rw[List.length_nil]at c0
  clear h1 h2
  go_enter Tryz.func141,Tryz.ntmps141
  go_wp2_with fail
  go_ret
  exact⟨rfl,Ext.refl _⟩
 | cons t r=>
  obtain⟨hc,g,o,e,k2,k3⟩:=h2.2.2 (by simp)
  subst e
  have c2:=k3 0 (by simp)
  simp only[Nat.add_zero,zF]at c2
  have hl:=h2.2.1
  obtain⟨n,hn⟩ :∃n,(t::r).length=n:=⟨_,rfl⟩
  rw[hn]at c0 hl
  have hn1:0<n:=by rw[←hn];simp
  have t1:((n:Int) == 0)=false:=by rw[beq_eq_false_iff_ne];omega
  have e0:hd (t::r)=t:=rfl
  rw[e0]
  unfold bs at *
  clear h1 h2 k3 hn e0 hc
  go_enter Tryz.func141,Tryz.ntmps141
  go_wp2_with fail
  go_ret
  exact⟨rfl,Ext.refl _⟩
def TakeR (b:Nat) (w:World) (ts:List Tok) (k:Bool) (u:Tok) (e:Ending) (w':World):Prop:=e=.returned (.tuple #[])∧w.grownBy w' (some b)∧(match takeT u ts with
 | some r=>RL w' b r k
 | none=>RL w' b ts true)
theorem TakeR.yes {b:Nat}{w w':World}{ts r:List Tok}{k:Bool}{u:Tok}{e:Ending}(h:takeT u ts=some r) (he:e=.returned (.tuple #[])) (hg:w.grownBy w' (some b)) (hr:RL w' b r k):TakeR b w ts k u e w':=by
 refine⟨he,hg,?_⟩;rw[h];exact hr
theorem TakeR.no {b:Nat}{w w':World}{ts:List Tok}{k:Bool}{u:Tok}{e:Ending}(h:takeT u ts=none) (he:e=.returned (.tuple #[])) (hg:w.grownBy w' (some b)) (hr:RL w' b ts true):TakeR b w ts k u e w':=by
 refine⟨he,hg,?_⟩;rw[h];exact hr
theorem takeT_hit' (t:Tok) (r:List Tok):takeT t (t::r)=some r:=by unfold takeT;exact if_pos rfl
theorem takeT_miss (ts:List Tok) (u:Tok) (h:hd ts≠u):takeT u ts=none:=by
 cases ts with
 | nil=>rfl
 | cons t r=>exact if_neg (show ¬t=u from h)
set_option maxHeartbeats 4000000 in
theorem rtake_any {b:Nat}{w:World}{ts:List Tok}{k:Bool}(h:RL w b ts k) (u:Tok) (hu:u≠[]):Calls Tryz.prog 142 #[rp b,bs u] w (TakeR b w ts k u):=by
 have HN:=zV (rnext_any h)
 have HR:=zV h
 obtain⟨E,hE⟩ :∃E:ByteArray,⟨u.toArray⟩=E:=⟨_,rfl⟩
 by_cases htk:hd ts=u
 ·obtain⟨t,r,rfl⟩ :∃t r,ts=t::r:=by
   cases ts with
   | nil=>exact absurd htk.symm hu
   | cons t r=>exact⟨t,r,rfl⟩
  obtain rfl:t=u:=htk
  have HT:=zV (takeT_hit' t r)
  have hq:=bs_eq t t E E hE hE
  rw[decide_eq_true rfl]at hq
  unfold rp bs hd at *
  rw[List.headD_cons]at HN
  rw[hE]at HN ⊢
  clear hE h hu
  go_enter Tryz.func142,Tryz.ntmps142
  go_wp2_with fail
  refine HN.out.mono ?_
  rintro e w1 ⟨rfl,hE1⟩
  obtain⟨A,c,h1,h2⟩:=HR.out.ext hE1
  obtain⟨c0,c1,f0,f1⟩:=h1.cells
  obtain⟨hc,g,o,e,k2,k3⟩:=h2.2.2 (by simp)
  subst e
  have hl:=h2.2.1
  rw[zI]at hc hl c0
  obtain⟨n,hn⟩ :∃n,r.length=n:=⟨_,rfl⟩
  rw[hn]at hc hl c0
  have HL:=zV h2
  have HH:=zV h1
  have HNN:=zV hn
  clear k3 h1 h2 hn
  by_cases hc1:c=1
  ·subst hc1
   obtain rfl:n=0:=by omega
   go_wp2_with fail
   go_end0
   exact TakeR.yes HT.out rfl (grown_trans (grown_of hE1 _) (grown_set _ _ _ _)) ⟨some ⟨g,o,none⟩,0,by rw[HNN.out];exact HH.out.set0 _,Left.tail HL.out HH.out.lt (grown_set _ _ _ _) _ fun hr=>by
    have:=HNN.out;exact absurd (zK.1 this) hr⟩
  ·go_wp2_with fail
   go_end0
   exact TakeR.yes HT.out rfl (grown_trans (grown_of hE1 _) (grown_set _ _ _ _)) ⟨some ⟨g,o+1,none⟩,c-1,by rw[HNN.out];exact HH.out.set0 _,Left.tail HL.out HH.out.lt (grown_set _ _ _ _) _ fun hr=>rfl⟩
 ·have HT:=zV (show takeT u ts=none from takeT_miss ts u htk)
  unfold rp bs at *
  obtain⟨D,hD⟩ :∃D:ByteArray,⟨(hd ts).toArray⟩=D:=⟨_,rfl⟩
  have hq:=bs_eq (hd ts) u D E hD hE
  rw[decide_eq_false htk]at hq
  rw[hD]at HN
  rw[hE]
  clear hD hE h hu htk
  go_enter Tryz.func142,Tryz.ntmps142
  go_wp2_with fail
  refine HN.out.mono ?_
  rintro e w1 ⟨rfl,hE1⟩
  obtain⟨A,c,h1,h2⟩:=HR.out.ext hE1
  obtain⟨c0,c1,f0,f1⟩:=h1.cells
  have HL:=zV h2
  have HH:=zV h1
  clear h1 h2
  go_wp2_with fail
  go_end0
  exact TakeR.no HT.out rfl (grown_trans (grown_of hE1 _) (grown_set _ _ _ _)) ⟨A,c,HH.out.set1 true,HL.out.own HH.out.lt (grown_set _ _ _ _) (fun x e=>by simp only[zR]at e;omega)⟩
set_option maxHeartbeats 1000000 in
theorem rindex_any (ss:List Tok) (t:Tok) (g:Nat) (w:World) (hR:RowS w g ss) (hl:ss.length<4294967296) :
  Calls Tryz.prog 144 #[.slice (some ⟨g,0,none⟩) ss.length ss.length,bs t] w fun e w'=>e=.returned (.int .i64 (ixI ss t))∧w'=w:=by
 unfold bs
 obtain⟨D,hD⟩ :∃D:ByteArray,⟨t.toArray⟩=D:=⟨_,rfl⟩
 have HD:=zV hD
 rw[hD]
 clear hD
 go_enter Tryz.func144,Tryz.ntmps144
 go_wp2_with fail
 go_loop [5] (fun kv =>∃k:Nat,k≤ss.length∧kv=.int .i64 k∧Hid (∀j,j<k→ss.getD j []≠t)) (fun kv=>ss.length-(intOf kv).toNat)
 case atStart=>exact⟨0,zQ _,rfl,zV (fun j hj=>absurd hj (by omega))⟩
 case round=>
  obtain⟨k,hk,rfl,HA⟩:=hrel
  by_cases hlt:k<ss.length
  ·have hc:=hR.2 k hlt
   have tk:decide (k<ss.length)=true:=by simp;omega
   obtain⟨u,hu⟩ :∃u,ss.getD k []=u:=⟨_,rfl⟩
   rw[hu]at hc
   have HU:=zV hu
   obtain⟨E,hE⟩ :∃E:ByteArray,⟨u.toArray⟩=E:=⟨_,rfl⟩
   have hq1:=bs_eq t u D E HD.out hE
   have hq2:=bs_eq u t E D hE HD.out
   rw[hE]at hc
   clear hu hE
   by_cases htu:t=u
   ·have HX:=zV (show ixI ss t=k by unfold ixI;rw[ix_some hlt (HU.out.trans htu.symm) HA.out])
    rw[decide_eq_true htu]at hq1
    rw[decide_eq_true htu.symm]at hq2
    clear htu
    go_wp2_with fail
    go_ret
    exact⟨by rw[HX.out];rfl,rfl⟩
   ·have HN:Hid (∀j,j<k+1→ss.getD j []≠t):=zV (fun j hj=>by
     by_cases hjk:j=k
     ·subst hjk;rw[HU.out];exact fun e=>htu e.symm
     ·exact HA.out j (by omega))
    rw[decide_eq_false htu]at hq1
    rw[decide_eq_false (fun e=>htu e.symm)]at hq2
    clear htu
    go_wp2_with fail
    go_round
    case rel=>exact⟨k+1,by omega,by go_num,HN⟩
    case measure=>simp[intOf];omega
  ·have HX:=zV (show ixI ss t = -1 by unfold ixI;rw[ix_none (fun j hj=>HA.out j (by omega))])
   have tk:decide (k<ss.length)=false:=by simp;omega
   go_wp2_with fail
   go_ret
   exact⟨by rw[HX.out];rfl,rfl⟩
end Go.Proofs.YtmiencglfhpmeaaGreatDoor
namespace Go.Proofs.YtmiencglfhpmeaaGreatDoor
open Go.RowKit Hach
theorem fin_two {fn:Func}{s r:Tmp}(hr:fn.results=#[.cell s 47,.tmp r]) {blk:Nat}{wr:World}{Q:Ending→World→Prop}(x:Ex) (hz:Zero7 wr blk) (A:Option Addr) (n c:Nat) (hn:n=x.l.length) {tmps:Array Value}(ht:tmps.getD s undef=.pointer (some ⟨blk,0,none⟩)) (v:Value) (hv:tmps.getD r undef=v)
  (hQ:Q (.returned (.tuple #[.agg (x.cells A c).toArray,v])) (set7 wr blk x (.slice A n c))):bodyPost Tryz.prog fn Q Exit.ret ⟨tmps,[]⟩ (set7 wr blk x (.slice A n c)):=by
 have hin:=set7_in hz x (.slice A n c)
 obtain⟨c0,c1,c2,c3,c4,c5,c6⟩:=hin.cells
 generalize set7 wr blk x (.slice A n c)=wf at *
 refine bodyPost_ret (v:=.tuple #[.agg (x.cells A c).toArray,v]) ?_ rfl hQ
 subst hn
 rw[Array.getD_eq_getD_getElem?]at ht hv
 simp only[results,hr]
 go_simp
 rfl
def ConstR (t:Tok) (w:World) (e:Ending) (w':World):Prop:=(∃x:Ex,x.l=[]∧e=.returned (.tuple #[.agg (x.cells none 0).toArray,.bool (constOf t).isSome]) ∧∀v,constOf t=some v→x=exCon v)∧Ext w w'
theorem set7_fresh {w wr:World}{blk:Nat}(hE:Ext w wr) (hb:w.heap.size≤blk) (x:Ex) (v:Value):Ext w (set7 wr blk x v):=
 Below.trans hE (below_row' (set7_grown wr blk x v) hE.sz (fun g e=>by simp only[zR]at e;omega))
theorem const_some {fn:Func}{s r:Tmp}(hr:fn.results=#[.cell s 47,.tmp r]) {t:Tok}{w wr:World}{blk:Nat}(v:Vl) (h:constOf t=some v) (hz:Zero7 wr blk) (hE:Ext w wr) (hb:w.heap.size≤blk) {tmps:Array Value}(ht:tmps.getD s undef=.pointer (some ⟨blk,0,none⟩)) (hv:tmps.getD r undef=.bool true) :
  bodyPost Tryz.prog fn (ConstR t w) Exit.ret ⟨tmps,[]⟩ (set7 wr blk (.mk 1 0 v.ty v.n v.b v.s []) (.slice none 0 0)):=by
 refine fin_two hr _ hz none 0 0 rfl ht (.bool true) hv ⟨⟨exCon v,rfl,by rw[h];rfl,fun u hu=>by rw[h]at hu;rw[Option.some.inj hu]⟩,set7_fresh hE hb _ _⟩
theorem const_none {fn:Func}{s r:Tmp}(hr:fn.results=#[.cell s 47,.tmp r]) {t:Tok}{w wr:World}{blk:Nat}(h:constOf t=none) (hz:Zero7 wr blk) (hE:Ext w wr) (hb:w.heap.size≤blk) {tmps:Array Value}(ht:tmps.getD s undef=.pointer (some ⟨blk,0,none⟩)) (hv:tmps.getD r undef=.bool false) :
  bodyPost Tryz.prog fn (ConstR t w) Exit.ret ⟨tmps,[]⟩ (set7 wr blk zeroE (.slice none 0 0)):=by
 refine fin_two hr _ hz none 0 0 rfl ht (.bool false) hv ⟨⟨zeroE,rfl,by rw[h];rfl,fun u hu=>by rw[h]at hu;cases hu⟩,set7_fresh hE hb _ _⟩
def dvs (l:List UInt8):Nat:=l.foldl (fun n c=>if c.toNat=45 then n else 10*n+(c.toNat-48)) 0
theorem dvs_snoc (l:List UInt8) (c:UInt8):dvs (l++[c])=if c.toNat=45 then dvs l else 10*dvs l+(c.toNat-48):=by unfold dvs;rw[List.foldl_append];rfl
theorem dvs_digs :∀(l:List UInt8) (a:Nat),l.all isDig=true→l.foldl (fun n c=>if c.toNat=45 then n else 10*n+(c.toNat-48)) a=l.foldl (fun n c=>10*n+(c.toNat-48)) a
 | [],a,_=>rfl
 | c::l,a,h=>by
  rw[zA,zT]at h
  have h1 :¬c.toNat=45:=by have:=h.1;unfold isDig at this;simp only[zT,decide_eq_true_eq]at this;omega
  rw[zD,zD,if_neg h1,dvs_digs l _ h.2]
theorem dvs_num {l:List UInt8}(h:l.all isDig=true):dvs l=dval l:=dvs_digs l 0 h
theorem dvs_neg {l:List UInt8}(h:l.all isDig=true):dvs (45::l)=dval l:=by
 unfold dvs
 rw[zD,if_pos (by decide)]
 exact dvs_digs l 0 h
def DN (l:List UInt8):Prop :=∀c∈l,isDig c=true∨c.toNat=45
theorem dvs_lt :∀(n:Nat) (l:List UInt8),l.length=n→DN l→dvs l<10^n
 | 0,l,h,_=>by obtain rfl:=zK.1 h;decide
 | n+1,l,h,hd=>by
  have hne:l≠[]:=by rintro rfl;simp at h
  have e:=(List.dropLast_concat_getLast hne).symm
  have hl:l.dropLast.length=n:=by rw[List.length_dropLast];omega
  have h1:=dvs_lt n l.dropLast hl fun c hc=>hd c (List.dropLast_subset l hc)
  have h2:=hd _ (List.getLast_mem hne)
  rw[e,dvs_snoc]
  rw[Nat.pow_succ]
  split
  ·omega
  ·have h3:=h2.resolve_right (by assumption)
   unfold isDig at h3
   simp only[zT,decide_eq_true_eq]at h3
   omega
theorem all_mem' {p:UInt8→Bool}{l:List UInt8}(h:l.all p=true) :∀c∈l,p c=true:=List.all_eq_true.1 h
theorem pow10_le {k:Nat}(h:k≤11):10^k≤100000000000:=by
 have:(10:Nat)^k≤10^11:=Nat.pow_le_pow_right (by omega) h
 omega
set_option maxRecDepth 100000 in
set_option maxHeartbeats 8000000 in
theorem const_any (t:Tok) (ht:IsTok t) (hl:t.length≤4096) (w:World):Calls Tryz.prog 167 #[bs t] w (ConstR t w):=by
 have hz:=Zero7.new w
 obtain⟨w0,hw0⟩ :∃w0,w.alloc (.cells zero7 47)=w0:=⟨_,rfl⟩
 have hE0:Ext w w0:=by rw[←hw0];exact Ext.alloc _ _
 have hs0:w0.heap.size=w.heap.size+1:=by rw[←hw0];simp
 rw[hw0]at hz
 have HW:=zV hw0
 have hs0':w.heap.size+1≤w0.heap.size:=by omega
 have hE1:Ext w0 (w0.alloc (.cells #[.int .i64 1,.int .i64 0,.int .i64 0,.int .i64 0,.bool false,.string ⟨#[]⟩,.slice none 0 0] 47)):=Ext.alloc _ _
 have hz1:=hz.own (grown_of hE1 none) (by simp)
 have hI1:=InBlk.new w0 (.mk 1 0 0 0 false [] []) (.slice none 0 0)
 have hE01:=hE0.trans hE1
 obtain⟨D,hD⟩ :∃D:ByteArray,⟨t.toArray⟩=D:=⟨_,rfl⟩
 have hqT:=bs_list t [116,114,117,101] D hD
 have hqF:=bs_list t [102,97,108,115,101] D hD
 have HD:=zV hD
 have hsz:=toArr_size t
 rw[hD]at hsz
 unfold bs
 rw[hD]
 unfold zero7 at HW
 clear hw0 hs0 hD
 by_cases hT:t=[116,114,117,101]
 ·rw[decide_eq_true hT]at hqT
  have HC:=zV (show constOf t=some ⟨2,0,true,[]⟩ by rw[hT];rfl)
  clear hT hsz ht
  go_enter Tryz.func167,Tryz.ntmps167
  go_upto_region 1 with fail
  rw[HW.out]
  go_wp2_with fail
  refine(rBool_any _ _).mono ?_
  rintro e w4 ⟨rfl,hE4⟩
  have hI4:=hI1.ext hE4
  have hz4:=hz1.own (grown_of hE4 none) (by simp)
  obtain⟨c0,c1,c2,c3,c4,c5,c6⟩:=con0_cells hI4
  obtain⟨q0,q1,q2,q3,q4,q5,q6⟩:=hI4.freeAll
  go_upto_region 17 with fail
  show Code.wp _ _ _ _ (setV w4 w0.heap.size 2 0 true ⟨([]:List UInt8).toArray⟩)
  have hI5:=setV_in hI4 2 0 true []
  have hz5:=hz4.own (setV_grown w4 w0.heap.size 2 0 true ⟨([]:List UInt8).toArray⟩) (by simp;omega)
  have hE5:=ext_of_grown (hE01.trans hE4) (setV_grown w4 w0.heap.size 2 0 true ⟨([]:List UInt8).toArray⟩) (by omega)
  clear c0 c1 c2 c3 c4 c5 c6 q0 q1 q2 q3 q4 q5 q6
  generalize setV w4 w0.heap.size 2 0 true ⟨([]:List UInt8).toArray⟩=w5 at *
  obtain⟨c0,c1,c2,c3,c4,c5,c6⟩:=con_cells hI5
  obtain⟨u0,u1,u2,u3,u4,u5,u6⟩:=hz5.cells
  obtain⟨f0,f1,f2,f3,f4,f5,f6⟩:=hz5.free
  go_wp2_with fail
  exact const_some rfl ⟨2,0,true,[]⟩ HC.out hz5 hE5 (zP _) rfl rfl
 ·rw[decide_eq_false hT]at hqT
  by_cases hF:t=[102,97,108,115,101]
  ·rw[decide_eq_true hF]at hqF
   have HC:=zV (show constOf t=some ⟨2,0,false,[]⟩ by rw[hF];rfl)
   clear hT hF hsz ht
   go_enter Tryz.func167,Tryz.ntmps167
   go_upto_region 1 with fail
   rw[HW.out]
   go_wp2_with fail
   refine(rBool_any _ _).mono ?_
   rintro e w4 ⟨rfl,hE4⟩
   have hI4:=hI1.ext hE4
   have hz4:=hz1.own (grown_of hE4 none) (by simp)
   obtain⟨c0,c1,c2,c3,c4,c5,c6⟩:=con0_cells hI4
   obtain⟨q0,q1,q2,q3,q4,q5,q6⟩:=hI4.freeAll
   go_upto_region 17 with fail
   show Code.wp _ _ _ _ (setV w4 w0.heap.size 2 0 false ⟨([]:List UInt8).toArray⟩)
   have hI5:=setV_in hI4 2 0 false []
   have hz5:=hz4.own (setV_grown w4 w0.heap.size 2 0 false ⟨([]:List UInt8).toArray⟩) (by simp;omega)
   have hE5:=ext_of_grown (hE01.trans hE4) (setV_grown w4 w0.heap.size 2 0 false ⟨([]:List UInt8).toArray⟩) (by omega)
   clear c0 c1 c2 c3 c4 c5 c6 q0 q1 q2 q3 q4 q5 q6
   generalize setV w4 w0.heap.size 2 0 false ⟨([]:List UInt8).toArray⟩=w5 at *
   obtain⟨c0,c1,c2,c3,c4,c5,c6⟩:=con_cells hI5
   obtain⟨u0,u1,u2,u3,u4,u5,u6⟩:=hz5.cells
   obtain⟨f0,f1,f2,f3,f4,f5,f6⟩:=hz5.free
   go_wp2_with fail
   exact const_some rfl ⟨2,0,false,[]⟩ HC.out hz5 hE5 (zP _) rfl rfl
  ·rw[decide_eq_false hF]at hqF
   have HCR:=zV (const_rest hT hF)
   obtain⟨m,hm⟩ :∃m,t.length=m:=⟨_,rfl⟩
   rw[hm]at hsz hl
   have HM:=zV hm
   clear hT hF
   cases ht with
   | word c u hc hu=>
    have hm1:0<m:=by rw[←hm];simp
    have hb:=ba_get (c::u) 0
    rw[HD.out]at hb
    simp only[zF]at hb
    have hc2:c.toNat≠34∧isDig c=false∧c.toNat≠45∧c.toNat≠48:=by
     unfold isLet at hc;simp only[zT,decide_eq_true_eq]at hc
     refine⟨by omega,?_,by omega,by omega⟩
     unfold isDig;rw[decide_eq_false (show ¬c.toNat≤57 by omega),zU]
    have HC:=zV (show constOf (c::u)=none by rw[HCR.out,constR_cons,if_neg hc2.1,if_neg (by rw[hc2.2.1];simp),if_neg (by rintro⟨h,_⟩;exact hc2.2.2.1 h)])
    have t1:((c.toNat:Int) == 34)=false:=by rw[beq_eq_false_iff_ne];have:=hc2.1;omega
    have t2:((c.toNat:Int) == 45)=false:=by rw[beq_eq_false_iff_ne];have:=hc2.2.2.1;omega
    have CL:=zV (fun W=>cls_any c W)
    have t3:((clsN c:Int) == 48)=false:=by rw[cls_dig];exact hc2.2.1
    clear hc hu hc2 hm
    obtain⟨u0,u1,u2,u3,u4,u5,u6⟩:=hz1.cells
    obtain⟨f0,f1,f2,f3,f4,f5,f6⟩:=hz1.free
    go_enter Tryz.func167,Tryz.ntmps167
    go_upto_region 1 with fail
    rw[HW.out]
    go_wp2_with fail
    refine(CL.out _).mono ?_
    rintro e w4 ⟨rfl,rfl⟩
    go_wp2_with fail
    exact const_none rfl HC.out hz1 hE01 (zP _) rfl rfl
   | sign c hc=>
    obtain rfl:m=1:=by rw[←hm];rfl
    have hb:=ba_get [c] 0
    rw[HD.out]at hb
    simp only[zF]at hb
    have hc2:c.toNat≠34∧isDig c=false:=by
     rcases hc with hc|hc
     ·unfold isSg at hc;simp only[decide_eq_true_eq]at hc
      refine⟨by omega,?_⟩
      unfold isDig
      by_cases h1:48≤c.toNat
      ·rw[decide_eq_false (show ¬c.toNat≤57 by omega),zU]
      ·rw[decide_eq_false h1];rfl
     ·refine⟨by omega,?_⟩
      unfold isDig;rw[decide_eq_false (show ¬48≤c.toNat by omega)];rfl
    have HC:=zV (show constOf [c]=none by rw[HCR.out,constR_cons,if_neg hc2.1,if_neg (by rw[hc2.2];simp),if_neg (by simp)])
    have t1:((c.toNat:Int) == 34)=false:=by rw[beq_eq_false_iff_ne];have:=hc2.1;omega
    have CL:=zV (fun W=>cls_any c W)
    have t3:((clsN c:Int) == 48)=false:=by rw[cls_dig];exact hc2.2
    clear hc hc2 hm
    obtain⟨u0,u1,u2,u3,u4,u5,u6⟩:=hz1.cells
    obtain⟨f0,f1,f2,f3,f4,f5,f6⟩:=hz1.free
    by_cases h45:c.toNat=45
    ·have t2:((c.toNat:Int) == 45)=true:=by rw[h45];rfl
     clear h45
     go_enter Tryz.func167,Tryz.ntmps167
     go_upto_region 1 with fail
     rw[HW.out]
     go_wp2_with fail
     refine(CL.out _).mono ?_
     rintro e w4 ⟨rfl,rfl⟩
     go_wp2_with fail
     exact const_none rfl HC.out hz1 hE01 (zP _) rfl rfl
    ·have t2:((c.toNat:Int) == 45)=false:=by rw[beq_eq_false_iff_ne];omega
     clear h45
     go_enter Tryz.func167,Tryz.ntmps167
     go_upto_region 1 with fail
     rw[HW.out]
     go_wp2_with fail
     refine(CL.out _).mono ?_
     rintro e w4 ⟨rfl,rfl⟩
     go_wp2_with fail
     exact const_none rfl HC.out hz1 hE01 (zP _) rfl rfl
   | str q hq hn=>
    have hmq:m=q.length+2:=by rw[←hm];simp
    have hm1:2≤m:=by omega
    have hb:=ba_get (34::(q++[34])) 0
    rw[HD.out]at hb
    simp only[zF]at hb
    have HC:=zV (show constOf (34::(q++[34]))=some ⟨3,0,false,q⟩ by rw[HCR.out,constR_cons,if_pos (by decide)];simp)
    have HX:=zV (show D.extract 1 (m-1)=⟨q.toArray⟩ by
     rw[←HD.out,ba_sub,zB,zC,show m-1-1=q.length by omega,List.take_left'];rfl)
    clear hq hn hmq hm
    obtain⟨u0,u1,u2,u3,u4,u5,u6⟩:=hz1.cells
    go_enter Tryz.func167,Tryz.ntmps167
    go_upto_region 1 with fail
    rw[HW.out]
    go_wp2_with fail
    refine(rString_any _ _).mono ?_
    rintro e w4 ⟨rfl,hE4⟩
    rw[HX.out]
    have hI4:=hI1.ext hE4
    have hz4:=hz1.own (grown_of hE4 none) (by simp)
    obtain⟨c0,c1,c2,c3,c4,c5,c6⟩:=con0_cells hI4
    obtain⟨q0,q1,q2,q3,q4,q5,q6⟩:=hI4.freeAll
    go_upto_region 17 with fail
    show Code.wp _ _ _ _ (setV w4 w0.heap.size 3 0 false ⟨(q:List UInt8).toArray⟩)
    have hI5:=setV_in hI4 3 0 false q
    have hz5:=hz4.own (setV_grown w4 w0.heap.size 3 0 false ⟨(q:List UInt8).toArray⟩) (by simp;omega)
    have hE5:=ext_of_grown (hE01.trans hE4) (setV_grown w4 w0.heap.size 3 0 false ⟨(q:List UInt8).toArray⟩) (by omega)
    clear c0 c1 c2 c3 c4 c5 c6 q0 q1 q2 q3 q4 q5 q6
    generalize setV w4 w0.heap.size 3 0 false ⟨(q:List UInt8).toArray⟩=w5 at *
    obtain⟨c0,c1,c2,c3,c4,c5,c6⟩:=con_cells hI5
    obtain⟨u0,u1,u2,u3,u4,u5,u6⟩:=hz5.cells
    obtain⟨f0,f1,f2,f3,f4,f5,f6⟩:=hz5.free
    go_wp2_with fail
    exact const_some rfl ⟨3,0,false,q⟩ HC.out hz5 hE5 (zP _) rfl rfl
   | num c u hc hu hl9 hz9=>
    have hcd:=hc
    unfold isDig at hcd
    simp only[zT,decide_eq_true_eq]at hcd
    have hm1:0<m:=by rw[←hm];simp
    have hm10:m≤10:=by rw[←hm];simp;omega
    have hb:=ba_get (c::u) 0
    rw[HD.out]at hb
    simp only[zF]at hb
    have hal:(c::u).all isDig=true:=by rw[zA,hc,hu];rfl
    have HC:=zV (show constOf (c::u)=some ⟨1,(dval (c::u):Nat),false,[]⟩ by rw[HCR.out,constR_cons,if_neg (by omega),if_pos hc])
    have t1:((c.toNat:Int) == 34)=false:=by rw[beq_eq_false_iff_ne];omega
    have t2:((c.toNat:Int) == 45)=false:=by rw[beq_eq_false_iff_ne];omega
    have CL:=zV (fun W=>cls_any c W)
    have t3:((clsN c:Int) == 48)=true:=by rw[cls_dig];exact hc
    have HDN:=zV (show DN (c::u) from fun y hy=>.inl (all_mem' hal y hy))
    have DV:=zV (dvs_num hal)
    have HAL:=zV hal
    have HL9:=zV hl9
    clear hc hu hm hal hcd hl9 hz9
    go_enter Tryz.func167,Tryz.ntmps167
    go_upto_region 1 with fail
    rw[HW.out]
    go_wp2_with fail
    refine(CL.out _).mono ?_
    rintro e w4 ⟨rfl,rfl⟩
    go_wp2_with fail
    go_loop [5,6] (fun nv kv =>∃k:Nat,k≤m∧kv=.int .i64 k∧nv=.int .i64 (dvs ((c::u).take k):Nat)) (fun _ kv=>m-(intOf kv).toNat)
    case atStart=>exact⟨0,zQ _,rfl,rfl⟩
    case round=>
     obtain⟨k,hk,rfl,rfl⟩:=hrel
     by_cases hlt:k<m
     ·have hlt':k<(c::u).length:=by rw[HM.out];exact hlt
      have hbk:=ba_get (c::u) k
      rw[HD.out]at hbk
      obtain⟨x,hx⟩ :∃x,(c::u).getD k 0=x:=⟨_,rfl⟩
      rw[hx]at hbk
      have hxg:(c::u)[k]=x:=by rw[←hx];simp[zE,zG hlt']
      have hxd:=HDN.out x (by rw[←hxg];exact zH hlt')
      have hts:=zO hlt'
      rw[hxg]at hts
      have hdl:=dvs_lt k ((c::u).take k) (by rw[zL];omega) (fun y hy=>HDN.out y (zM hy))
      have hp:=pow10_le (show k≤11 by omega)
      have HS:=zV (show dvs ((c::u).take (k+1))=_ from by rw[hts,dvs_snoc])
      obtain⟨N,hN⟩ :∃N,dvs ((c::u).take k)=N:=⟨_,rfl⟩
      rw[hN]at HS hdl ⊢
      have hN2:N<100000000000:=by omega
      clear hts hx hxg hlt' hdl hp hN
      by_cases h45:x.toNat=45
      ·have tk:((x.toNat:Int) != 45)=false:=by rw[h45];rfl
       have HX:=zV (show dvs ((c::u).take (k+1))=N by rw[HS.out,if_pos h45])
       clear h45 hxd
       go_wp2_with fail
       go_round
       case rel=>exact⟨k+1,by omega,by go_num,by rw[HX.out]⟩
       case measure=>simp[intOf];omega
      ·have tk:((x.toNat:Int) != 45)=true:=by rw[bne_iff_ne];omega
       have hx9:=hxd.resolve_right h45
       unfold isDig at hx9
       simp only[zT,decide_eq_true_eq]at hx9
       have hx1:=hx9.1
       have hx2:=hx9.2
       have HX:=zV (show dvs ((c::u).take (k+1))=10*N+(x.toNat-48) by rw[HS.out,if_neg h45])
       clear h45 hxd hx9
       go_wp2_with fail
       go_round
       case rel=>exact⟨k+1,by omega,by go_num,by rw[HX.out];go_num⟩
       case measure=>simp[intOf];omega
     ·obtain rfl:k=m:=by omega
      have htk:(c::u).take k=(c::u):=zN (by rw[HM.out];exact zP _)
      rw[htk,DV.out]
      have hdb:=dval_lt HAL.out (by simpa using HL9.out)
      obtain⟨N,hN⟩ :∃N,dval (c::u)=N:=⟨_,rfl⟩
      rw[hN]at hdb HC ⊢
      clear htk hN hlt
      go_wp2_with fail
      refine(rInt_any _ _).mono ?_
      rintro e w4 ⟨rfl,hE4⟩
      have hI4:=hI1.ext hE4
      have hz4:=hz1.own (grown_of hE4 none) (by simp)
      obtain⟨c0,c1,c2,c3,c4,c5,c6⟩:=con0_cells hI4
      obtain⟨q0,q1,q2,q3,q4,q5,q6⟩:=hI4.freeAll
      go_upto_region 17 with fail
      show Code.wp _ _ _ _ (setV w4 w0.heap.size 1 ((N:Nat):Int) false ⟨([]:List UInt8).toArray⟩)
      have hI5:=setV_in hI4 1 ((N:Nat):Int) false []
      have hz5:=hz4.own (setV_grown w4 w0.heap.size 1 ((N:Nat):Int) false ⟨([]:List UInt8).toArray⟩) (by simp;omega)
      have hE5:=ext_of_grown (hE01.trans hE4) (setV_grown w4 w0.heap.size 1 ((N:Nat):Int) false ⟨([]:List UInt8).toArray⟩) (by omega)
      clear c0 c1 c2 c3 c4 c5 c6 q0 q1 q2 q3 q4 q5 q6
      generalize setV w4 w0.heap.size 1 ((N:Nat):Int) false ⟨([]:List UInt8).toArray⟩=w5 at *
      obtain⟨c0,c1,c2,c3,c4,c5,c6⟩:=con_cells hI5
      obtain⟨u0,u1,u2,u3,u4,u5,u6⟩:=hz5.cells
      obtain⟨f0,f1,f2,f3,f4,f5,f6⟩:=hz5.free
      go_wp2_with fail
      exact const_some rfl ⟨1,(N:Nat),false,[]⟩ HC.out hz5 hE5 (zP _) rfl rfl
   | neg c u hc hu hl9 hz9=>
    have hm1:1<m:=by rw[←hm];simp
    have hm10:m≤11:=by rw[←hm];simp;omega
    have hb:=ba_get (45::c::u) 0
    rw[HD.out]at hb
    simp only[zF]at hb
    have hal:(c::u).all isDig=true:=by rw[zA,hc,hu];rfl
    have HC:=zV (show constOf (45::c::u)=some ⟨1,-((dval (c::u):Nat):Int),false,[]⟩ by rw[HCR.out,constR_cons,if_neg (by decide),if_neg (by decide),if_pos ⟨by decide,by simp⟩])
    have CL :∀W,Calls Tryz.prog 166 #[.int .u8 45] W fun e w'=>e=.returned (.int .u8 45)∧w'=W:=fun W=>cls_any 45 W
    have HCL:=zV CL
    have HDN:=zV (show DN (45::c::u) from fun y hy=>by
     rcases List.mem_cons.1 hy with rfl|hy
     ·exact .inr (by decide)
     ·exact .inl (all_mem' hal y hy))
    have DV:=zV (dvs_neg hal)
    have HAL:=zV hal
    have HL9:=zV hl9
    clear hc hu hm hal hl9 hz9 CL
    go_enter Tryz.func167,Tryz.ntmps167
    go_upto_region 1 with fail
    rw[HW.out]
    go_wp2_with fail
    refine(HCL.out _).mono ?_
    rintro e w4 ⟨rfl,rfl⟩
    go_wp2_with fail
    go_loop [5,6] (fun nv kv =>∃k:Nat,k≤m∧kv=.int .i64 k∧nv=.int .i64 (dvs ((45::c::u).take k):Nat)) (fun _ kv=>m-(intOf kv).toNat)
    case atStart=>exact⟨0,zQ _,rfl,rfl⟩
    case round=>
     obtain⟨k,hk,rfl,rfl⟩:=hrel
     by_cases hlt:k<m
     ·have hlt':k<(45::c::u).length:=by rw[HM.out];exact hlt
      have hbk:=ba_get (45::c::u) k
      rw[HD.out]at hbk
      obtain⟨x,hx⟩ :∃x,(45::c::u).getD k 0=x:=⟨_,rfl⟩
      rw[hx]at hbk
      have hxg:(45::c::u)[k]=x:=by rw[←hx];simp[zE,zG hlt']
      have hxd:=HDN.out x (by rw[←hxg];exact zH hlt')
      have hts:=zO hlt'
      rw[hxg]at hts
      have hdl:=dvs_lt k ((45::c::u).take k) (by rw[zL];omega) (fun y hy=>HDN.out y (zM hy))
      have hp:=pow10_le (show k≤11 by omega)
      have HS:=zV (show dvs ((45::c::u).take (k+1))=_ from by rw[hts,dvs_snoc])
      obtain⟨N,hN⟩ :∃N,dvs ((45::c::u).take k)=N:=⟨_,rfl⟩
      rw[hN]at HS hdl ⊢
      have hN2:N<100000000000:=by omega
      clear hts hx hxg hlt' hdl hp hN
      by_cases h45:x.toNat=45
      ·have tk:((x.toNat:Int) != 45)=false:=by rw[h45];rfl
       have HX:=zV (show dvs ((45::c::u).take (k+1))=N by rw[HS.out,if_pos h45])
       clear h45 hxd
       go_wp2_with fail
       go_round
       case rel=>exact⟨k+1,by omega,by go_num,by rw[HX.out]⟩
       case measure=>simp[intOf];omega
      ·have tk:((x.toNat:Int) != 45)=true:=by rw[bne_iff_ne];omega
       have hx9:=hxd.resolve_right h45
       unfold isDig at hx9
       simp only[zT,decide_eq_true_eq]at hx9
       have hx1:=hx9.1
       have hx2:=hx9.2
       have HX:=zV (show dvs ((45::c::u).take (k+1))=10*N+(x.toNat-48) by rw[HS.out,if_neg h45])
       clear h45 hxd hx9
       go_wp2_with fail
       go_round
       case rel=>exact⟨k+1,by omega,by go_num,by rw[HX.out];go_num⟩
       case measure=>simp[intOf];omega
     ·obtain rfl:k=m:=by omega
      have htk:(45::c::u).take k=(45::c::u):=zN (by rw[HM.out];exact zP _)
      rw[htk,DV.out]
      have hdb:=dval_lt HAL.out (by simpa using HL9.out)
      obtain⟨N,hN⟩ :∃N,dval (c::u)=N:=⟨_,rfl⟩
      rw[hN]at hdb HC ⊢
      clear htk hN hlt
      go_wp2_with fail
      refine(rInt_any _ _).mono ?_
      rintro e w4 ⟨rfl,hE4⟩
      have hI4:=hI1.ext hE4
      have hz4:=hz1.own (grown_of hE4 none) (by simp)
      obtain⟨c0,c1,c2,c3,c4,c5,c6⟩:=con0_cells hI4
      obtain⟨q0,q1,q2,q3,q4,q5,q6⟩:=hI4.freeAll
      go_upto_region 17 with fail
      show Code.wp _ _ _ _ (setV w4 w0.heap.size 1 (-((N:Nat):Int)) false ⟨([]:List UInt8).toArray⟩)
      have hI5:=setV_in hI4 1 (-((N:Nat):Int)) false []
      have hz5:=hz4.own (setV_grown w4 w0.heap.size 1 (-((N:Nat):Int)) false ⟨([]:List UInt8).toArray⟩) (by simp;omega)
      have hE5:=ext_of_grown (hE01.trans hE4) (setV_grown w4 w0.heap.size 1 (-((N:Nat):Int)) false ⟨([]:List UInt8).toArray⟩) (by omega)
      clear c0 c1 c2 c3 c4 c5 c6 q0 q1 q2 q3 q4 q5 q6
      generalize setV w4 w0.heap.size 1 (-((N:Nat):Int)) false ⟨([]:List UInt8).toArray⟩=w5 at *
      obtain⟨c0,c1,c2,c3,c4,c5,c6⟩:=con_cells hI5
      obtain⟨u0,u1,u2,u3,u4,u5,u6⟩:=hz5.cells
      obtain⟨f0,f1,f2,f3,f4,f5,f6⟩:=hz5.free
      go_wp2_with fail
      exact const_some rfl ⟨1,-((N:Nat):Int),false,[]⟩ HC.out hz5 hE5 (zP _) rfl rfl
end Go.Proofs.YtmiencglfhpmeaaGreatDoor
