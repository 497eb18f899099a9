/- The contracts of the reference's class and token (printed by gen_ha.py). -/
import Derived.Test.YtmiencglfhpmeaaGreatDoorUQXp
open List renaming getD → zA, getD_cons_zero → zB, getElem?_eq_getElem → zC, getElem_cons_succ → zD, getElem_take → zE, length_cons → zF, length_take → zG
open Nat renaming le_refl → zH
open Int renaming not_le → zI, not_lt → zJ
open Go.Lib renaming hid → zK
set_option linter.unusedSimpArgs false
set_option linter.unusedVariables false
namespace Go.Proofs.YtmiencglfhpmeaaGreatDoor
open Go.RowKit Hach
def clsN (c:UInt8):Nat:=if isLet c=true then 97 else if isDig c=true then 48 else c.toNat
theorem clsN_lt (c:UInt8):clsN c<256:=by
 have:=c.toNat_lt
 unfold clsN;split
 ·omega
 ·split<;>omega
theorem cls_let (c:UInt8):(((clsN c:Nat):Int) == 97)=isLet c:=by
 unfold clsN
 cases h:isLet c with
 | true=>rfl
 | false=>
  rw[if_neg (by simp)]
  split
  ·rfl
  ·rw[beq_eq_false_iff_ne]
   unfold isLet at h
   intro e
   have:c.toNat=97:=by omega
   rw[this]at h
   simp at h
theorem cls_dig (c:UInt8):(((clsN c:Nat):Int) == 48)=isDig c:=by
 unfold clsN
 cases h:isLet c with
 | true=>
  unfold isLet at h
  unfold isDig
  rw[if_pos rfl]
  simp at h
  symm
  have :¬c.toNat≤57:=by omega
  rw[decide_eq_false this];simp
 | false=>
  rw[if_neg (by simp)]
  cases h2:isDig c with
  | true=>rfl
  | false=>
   rw[if_neg (by simp),beq_eq_false_iff_ne]
   unfold isDig at h2
   intro e
   have:c.toNat=48:=by omega
   rw[this]at h2
   simp at h2
theorem cls_any (c:UInt8) (w:World):Calls Tryz.prog 166 #[.int .u8 (c.toNat:Nat)] w fun e w'=>e=.returned (.int .u8 (clsN c:Nat))∧w'=w:=by
 have hlt:=c.toNat_lt
 by_cases h1:97≤c.toNat
 ·have t1:decide ((97:Int)≤(c.toNat:Int))=true:=by simp;omega
  by_cases h2:c.toNat≤122
  ·have t2:decide ((c.toNat:Int)≤122)=true:=by simp;omega
   have H:=zK (show clsN c=97 by unfold clsN isLet;rw[decide_eq_true h1,decide_eq_true h2];rfl)
   clear h1 h2
   go_enter Tryz.func166,Tryz.ntmps166
   go_wp2_with fail
   go_ret
   exact⟨by rw[H.out];rfl,rfl⟩
  ·have t2:decide ((c.toNat:Int)≤122)=false:=by simp;omega
   have t3:decide ((48:Int)≤(c.toNat:Int))=true:=by simp;omega
   have t4:decide ((c.toNat:Int)≤57)=false:=by simp;omega
   have H:=zK (show clsN c=c.toNat by unfold clsN isLet isDig;rw[decide_eq_false h2,decide_eq_false (show ¬c.toNat≤57 by omega)];simp)
   clear h1 h2
   go_enter Tryz.func166,Tryz.ntmps166
   go_wp2_with fail
   go_ret
   exact⟨by rw[H.out];rfl,rfl⟩
 ·have t1:decide ((97:Int)≤(c.toNat:Int))=false:=by simp;omega
  by_cases h3:48≤c.toNat
  ·have t3:decide ((48:Int)≤(c.toNat:Int))=true:=by simp;omega
   by_cases h4:c.toNat≤57
   ·have t4:decide ((c.toNat:Int)≤57)=true:=by simp;omega
    have H:=zK (show clsN c=48 by unfold clsN isLet isDig;rw[decide_eq_false h1,decide_eq_true h3,decide_eq_true h4];rfl)
    clear h1 h3 h4
    go_enter Tryz.func166,Tryz.ntmps166
    go_wp2_with fail
    go_ret
    exact⟨by rw[H.out];rfl,rfl⟩
   ·have t4:decide ((c.toNat:Int)≤57)=false:=by simp;omega
    have H:=zK (show clsN c=c.toNat by unfold clsN isLet isDig;rw[decide_eq_false h1,decide_eq_false h4];simp)
    clear h1 h3 h4
    go_enter Tryz.func166,Tryz.ntmps166
    go_wp2_with fail
    go_ret
    exact⟨by rw[H.out];rfl,rfl⟩
  ·have t3:decide ((48:Int)≤(c.toNat:Int))=false:=by simp;omega
   have H:=zK (show clsN c=c.toNat by unfold clsN isLet isDig;rw[decide_eq_false h1,decide_eq_false h3];simp)
   clear h1 h3
   go_enter Tryz.func166,Tryz.ntmps166
   go_wp2_with fail
   go_ret
   exact⟨by rw[H.out];rfl,rfl⟩
set_option maxRecDepth 100000 in
set_option maxHeartbeats 2000000 in
theorem tk_word (c:UInt8) (t:List UInt8) (w:World) (hl:(c::t).length<4294967296) (h1:isLet c=true):Calls Tryz.prog 140 #[.string ⟨(c::t).toArray⟩] w fun e w'=>e=.returned (.int .i64 (tokLen (c::t):Nat))∧w'=w:=by
 have hsz:=toArr_size (c::t)
 obtain⟨m,hm⟩ :∃m,(c::t).length=m:=⟨_,rfl⟩
 have h0:=ba_get (c::t) 0
 simp only[zB]at h0
 have hm1:1≤m:=by rw[←hm];simp
 have HM:=zK hm
 rw[hm]at hsz hl
 have hT:tokLen (c::t)=spn isLet (c::t):=by rw[tokLen_cons,if_pos h1];simp[spn,h1];omega
 have CL:=zK (show Calls Tryz.prog 166 #[.int .u8 (c.toNat:Nat)] w fun e w'=>e=.returned (.int .u8 97)∧w'=w from by
  have h:=cls_any c w
  rw[show clsN c=97 by unfold clsN;rw[if_pos h1]]at h
  exact h)
 obtain⟨n,hn⟩ :∃n,spn isLet (c::t)=n:=⟨_,rfl⟩
 have HAT:=zK (show ∀(k:Nat) (h:k<(c::t).length),k<n→isLet ((c::t)[k])=true from fun k h hk=>spn_at isLet (c::t) k h (by rw[hn];exact hk))
 have HST:=zK (show ∀(h:n<(c::t).length),isLet ((c::t)[n])=false from fun h=>by subst hn;exact spn_stop isLet (c::t) h)
 have HNM:=zK (show n≤m by rw[←hn,←hm];exact spn_le _ _)
 have hn1:1≤n:=by rw[←hn];simp[spn,h1]
 have HT:=zK (hT.trans hn)
 clear hT hn hm h1
 go_enter Tryz.func140,Tryz.ntmps140
 go_wp2_with fail
 refine CL.out.mono ?_
 rintro e w' ⟨rfl,rfl⟩
 go_wp2_with fail
 go_loop [3] (fun kv =>∃k:Nat,1≤k∧k≤n∧kv=.int .i64 k) (fun kv=>n-(intOf kv).toNat)
 case atStart=>exact⟨1,zH _,hn1,rfl⟩
 case round=>
  obtain⟨k,hk1,hk,rfl⟩:=hrel
  by_cases hlt:k<m
  ·have hb:=ba_get (c::t) k
   have hlt':k<(c::t).length:=by rw[HM.out];exact hlt
   obtain⟨x,hx⟩ :∃x,(c::t).getD k 0=x:=⟨_,rfl⟩
   have hsk:(c::t)[k]=x:=by rw[←hx];simp[zA,zC hlt']
   rw[hx]at hb
   have hcl:=clsN_lt x
   have hcf:=cls_let x
   have CX:=zK (cls_any x)
   by_cases hkn:k<n
   ·have hp:=HAT.out k hlt' hkn
    rw[hsk]at hp
    rw[hp]at hcf
    clear hx hsk hp hlt'
    go_wp2_with fail
    refine(CX.out _).mono ?_
    rintro e w' ⟨rfl,rfl⟩
    go_wp2_with fail
    go_round
    case rel=>exact⟨k+1,by omega,by omega,by go_num⟩
    case measure=>simp[intOf];omega
   ·obtain rfl:n=k:=by omega
    have hp:=HST.out hlt'
    rw[hsk]at hp
    rw[hp]at hcf
    clear hx hsk hp hlt' hkn
    go_wp2_with fail
    refine(CX.out _).mono ?_
    rintro e w' ⟨rfl,rfl⟩
    go_wp2_with fail
    go_ret
    exact⟨by rw[HT.out];rfl,rfl⟩
  ·obtain rfl:n=k:=by have:=HNM.out;omega
   have tk:decide (n<m)=false:=by simp;omega
   clear hlt
   go_wp2_with fail
   go_ret
   exact⟨by rw[HT.out];rfl,rfl⟩
set_option maxRecDepth 100000 in
set_option maxHeartbeats 2000000 in
theorem tk_sign (c:UInt8) (t:List UInt8) (w:World) (hl:(c::t).length<4294967296) (h1:isSg c=true):Calls Tryz.prog 140 #[.string ⟨(c::t).toArray⟩] w fun e w'=>e=.returned (.int .i64 (tokLen (c::t):Nat))∧w'=w:=by
 have hsz:=toArr_size (c::t)
 obtain⟨m,hm⟩ :∃m,(c::t).length=m:=⟨_,rfl⟩
 have h0:=ba_get (c::t) 0
 simp only[zB]at h0
 have hm1:1≤m:=by rw[←hm];simp
 have HM:=zK hm
 rw[hm]at hsz hl
 have h1':=h1
 unfold isSg at h1'
 simp only[decide_eq_true_eq]at h1'
 have hL:isLet c=false:=by unfold isLet;rw[decide_eq_false (show ¬97≤c.toNat by omega)];rfl
 have hD:isDig c=false:=by
  unfold isDig
  rcases(by omega:c.toNat<48∨57<c.toNat) with h|h
  ·rw[decide_eq_false (show ¬48≤c.toNat by omega)];rfl
  ·rw[decide_eq_false (show ¬c.toNat≤57 by omega)];simp
 have HT:=zK (show tokLen (c::t)=1 by rw[tokLen_cons,if_neg (by rw[hL];simp),if_neg (by rw[hD];simp),if_neg (by omega),if_neg (by omega),if_pos h1])
 have CL :∀k:Nat,c.toNat=k→Hid (Calls Tryz.prog 166 #[.int .u8 (c.toNat:Nat)] w fun e w'=>e=.returned (.int .u8 (k:Nat))∧w'=w):=fun k hk=>zK (by
  have h:=cls_any c w
  rw[show clsN c=k by unfold clsN;rw[hL,hD,←hk];rfl]at h
  exact h)
 rcases h1' with h|h|h|h|h|h
 all_goals
  have CL:=CL _ h
  clear h1 hL hD hm h
  go_enter Tryz.func140,Tryz.ntmps140
  go_wp2_with fail
  refine CL.out.mono ?_
  rintro e w' ⟨rfl,rfl⟩
  go_wp2_with fail
  go_ret
  exact⟨by rw[HT.out];rfl,rfl⟩
set_option maxRecDepth 100000 in
set_option maxHeartbeats 2000000 in
theorem tk_none (c:UInt8) (t:List UInt8) (w:World) (hl:(c::t).length<4294967296) (hL:isLet c=false) (hD:isDig c=false) (h45:c.toNat≠45) (h34:c.toNat≠34) (hS:isSg c=false):Calls Tryz.prog 140 #[.string ⟨(c::t).toArray⟩] w fun e w'=>e=.returned (.int .i64 (tokLen (c::t):Nat))∧w'=w:=by
 have hsz:=toArr_size (c::t)
 obtain⟨m,hm⟩ :∃m,(c::t).length=m:=⟨_,rfl⟩
 have h0:=ba_get (c::t) 0
 simp only[zB]at h0
 have hm1:1≤m:=by rw[←hm];simp
 have HM:=zK hm
 rw[hm]at hsz hl
 have HT:=zK (show tokLen (c::t)=0 by rw[tokLen_cons,if_neg (by rw[hL];simp),if_neg (by rw[hD];simp),if_neg h45,if_neg h34,if_neg (by rw[hS];simp)])
 have h1':=hS
 unfold isSg at h1'
 simp only[decide_eq_false_iff_not]at h1'
 have CL:=zK (show Calls Tryz.prog 166 #[.int .u8 (c.toNat:Nat)] w fun e w'=>e=.returned (.int .u8 (c.toNat:Nat))∧w'=w from by
  have h:=cls_any c w
  rw[show clsN c=c.toNat by unfold clsN;rw[hL,hD];rfl]at h
  exact h)
 have h97:c.toNat≠97:=by intro e;unfold isLet at hL;rw[e]at hL;simp at hL
 have h48:c.toNat≠48:=by intro e;unfold isDig at hD;rw[e]at hD;simp at hD
 have a1:((c.toNat:Int) == 97)=false:=by rw[beq_eq_false_iff_ne];omega
 have a2:((c.toNat:Int) == 40)=false:=by rw[beq_eq_false_iff_ne];omega
 have a3:((c.toNat:Int) == 41)=false:=by rw[beq_eq_false_iff_ne];omega
 have a4:((c.toNat:Int) == 61)=false:=by rw[beq_eq_false_iff_ne];omega
 have a5:((c.toNat:Int) == 60)=false:=by rw[beq_eq_false_iff_ne];omega
 have a6:((c.toNat:Int) == 43)=false:=by rw[beq_eq_false_iff_ne];omega
 have a7:((c.toNat:Int) == 42)=false:=by rw[beq_eq_false_iff_ne];omega
 have a8:((c.toNat:Int) == 34)=false:=by rw[beq_eq_false_iff_ne];omega
 have a9:((c.toNat:Int) == 45)=false:=by rw[beq_eq_false_iff_ne];omega
 have a10:((c.toNat:Int) == 48)=false:=by rw[beq_eq_false_iff_ne];omega
 clear hm hL hD hS h45 h34 h1' h97 h48
 go_enter Tryz.func140,Tryz.ntmps140
 go_wp2_with fail
 refine CL.out.mono ?_
 rintro e w' ⟨rfl,rfl⟩
 go_wp2_with fail
 go_ret
 exact⟨by rw[HT.out];rfl,rfl⟩
end Go.Proofs.YtmiencglfhpmeaaGreatDoor
namespace Go.Proofs.YtmiencglfhpmeaaGreatDoor
open Go.RowKit Hach
theorem ba_sub (s:List UInt8) (a b:Nat):(⟨s.toArray⟩:ByteArray).extract a b=⟨((s.drop a).take (b-a)).toArray⟩:=by
 have:((⟨s.toArray⟩:ByteArray).extract a b).data=((s.drop a).take (b-a)).toArray:=by
  rw[ByteArray.data_extract]
  simp only[List.extract_toArray,List.extract_eq_take_drop]
 rw[←this]
set_option maxRecDepth 100000 in
set_option maxHeartbeats 4000000 in
theorem tk_num (c:UInt8) (t:List UInt8) (w:World) (hl:(c::t).length<4294967296) (h1:isDig c=true):Calls Tryz.prog 140 #[.string ⟨(c::t).toArray⟩] w fun e w'=>e=.returned (.int .i64 (tokLen (c::t):Nat))∧w'=w:=by
 have hsz:=toArr_size (c::t)
 obtain⟨m,hm⟩ :∃m,(c::t).length=m:=⟨_,rfl⟩
 have h0:=ba_get (c::t) 0
 simp only[zB]at h0
 have hm1:1≤m:=by rw[←hm];simp
 have HM:=zK hm
 rw[hm]at hsz hl
 obtain⟨S,hS⟩ :∃S:ByteArray,(⟨(c::t).toArray⟩:ByteArray)=S:=⟨_,rfl⟩
 have HS:=zK hS
 rw[hS]at hsz h0 ⊢
 have hL:isLet c=false:=by
  unfold isDig at h1
  simp at h1
  unfold isLet
  rw[decide_eq_false (show ¬97≤c.toNat by omega)];rfl
 have CL:=zK (show Calls Tryz.prog 166 #[.int .u8 (c.toNat:Nat)] w fun e w'=>e=.returned (.int .u8 48)∧w'=w from by
  have h:=cls_any c w
  rw[show clsN c=48 by unfold clsN;rw[hL,h1];rfl]at h
  exact h)
 obtain⟨n,hn⟩ :∃n,spn isDig (c::t)=n:=⟨_,rfl⟩
 have HAT:=zK (show ∀(k:Nat) (h:k<(c::t).length),k<n→isDig ((c::t)[k])=true from fun k h hk=>spn_at isDig (c::t) k h (by rw[hn];exact hk))
 have HST:=zK (show ∀(h:n<(c::t).length),isDig ((c::t)[n])=false from fun h=>by subst hn;exact spn_stop isDig (c::t) h)
 have hnm:n≤m:=by rw[←hn,←hm];exact spn_le _ _
 have HNM:=zK hnm
 have hn1:1≤n:=by rw[←hn];simp[spn,h1]
 have hns:n=spn isDig t+1:=by rw[←hn];simp[spn,h1]
 have HT:=zK (show tokLen (c::t)=if n≤10∧(c.toNat≠48∨n=1) then n else 0 by
  rw[tokLen_cons,if_neg (by rw[hL];simp),if_pos h1]
  by_cases hq:spn isDig t≤9∧(c.toNat≠48∨spn isDig t=0)
  ·rw[if_pos hq,if_pos ⟨by omega,by omega⟩];omega
  ·rw[if_neg hq,if_neg (by omega)])
 have hEs:(S.extract 0 n).size=n:=by rw[ByteArray.size_extract,hsz];omega
 have hE0 :∀h,(S.extract 0 n)[0]'h=c:=by
  subst hS
  intro h
  have h2:=ba_sub (c::t) 0 n
  have h3:=ba_get (((c::t).drop 0).take (n-0)) 0
  rw[←h2]at h3
  rw[h3 h]
  obtain⟨j,hj⟩ :∃j,n=j+1:=⟨n-1,by omega⟩
  rw[hj];rfl
 have hcase:n≤10∧c.toNat≠48∨n≤10∧c.toNat=48∧n=1∨n≤10∧c.toNat=48∧1<n∨10<n:=by omega
 clear hn hm h1 hns hL hS
 go_enter Tryz.func140,Tryz.ntmps140
 go_wp2_with fail
 refine CL.out.mono ?_
 rintro e w' ⟨rfl,rfl⟩
 go_wp2_with fail
 go_loop [3] (fun kv =>∃k:Nat,1≤k∧k≤n∧kv=.int .i64 k) (fun kv=>n-(intOf kv).toNat)
 case atStart=>exact⟨1,zH _,hn1,rfl⟩
 case round=>
  obtain⟨k,hk1,hk,rfl⟩:=hrel
  by_cases hlt:k<m
  ·have hb:=ba_get (c::t) k
   rw[HS.out]at hb
   have hlt':k<(c::t).length:=by rw[HM.out];exact hlt
   obtain⟨x,hx⟩ :∃x,(c::t).getD k 0=x:=⟨_,rfl⟩
   have hsk:(c::t)[k]=x:=by rw[←hx];simp[zA,zC hlt']
   rw[hx]at hb
   have hcl:=clsN_lt x
   have hcf:=cls_dig x
   have CX:=zK (cls_any x)
   by_cases hkn:k<n
   ·have hp:=HAT.out k hlt' hkn
    rw[hsk]at hp
    rw[hp]at hcf
    clear hx hsk hp hlt'
    go_wp2_with fail
    refine(CX.out _).mono ?_
    rintro e w' ⟨rfl,rfl⟩
    go_wp2_with fail
    go_round
    case rel=>exact⟨k+1,by omega,by omega,by go_num⟩
    case measure=>simp[intOf];omega
   ·obtain rfl:n=k:=by omega
    have hp:=HST.out hlt'
    rw[hsk]at hp
    rw[hp]at hcf
    clear hx hsk hp hlt' hkn
    go_wp2_with fail
    refine(CX.out _).mono ?_
    rintro e w' ⟨rfl,rfl⟩
    rcases hcase with⟨g1,g2⟩|⟨g1,g2,g3⟩|⟨g1,g2,g3⟩|g1
    ·have k1:decide ((10:Int)<(n:Int))=false:=by simp;omega
     have k2:((c.toNat:Int) == 48)=false:=by rw[beq_eq_false_iff_ne];omega
     have HT2:=zK (show tokLen (c::t)=n by rw[HT.out,if_pos ⟨g1,.inl g2⟩])
     clear g1 g2
     try dsimp only
     iterate 240 (try (first|go_values|go_skip|go_guarded|go_step|go_upon|go_in|go_back|(simp only[zJ,zI]at *;go_simp)|(go_values<;>(try go_simp))|go_ite<;>go_prune<;>(try go_simp)))
     go_ret
     exact⟨by rw[HT2.out];rfl,rfl⟩
    ·have k1:decide ((10:Int)<(n:Int))=false:=by simp;omega
     have k2:((c.toNat:Int) == 48)=true:=by rw[g2];rfl
     have k3:decide ((1:Int)<(n:Int))=false:=by simp;omega
     have HT2:=zK (show tokLen (c::t)=n by rw[HT.out,if_pos ⟨g1,.inr g3⟩])
     clear g1 g2 g3
     try dsimp only
     iterate 240 (try (first|go_values|go_skip|go_guarded|go_step|go_upon|go_in|go_back|(simp only[zJ,zI]at *;go_simp)|(go_values<;>(try go_simp))|go_ite<;>go_prune<;>(try go_simp)))
     go_ret
     exact⟨by rw[HT2.out];rfl,rfl⟩
    ·have k1:decide ((10:Int)<(n:Int))=false:=by simp;omega
     have k2:((c.toNat:Int) == 48)=true:=by rw[g2];rfl
     have k3:decide ((1:Int)<(n:Int))=true:=by simp;omega
     have HT2:=zK (show tokLen (c::t)=0 by rw[HT.out,if_neg (by omega)])
     clear g1 g2 g3
     try dsimp only
     iterate 240 (try (first|go_values|go_skip|go_guarded|go_step|go_upon|go_in|go_back|(simp only[zJ,zI]at *;go_simp)|(go_values<;>(try go_simp))|go_ite<;>go_prune<;>(try go_simp)))
     go_ret
     exact⟨by rw[HT2.out];rfl,rfl⟩
    ·have k1:decide ((10:Int)<(n:Int))=true:=by simp;omega
     have HT2:=zK (show tokLen (c::t)=0 by rw[HT.out,if_neg (by omega)])
     clear g1
     try dsimp only
     iterate 240 (try (first|go_values|go_skip|go_guarded|go_step|go_upon|go_in|go_back|(simp only[zJ,zI]at *;go_simp)|(go_values<;>(try go_simp))|go_ite<;>go_prune<;>(try go_simp)))
     go_ret
     exact⟨by rw[HT2.out];rfl,rfl⟩
  ·obtain rfl:n=k:=by have:=HNM.out;omega
   have tk:decide (n<m)=false:=by simp;omega
   clear hlt
   rcases hcase with⟨g1,g2⟩|⟨g1,g2,g3⟩|⟨g1,g2,g3⟩|g1
   ·have k1:decide ((10:Int)<(n:Int))=false:=by simp;omega
    have k2:((c.toNat:Int) == 48)=false:=by rw[beq_eq_false_iff_ne];omega
    have HT2:=zK (show tokLen (c::t)=n by rw[HT.out,if_pos ⟨g1,.inl g2⟩])
    clear g1 g2
    try dsimp only
    iterate 240 (try (first|go_values|go_skip|go_guarded|go_step|go_upon|go_in|go_back|(simp only[zJ,zI]at *;go_simp)|(go_values<;>(try go_simp))|go_ite<;>go_prune<;>(try go_simp)))
    go_ret
    exact⟨by rw[HT2.out];rfl,rfl⟩
   ·have k1:decide ((10:Int)<(n:Int))=false:=by simp;omega
    have k2:((c.toNat:Int) == 48)=true:=by rw[g2];rfl
    have k3:decide ((1:Int)<(n:Int))=false:=by simp;omega
    have HT2:=zK (show tokLen (c::t)=n by rw[HT.out,if_pos ⟨g1,.inr g3⟩])
    clear g1 g2 g3
    try dsimp only
    iterate 240 (try (first|go_values|go_skip|go_guarded|go_step|go_upon|go_in|go_back|(simp only[zJ,zI]at *;go_simp)|(go_values<;>(try go_simp))|go_ite<;>go_prune<;>(try go_simp)))
    go_ret
    exact⟨by rw[HT2.out];rfl,rfl⟩
   ·have k1:decide ((10:Int)<(n:Int))=false:=by simp;omega
    have k2:((c.toNat:Int) == 48)=true:=by rw[g2];rfl
    have k3:decide ((1:Int)<(n:Int))=true:=by simp;omega
    have HT2:=zK (show tokLen (c::t)=0 by rw[HT.out,if_neg (by omega)])
    clear g1 g2 g3
    try dsimp only
    iterate 240 (try (first|go_values|go_skip|go_guarded|go_step|go_upon|go_in|go_back|(simp only[zJ,zI]at *;go_simp)|(go_values<;>(try go_simp))|go_ite<;>go_prune<;>(try go_simp)))
    go_ret
    exact⟨by rw[HT2.out];rfl,rfl⟩
   ·have k1:decide ((10:Int)<(n:Int))=true:=by simp;omega
    have HT2:=zK (show tokLen (c::t)=0 by rw[HT.out,if_neg (by omega)])
    clear g1
    try dsimp only
    iterate 240 (try (first|go_values|go_skip|go_guarded|go_step|go_upon|go_in|go_back|(simp only[zJ,zI]at *;go_simp)|(go_values<;>(try go_simp))|go_ite<;>go_prune<;>(try go_simp)))
    go_ret
    exact⟨by rw[HT2.out];rfl,rfl⟩
set_option maxRecDepth 100000 in
set_option maxHeartbeats 4000000 in
theorem tk_neg (c:UInt8) (t:List UInt8) (w:World) (hl:(c::t).length<4294967296) (h3:c.toNat=45):Calls Tryz.prog 140 #[.string ⟨(c::t).toArray⟩] w fun e w'=>e=.returned (.int .i64 (tokLen (c::t):Nat))∧w'=w:=by
 have hsz:=toArr_size (c::t)
 obtain⟨m,hm⟩ :∃m,(c::t).length=m:=⟨_,rfl⟩
 have h0:=ba_get (c::t) 0
 simp only[zB]at h0
 have hm1:1≤m:=by rw[←hm];simp
 have HM:=zK hm
 rw[hm]at hsz hl
 have hc45:c=45:=u8_eq (n:=45) h3 (by decide)
 have hL:isLet c=false:=by rw[hc45];rfl
 have hD:isDig c=false:=by rw[hc45];rfl
 have CL:=zK (show Calls Tryz.prog 166 #[.int .u8 (c.toNat:Nat)] w fun e w'=>e=.returned (.int .u8 45)∧w'=w from by
  have h:=cls_any c w
  rw[show clsN c=45 by unfold clsN;rw[hL,hD];exact h3]at h
  exact h)
 have HT0:tokLen (c::t)=match t with
   | []=>1
   | d::u=>if isDig d=true then(if spn isDig u≤9∧d.toNat≠48 then 2+spn isDig u else 0) else 1:=by
  rw[tokLen_cons,if_neg (by rw[hL];simp),if_neg (by rw[hD];simp),if_pos h3]
  cases t<;>rfl
 cases t with
 | nil=>
  have HT2:=zK (show tokLen [c]=1 from HT0)
  have hm2:m=1:=by rw[←hm];rfl
  subst hm2
  clear HT0 hL hD hc45 h3 hm
  go_enter Tryz.func140,Tryz.ntmps140
  go_wp2_with fail
  refine CL.out.mono ?_
  rintro e w' ⟨rfl,rfl⟩
  go_wp2_with fail
  go_ret
  exact⟨by rw[HT2.out];rfl,rfl⟩
 | cons d v=>
  have hb1:=ba_get (c::d::v) 1
  simp only[List.getD_cons_succ,zB]at hb1
  have hm2:2≤m:=by rw[←hm];simp
  have km:((m:Int) == 1)=false:=by rw[beq_eq_false_iff_ne];omega
  have CD:=zK (cls_any d)
  have hcd:=cls_dig d
  have hdl:=clsN_lt d
  by_cases h4:isDig d=true
  ·rw[h4]at hcd
   have hcd2:(((clsN d:Nat):Int) != 48)=false:=by simp only[bne,hcd];rfl
   obtain⟨n,hn⟩ :∃n,1+spn isDig (d::v)=n:=⟨_,rfl⟩
   have HAT:=zK (show ∀(k:Nat) (h:k<(c::d::v).length),1≤k→k<n→isDig ((c::d::v)[k])=true from fun k h hk1 hk=>by
    obtain⟨j,rfl⟩ :∃j,k=j+1:=⟨k-1,by omega⟩
    simp only[zD]
    exact spn_at isDig (d::v) j (by simpa using h) (by omega))
   have HST:=zK (show ∀(h:n<(c::d::v).length),isDig ((c::d::v)[n])=false from fun h=>by
    subst hn
    have h2:spn isDig (d::v)<(d::v).length:=by simp only[zF]at h ⊢;omega
    have h5:=spn_stop isDig (d::v) h2
    have e:(c::d::v)[1+spn isDig (d::v)]=(d::v)[spn isDig (d::v)]:=by simp only[Nat.add_comm 1,zD]
    rw[e];exact h5)
   have hnm:n≤m:=by have h5:=spn_le isDig (d::v);rw[←hn,←hm,zF];omega
   have HNM:=zK hnm
   have hns:n=spn isDig v+2:=by rw[←hn];simp[spn,h4];omega
   have hn1:1≤n:=by omega
   have HT:=zK (show tokLen (c::d::v)=if n≤11∧d.toNat≠48 then n else 0 by
    rw[HT0]
    simp only
    rw[if_pos h4]
    by_cases hq:spn isDig v≤9∧d.toNat≠48
    ·rw[if_pos hq,if_pos ⟨by omega,hq.2⟩];omega
    ·rw[if_neg hq,if_neg (by omega)])
   obtain⟨S,hS⟩ :∃S:ByteArray,(⟨(c::d::v).toArray⟩:ByteArray)=S:=⟨_,rfl⟩
   have HS:=zK hS
   rw[hS]at hsz h0 hb1 ⊢
   have hq1':1≤n-1:=by omega
   obtain⟨q,hq⟩ :∃q,n-1=q:=⟨_,rfl⟩
   have hEs:(S.extract 1 n).size=q:=by rw[ByteArray.size_extract,hsz,←hq];omega
   have hE0 :∀h,(S.extract 1 n)[0]'h=d:=by
    subst hS
    intro h
    have h2:=ba_sub (c::d::v) 1 n
    have h5:=ba_get (((c::d::v).drop 1).take (n-1)) 0
    rw[←h2]at h5
    rw[h5 h]
    obtain⟨j,hj⟩ :∃j,n=j+2:=⟨n-2,by omega⟩
    rw[hj];rfl
   have hn2:2≤n:=by omega
   have hcase:n≤11∧d.toNat≠48∨n≤11∧d.toNat=48∨11<n:=by omega
   clear hn hm hns hL hD hc45 h3 h4 HT0 hS
   go_enter Tryz.func140,Tryz.ntmps140
   go_wp2_with fail
   refine CL.out.mono ?_
   rintro e w' ⟨rfl,rfl⟩
   go_wp2_with fail
   refine(CD.out _).mono ?_
   rintro e w' ⟨rfl,rfl⟩
   go_wp2_with fail
   go_loop [3] (fun kv =>∃k:Nat,1≤k∧k≤n∧kv=.int .i64 k) (fun kv=>n-(intOf kv).toNat)
   case atStart=>exact⟨1,zH _,hn1,rfl⟩
   case round=>
    obtain⟨k,hk1,hk,rfl⟩:=hrel
    by_cases hlt:k<m
    ·have hb:=ba_get (c::d::v) k
     rw[HS.out]at hb
     have hlt':k<(c::d::v).length:=by rw[HM.out];exact hlt
     obtain⟨x,hx⟩ :∃x,(c::d::v).getD k 0=x:=⟨_,rfl⟩
     have hsk:(c::d::v)[k]=x:=by rw[←hx];simp[zA,zC hlt']
     rw[hx]at hb
     have hcl:=clsN_lt x
     have hcf:=cls_dig x
     have CX:=zK (cls_any x)
     by_cases hkn:k<n
     ·have hp:=HAT.out k hlt' hk1 hkn
      rw[hsk]at hp
      rw[hp]at hcf
      clear hx hsk hp hlt'
      go_wp2_with fail
      refine(CX.out _).mono ?_
      rintro e w' ⟨rfl,rfl⟩
      go_wp2_with fail
      go_round
      case rel=>exact⟨k+1,by omega,by omega,by go_num⟩
      case measure=>simp[intOf];omega
     ·obtain rfl:n=k:=by omega
      have hp:=HST.out hlt'
      rw[hsk]at hp
      rw[hp]at hcf
      clear hx hsk hp hlt' hkn
      go_wp2_with fail
      refine(CX.out _).mono ?_
      rintro e w' ⟨rfl,rfl⟩
      rcases hcase with⟨g1,g2⟩|⟨g1,g2⟩|g1
      ·have k1:decide ((10:Int)<(q:Int))=false:=by simp;omega
       have k2:((d.toNat:Int) == 48)=false:=by rw[beq_eq_false_iff_ne];omega
       have hq1:1≤q:=by omega
       have HT2:=zK (show tokLen (c::d::v)=n by rw[HT.out,if_pos ⟨g1,g2⟩])
       clear g1 g2 hq
       try dsimp only
       iterate 240 (try (first|go_values|go_skip|go_guarded|go_step|go_upon|go_in|go_back|(simp only[zJ,zI]at *;go_simp)|(go_values<;>(try go_simp))|go_ite<;>go_prune<;>(try go_simp)))
       go_ret
       exact⟨by rw[HT2.out];rfl,rfl⟩
      ·have k1:decide ((10:Int)<(q:Int))=false:=by simp;omega
       have k2:((d.toNat:Int) == 48)=true:=by rw[g2];rfl
       have hq1:1≤q:=by omega
       have HT2:=zK (show tokLen (c::d::v)=0 by rw[HT.out,if_neg (by omega)])
       clear g1 g2 hq
       obtain⟨bb,k3⟩ :∃bb,decide ((1:Int)<(q:Int))=bb:=⟨_,rfl⟩
       cases bb
       all_goals
        try dsimp only
        iterate 240 (try (first|go_values|go_skip|go_guarded|go_step|go_upon|go_in|go_back|(simp only[zJ,zI]at *;go_simp)|(go_values<;>(try go_simp))|go_ite<;>go_prune<;>(try go_simp)))
        go_ret
        exact⟨by rw[HT2.out];rfl,rfl⟩
      ·have k1:decide ((10:Int)<(q:Int))=true:=by simp;omega
       have hq1:1≤q:=by omega
       have HT2:=zK (show tokLen (c::d::v)=0 by rw[HT.out,if_neg (by omega)])
       clear g1 hq
       try dsimp only
       iterate 240 (try (first|go_values|go_skip|go_guarded|go_step|go_upon|go_in|go_back|(simp only[zJ,zI]at *;go_simp)|(go_values<;>(try go_simp))|go_ite<;>go_prune<;>(try go_simp)))
       go_ret
       exact⟨by rw[HT2.out];rfl,rfl⟩
    ·obtain rfl:n=k:=by have:=HNM.out;omega
     have tk:decide (n<m)=false:=by simp;omega
     clear hlt
     rcases hcase with⟨g1,g2⟩|⟨g1,g2⟩|g1
     ·have k1:decide ((10:Int)<(q:Int))=false:=by simp;omega
      have k2:((d.toNat:Int) == 48)=false:=by rw[beq_eq_false_iff_ne];omega
      have hq1:1≤q:=by omega
      have HT2:=zK (show tokLen (c::d::v)=n by rw[HT.out,if_pos ⟨g1,g2⟩])
      clear g1 g2 hq
      try dsimp only
      iterate 240 (try (first|go_values|go_skip|go_guarded|go_step|go_upon|go_in|go_back|(simp only[zJ,zI]at *;go_simp)|(go_values<;>(try go_simp))|go_ite<;>go_prune<;>(try go_simp)))
      go_ret
      exact⟨by rw[HT2.out];rfl,rfl⟩
     ·have k1:decide ((10:Int)<(q:Int))=false:=by simp;omega
      have k2:((d.toNat:Int) == 48)=true:=by rw[g2];rfl
      have hq1:1≤q:=by omega
      have HT2:=zK (show tokLen (c::d::v)=0 by rw[HT.out,if_neg (by omega)])
      clear g1 g2 hq
      obtain⟨bb,k3⟩ :∃bb,decide ((1:Int)<(q:Int))=bb:=⟨_,rfl⟩
      cases bb
      all_goals
       try dsimp only
       iterate 240 (try (first|go_values|go_skip|go_guarded|go_step|go_upon|go_in|go_back|(simp only[zJ,zI]at *;go_simp)|(go_values<;>(try go_simp))|go_ite<;>go_prune<;>(try go_simp)))
       go_ret
       exact⟨by rw[HT2.out];rfl,rfl⟩
     ·have k1:decide ((10:Int)<(q:Int))=true:=by simp;omega
      have hq1:1≤q:=by omega
      have HT2:=zK (show tokLen (c::d::v)=0 by rw[HT.out,if_neg (by omega)])
      clear g1 hq
      try dsimp only
      iterate 240 (try (first|go_values|go_skip|go_guarded|go_step|go_upon|go_in|go_back|(simp only[zJ,zI]at *;go_simp)|(go_values<;>(try go_simp))|go_ite<;>go_prune<;>(try go_simp)))
      go_ret
      exact⟨by rw[HT2.out];rfl,rfl⟩
  ·have h4':isDig d=false:=by simpa using h4
   rw[h4']at hcd
   have hcd2:(((clsN d:Nat):Int) != 48)=true:=by simp only[bne,hcd];rfl
   have HT2:=zK (show tokLen (c::d::v)=1 by
    rw[HT0]
    simp only
    rw[if_neg h4])
   clear HT0 hL hD hc45 h3 hm h4 h4'
   go_enter Tryz.func140,Tryz.ntmps140
   go_wp2_with fail
   refine CL.out.mono ?_
   rintro e w' ⟨rfl,rfl⟩
   go_wp2_with fail
   refine(CD.out _).mono ?_
   rintro e w' ⟨rfl,rfl⟩
   go_wp2_with fail
   go_ret
   exact⟨by rw[HT2.out];rfl,rfl⟩
end Go.Proofs.YtmiencglfhpmeaaGreatDoor
namespace Go.Proofs.YtmiencglfhpmeaaGreatDoor
open Go.RowKit Hach
theorem all_at (p:UInt8→Bool) :∀(s:List UInt8),(∀(k:Nat) (h:k<s.length),p s[k]=true)→s.all p=true
 | [],_=>rfl
 | c::s,h=>by
  have h0:p c=true:=h 0 (by simp)
  rw[List.all_cons,h0,all_at p s fun k hk=>by have:=h (k+1) (by simpa using hk);simpa using this];rfl
theorem not_all_at (p:UInt8→Bool) (s:List UInt8) (k:Nat) (h:k<s.length) (hp:p s[k]=false):s.all p=false:=by
 cases ha:s.all p with
 | false=>rfl
 | true=>
  rw[List.all_eq_true]at ha
  have:=ha _ (List.getElem_mem h)
  rw[hp]at this;cases this
set_option maxRecDepth 100000 in
set_option maxHeartbeats 4000000 in
theorem tk_str (c:UInt8) (t:List UInt8) (w:World) (hl:(c::t).length<4294967296) (h34:c.toNat=34):Calls Tryz.prog 140 #[.string ⟨(c::t).toArray⟩] w fun e w'=>e=.returned (.int .i64 (tokLen (c::t):Nat))∧w'=w:=by
 have hsz:=toArr_size (c::t)
 obtain⟨m,hm⟩ :∃m,(c::t).length=m:=⟨_,rfl⟩
 have h0:=ba_get (c::t) 0
 simp only[zB]at h0
 have hm1:1≤m:=by rw[←hm];simp
 have HM:=zK hm
 rw[hm]at hsz hl
 have hc34:c=34:=u8_eq (n:=34) h34 (by decide)
 have hL:isLet c=false:=by rw[hc34];rfl
 have hD:isDig c=false:=by rw[hc34];rfl
 have CL:=zK (show Calls Tryz.prog 166 #[.int .u8 (c.toNat:Nat)] w fun e w'=>e=.returned (.int .u8 34)∧w'=w from by
  have h:=cls_any c w
  rw[show clsN c=34 by unfold clsN;rw[hL,hD];exact h34]at h
  exact h)
 have hT0:tokLen (c::t)=if spn notQ t<t.length∧(t.take (spn notQ t)).all okQ=true then spn notQ t+2 else 0:=by
  rw[tokLen_cons,if_neg (by rw[hL];simp),if_neg (by rw[hD];simp),if_neg (by omega),if_pos h34]
 obtain⟨n,hn⟩ :∃n,1+spn notQ t=n:=⟨_,rfl⟩
 have hml:t.length+1=m:=by rw[←hm,zF]
 have hnm:n≤m:=by have h5:=spn_le notQ t;omega
 have HNM:=zK hnm
 have hn1:1≤n:=by omega
 have HAT:=zK (show ∀(k:Nat) (h:k<(c::t).length),1≤k→k<n→notQ ((c::t)[k])=true from fun k h hk1 hk=>by
  obtain⟨j,rfl⟩ :∃j,k=j+1:=⟨k-1,by omega⟩
  simp only[zD]
  exact spn_at notQ t j (by simpa using h) (by omega))
 have HST:=zK (show ∀(h:n<(c::t).length),notQ ((c::t)[n])=false from fun h=>by
  subst hn
  have h2:spn notQ t<t.length:=by simp only[zF]at h;omega
  have h5:=spn_stop notQ t h2
  have e:(c::t)[1+spn notQ t]=t[spn notQ t]:=by simp only[Nat.add_comm 1,zD]
  rw[e];exact h5)
 have HB:=zK (show ∀(k:Nat) (h:k<(c::t).length),1≤k→k<n→okQ ((c::t)[k])=false→tokLen (c::t)=0 from fun k h hk1 hk hp=>by
  obtain⟨j,rfl⟩ :∃j,k=j+1:=⟨k-1,by omega⟩
  simp only[zD]at hp
  have hj:j<(t.take (spn notQ t)).length:=by rw[zG];simp only[zF]at h;omega
  rw[hT0,if_neg]
  rintro⟨_,h6⟩
  rw[not_all_at okQ _ j hj (by rw[zE];exact hp)]at h6
  cases h6)
 have HE:=zK (show n=m→tokLen (c::t)=0 from fun e=>by rw[hT0,if_neg (by omega)])
 have HG:=zK (show n<m→(∀(k:Nat) (h:k<(c::t).length),1≤k→k<n→okQ ((c::t)[k])=true)→tokLen (c::t)=n+1 from fun e ha=>by
  rw[hT0,if_pos,←hn]
  ·omega
  ·refine⟨by omega,all_at okQ _ fun k h=>?_⟩
   rw[zE]
   rw[zG]at h
   have:=ha (k+1) (by rw[zF];omega) (by omega) (by omega)
   simpa using this)
 clear hT0 hn hm h34 hc34 hL hD hml
 go_enter Tryz.func140,Tryz.ntmps140
 go_wp2_with fail
 refine CL.out.mono ?_
 rintro e w' ⟨rfl,rfl⟩
 go_wp2_with fail
 go_loop [3] (fun kv =>∃k:Nat,1≤k∧k≤n∧kv=.int .i64 k∧Hid (∀(j:Nat) (h:j<(c::t).length),1≤j→j<k→okQ ((c::t)[j])=true)) (fun kv=>n-(intOf kv).toNat)
 case atStart=>exact⟨1,zH _,hn1,rfl,zK fun j h h1 h2=>by omega⟩
 case round=>
  obtain⟨k,hk1,hk,rfl,hall⟩:=hrel
  by_cases hlt:k<m
  ·have hb:=ba_get (c::t) k
   have hlt':k<(c::t).length:=by rw[HM.out];exact hlt
   obtain⟨x,hx⟩ :∃x,(c::t).getD k 0=x:=⟨_,rfl⟩
   have hsk:(c::t)[k]=x:=by rw[←hx];simp[zA,zC hlt']
   rw[hx]at hb
   by_cases hkn:k<n
   ·have hp:=HAT.out k hlt' hk1 hkn
    rw[hsk]at hp
    unfold notQ at hp
    simp only[decide_eq_true_eq]at hp
    have t1:((x.toNat:Int) != 34)=true:=by rw[bne_iff_ne];omega
    by_cases hlo:x.toNat<32
    ·have t2:decide ((x.toNat:Int)<32)=true:=by simp;omega
     have HT2:=zK (HB.out k hlt' hk1 hkn (by rw[hsk];unfold okQ;rw[decide_eq_false (show ¬32≤x.toNat by omega)];rfl))
     clear hx hsk hp hlt' hlo
     go_wp2_with fail
     go_ret
     exact⟨by rw[HT2.out];rfl,rfl⟩
    ·have t2:decide ((x.toNat:Int)<32)=false:=by simp;omega
     by_cases hhi:126<x.toNat
     ·have t3:decide ((126:Int)<(x.toNat:Int))=true:=by simp;omega
      have HT2:=zK (HB.out k hlt' hk1 hkn (by rw[hsk];unfold okQ;rw[decide_eq_false (show ¬x.toNat≤126 by omega),Bool.and_false]))
      clear hx hsk hp hlt' hlo hhi
      go_wp2_with fail
      go_ret
      exact⟨by rw[HT2.out];rfl,rfl⟩
     ·have t3:decide ((126:Int)<(x.toNat:Int))=false:=by simp;omega
      have HX:=zK (show ∀h:k<(c::t).length,okQ ((c::t)[k]'h)=true from fun _=>by rw[hsk];unfold okQ;rw[decide_eq_true (show 32≤x.toNat by omega),decide_eq_true (show x.toNat≤126 by omega)];rfl)
      clear hx hsk hp hlo hhi hlt'
      go_wp2_with fail
      go_round
      case rel=>
       refine⟨k+1,by omega,by omega,by go_num,zK fun j h h1 h2=>?_⟩
       by_cases e:j=k
       ·subst e;exact HX.out h
       ·exact hall.out j h h1 (by omega)
      case measure=>simp[intOf];omega
   ·obtain rfl:n=k:=by omega
    have hp:=HST.out hlt'
    rw[hsk]at hp
    unfold notQ at hp
    simp only[ne_eq,decide_not,Bool.not_eq_eq_eq_not,Bool.not_false,decide_eq_true_eq]at hp
    have t1:((x.toNat:Int) != 34)=false:=by rw[hp];rfl
    have t4:((n:Int) == (m:Int))=false:=by rw[beq_eq_false_iff_ne];omega
    have HT2:=zK (HG.out hlt hall.out)
    clear hx hsk hp hlt' hkn
    go_wp2_with fail
    go_ret
    exact⟨by rw[HT2.out];go_num,rfl⟩
  ·obtain rfl:n=k:=by have:=HNM.out;omega
   have tk:decide (n<m)=false:=by simp;omega
   have t4:((n:Int) == (m:Int))=true:=by rw[beq_iff_eq];have:=HNM.out;omega
   have HT2:=zK (HE.out (by have:=HNM.out;omega))
   clear hlt
   go_wp2_with fail
   go_ret
   exact⟨by rw[HT2.out];rfl,rfl⟩
theorem token_any (s:List UInt8) (w:World) (hs:s≠[]) (hl:s.length<4294967296):Calls Tryz.prog 140 #[.string ⟨s.toArray⟩] w fun e w'=>e=.returned (.int .i64 (tokLen s:Nat))∧w'=w:=by
 cases s with
 | nil=>exact absurd rfl hs
 | cons c t=>
  by_cases h1:isLet c=true
  ·exact tk_word c t w hl h1
  by_cases h2:isDig c=true
  ·exact tk_num c t w hl h2
  by_cases h3:c.toNat=45
  ·exact tk_neg c t w hl h3
  by_cases h4:c.toNat=34
  ·exact tk_str c t w hl h4
  by_cases h5:isSg c=true
  ·exact tk_sign c t w hl h5
  exact tk_none c t w hl (by simpa using h1) (by simpa using h2) h3 h4 (by simpa using h5)
end Go.Proofs.YtmiencglfhpmeaaGreatDoor
