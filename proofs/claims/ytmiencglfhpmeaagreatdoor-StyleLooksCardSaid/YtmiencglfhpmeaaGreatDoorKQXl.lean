/- Numerals: what is read of a numeral, by either side; plain, of no program. -/
import Derived.Lib.AtoiAllCases
import Derived.Lib.ItoaLen
import Derived.Lib.ItoaMem
import Derived.Test.YtmiencglfhpmeaaGreatDoorKQXk
open List renaming all_cons → zA, cons.injEq → zB, cons_append → zC, drop_eq_getElem_cons → zD, drop_eq_nil_of_le → zE, getD → zF, getElem?_eq_getElem → zG, length_cons → zH, length_drop → zI, length_eq_zero_iff → zJ, length_take → zK, mem_cons → zL, mem_singleton → zM, take_succ_cons → zN
open Nat renaming le_refl → zO, zero_le → zP
open Bool renaming eq_iff_iff → zQ, or_eq_true → zR, true_and → zS
open Go.Lib renaming hid → zT, idxFuncFrom → zU, indexByte → zV
set_option linter.unusedSimpArgs false
set_option linter.unusedVariables false
namespace Go.Proofs.YtmiencglfhpmeaaGreatDoor.Num
open Go.Lib
def InI (v:Int):Prop := -9223372036854775808≤v∧v≤9223372036854775807
theorem dig_toNat {i:Nat}(h:i<10):(UInt8.ofNat (48+i)).toNat=48+i:=by
 rw[UInt8.toNat_ofNat'];omega
theorem dec_ne_nil (u:Nat):decDigits u≠[]:=by
 rw[decDigits];split<;>simp
theorem dec_digits :∀(u:Nat),∀c∈decDigits u,48≤c.toNat∧c.toNat≤57:=by
 intro u
 induction u using Nat.strongRecOn with
 | _ u ih=>
  intro c hc
  rw[decDigits]at hc
  split at hc
  ·rename_i h
   simp only[zM]at hc
   subst hc
   rw[dig_toNat h];omega
  ·rename_i h
   rcases List.mem_append.1 hc with hc|hc
   ·exact ih (u/10) (by omega) c hc
   ·simp only[zM]at hc
    subst hc
    rw[dig_toNat (by omega)];omega
theorem parse_append :∀(l r:List UInt8) (acc:Nat),parseUint10 acc (l++r)=match parseUint10 acc l with|.ok u=>parseUint10 u r|e=>e
 | [],r,acc=>rfl
 | c::l,r,acc=>by
  simp only[zC,parseUint10]
  split
  ·split
   ·rfl
   ·split
    ·rfl
    ·exact parse_append l r _
  ·rfl
theorem parse_dec (u:Nat) (h:u<18446744073709551616):parseUint10 0 (decDigits u)=.ok u:=by
 induction u using Nat.strongRecOn with
 | _ u ih=>
  rw[decDigits]
  split
  ·rename_i h1
   simp only[parseUint10,dig_toNat h1]
   rw[if_pos (by omega),if_neg (by omega),if_neg (by omega)]
   congr 1;omega
  ·rename_i h1
   rw[parse_append,ih (u/10) (by omega) (by omega)]
   simp only[parseUint10,dig_toNat (show u%10<10 by omega)]
   rw[if_pos (by omega),if_neg (by omega),if_neg (by omega)]
   congr 1;omega
theorem parseMag_dec (u:Nat) (h:u<18446744073709551616):parseMag (decDigits u)=.ok u:=by
 unfold parseMag
 rw[if_neg (dec_ne_nil u),parse_dec u h]
theorem head_dec (u:Nat) :∃c r,decDigits u=c::r∧48≤c.toNat∧c.toNat≤57:=by
 match h:decDigits u with
 | []=>exact absurd h (dec_ne_nil u)
 | c::r=>exact⟨c,r,rfl,dec_digits u c (by rw[h];exact List.mem_cons_self)⟩
theorem atoi_itoa {v:Int}(h:InI v):atoiAll (itoa v)=.ok v:=by
 obtain⟨h0,h1⟩:=h
 unfold itoa
 split
 ·rename_i hn
  simp only[atoiAll]
  rw[show(45:UInt8).toNat=45 from rfl]
  simp only[or_true,if_true,parseMag_dec v.natAbs (by omega)]
  rw[if_neg (by simp),if_neg (by omega)]
  congr 1;omega
 ·rename_i hn
  obtain⟨c,r,e,k0,k1⟩:=head_dec v.toNat
  have hp:=parseMag_dec v.toNat (by omega)
  rw[e]at hp ⊢
  simp only[atoiAll]
  rw[if_neg (by omega),hp]
  simp only
  rw[if_neg (by omega),if_neg (by omega),if_neg (by omega)]
  congr 1;omega
def num (d:List UInt8):Option Int:=match atoiAll d with|.ok v=>if itoa v=d then some v else none|_=>none
theorem num_itoa {v:Int}(h:InI v):num (itoa v)=some v:=by
 unfold num;rw[atoi_itoa h];simp
theorem num_some {d:List UInt8}{v:Int}(h:num d=some v):itoa v=d∧InI v:=by
 unfold num at h
 split at h
 ·rename_i u hu
  split at h
  ·rename_i hd
   simp only[Option.some.injEq]at h
   subst h
   exact⟨hd,atoiAll_bounds hu⟩
  ·cases h
 ·cases h
theorem num_length {d:List UInt8}{v:Int}(h:num d=some v):d.length≤21:=by
 obtain⟨e,hv⟩:=num_some h
 rw[←e];exact itoa_length_le v hv.1 hv.2
theorem itoa_mem {v:Int}{c:UInt8}(h:c∈itoa v):c.toNat=45∨(48≤c.toNat∧c.toNat≤57):=by
 unfold itoa at h
 split at h
 ·rcases zL.1 h with rfl|h
  ·exact .inl rfl
  ·exact .inr (dec_digits _ _ h)
 ·exact .inr (dec_digits _ _ h)
theorem itoa_ne_nil (v:Int):itoa v≠[]:=by
 unfold itoa;split
 ·simp
 ·exact dec_ne_nil _
end Go.Proofs.YtmiencglfhpmeaaGreatDoor.Num
namespace Go.Proofs.YtmiencglfhpmeaaGreatDoor
open Go.RowKit Hach
abbrev Tok:=List UInt8
def spn (p:UInt8→Bool):List UInt8→Nat
 | []=>0
 | c::s=>if p c then spn p s+1 else 0
theorem spn_le (p:UInt8→Bool) :∀s,spn p s≤s.length
 | []=>zO _
 | c::s=>by
  have:=spn_le p s
  unfold spn
  split<;>simp<;>omega
theorem spn_at (p:UInt8→Bool) :∀(s:List UInt8) (k:Nat) (h:k<s.length),k<spn p s→p (s[k])=true
 | [],k,h,_=>absurd h (by simp)
 | c::s,k,h,hk=>by
  unfold spn at hk
  by_cases hc:p c=true
  ·cases k with
   | zero=>exact hc
   | succ k=>
    rw[if_pos hc]at hk
    exact spn_at p s k (by simpa using h) (by omega)
  ·rw[if_neg hc]at hk;omega
theorem spn_stop (p:UInt8→Bool) :∀(s:List UInt8) (h:spn p s<s.length),p (s[spn p s])=false
 | [],h=>absurd h (by simp[spn])
 | c::s,h=>by
  by_cases hc:p c=true
  ·have e:spn p (c::s)=spn p s+1:=by simp[spn,hc]
   have h':spn p s<s.length:=by rw[e]at h;simpa using h
   have:=spn_stop p s h'
   simp only[e,List.getElem_cons_succ]
   exact this
  ·have e:spn p (c::s)=0:=by simp[spn,hc]
   simp only[e,List.getElem_cons_zero]
   simpa using hc
theorem spn_all (p:UInt8→Bool) :∀s:List UInt8,(s.take (spn p s)).all p=true
 | []=>by simp[spn]
 | c::s=>by
  unfold spn
  by_cases hc:p c=true
  ·rw[if_pos hc,zN,zA,hc,spn_all p s];rfl
  ·rw[if_neg hc];simp
theorem spn_append {p:UInt8→Bool}:∀ {s t:List UInt8},s.all p=true→spn p (s++t)=s.length+spn p t
 | [],t,_=>by simp
 | c::s,t,h=>by
  rw[zA,Bool.and_eq_true]at h
  rw[zC,spn,if_pos h.1,spn_append h.2]
  simp;omega
theorem spn_zero {p:UInt8→Bool}{t:List UInt8}(h :∀c,t.head?=some c→p c=false):spn p t=0:=by
 cases t with
 | nil=>rfl
 | cons c t=>unfold spn;rw[if_neg (by rw[h c rfl];simp)]
def isBl (c:UInt8):Bool:=decide (c.toNat=32)
def isLet (c:UInt8):Bool:=decide (97≤c.toNat)&&decide (c.toNat≤122)
def isDig (c:UInt8):Bool:=decide (48≤c.toNat)&&decide (c.toNat≤57)
def isMin (c:UInt8):Bool:=decide (c.toNat=45)
def notQ (c:UInt8):Bool:=decide (c.toNat≠34)
def okQ (c:UInt8):Bool:=decide (32≤c.toNat)&&decide (c.toNat≤126)
def isSg (c:UInt8):Bool:=decide (c.toNat=40∨c.toNat=41∨c.toNat=61∨c.toNat=60∨c.toNat=43∨c.toNat=42)
def tokLen:List UInt8→Nat
 | []=>0
 | c::t=>
  if isLet c=true then 1+spn isLet t
  else if isDig c=true then(if spn isDig t≤9∧(c.toNat≠48∨spn isDig t=0) then 1+spn isDig t else 0)
  else if c.toNat=45 then(match t with
   | []=>1
   | d::u=>if isDig d=true then(if spn isDig u≤9∧d.toNat≠48 then 2+spn isDig u else 0) else 1)
  else if c.toNat=34 then(if spn notQ t<t.length∧(t.take (spn notQ t)).all okQ=true then spn notQ t+2 else 0)
  else if isSg c=true then 1 else 0
theorem tokLen_cons (c:UInt8) (t:List UInt8):tokLen (c::t) =
  if isLet c=true then 1+spn isLet t
  else if isDig c=true then(if spn isDig t≤9∧(c.toNat≠48∨spn isDig t=0) then 1+spn isDig t else 0)
  else if c.toNat=45 then(match t with
   | []=>1
   | d::u=>if isDig d=true then(if spn isDig u≤9∧d.toNat≠48 then 2+spn isDig u else 0) else 1)
  else if c.toNat=34 then(if spn notQ t<t.length∧(t.take (spn notQ t)).all okQ=true then spn notQ t+2 else 0)
  else if isSg c=true then 1 else 0:=rfl
theorem tokLen_le :∀s:List UInt8,tokLen s≤s.length
 | []=>zO _
 | c::t=>by
  have h1:=spn_le isLet t
  have h2:=spn_le isDig t
  rw[tokLen_cons,zH]
  by_cases g1:isLet c=true
  ·rw[if_pos g1];omega
  ·rw[if_neg g1]
   by_cases g2:isDig c=true
   ·rw[if_pos g2]
    split<;>omega
   ·rw[if_neg g2]
    by_cases g3:c.toNat=45
    ·rw[if_pos g3]
     cases t with
     | nil=>simp
     | cons d u=>
      have h3:=spn_le isDig u
      simp only[zH]
      split
      ·split<;>omega
      ·omega
    ·rw[if_neg g3]
     by_cases g4:c.toNat=34
     ·rw[if_pos g4]
      split
      ·rename_i h;have:=h.1;omega
      ·omega
     ·rw[if_neg g4]
      split<;>omega
inductive IsTok:Tok→Prop
 | word (c:UInt8) (t:List UInt8) (h:isLet c=true) (ht:t.all isLet=true):IsTok (c::t)
 | num (c:UInt8) (t:List UInt8) (h:isDig c=true) (ht:t.all isDig=true) (hl:t.length≤9) (hz:c.toNat≠48∨t=[]):IsTok (c::t)
 | neg (c:UInt8) (t:List UInt8) (h:isDig c=true) (ht:t.all isDig=true) (hl:t.length≤9) (hz:c.toNat≠48):IsTok (45::c::t)
 | str (q:List UInt8) (h:q.all okQ=true) (hn:q.all notQ=true):IsTok (34::(q++[34]))
 | sign (c:UInt8) (h:isSg c=true∨c.toNat=45):IsTok [c]
theorem u8_eq {c:UInt8}{n:Nat}(h:c.toNat=n) (hn:n<256):c=UInt8.ofNat n:=by
 apply UInt8.toNat_inj.1
 rw[UInt8.toNat_ofNat']
 omega
theorem tok_is :∀s:List UInt8,tokLen s≠0→IsTok (s.take (tokLen s))
 | [],h=>absurd rfl h
 | c::t,h=>by
  rw[tokLen_cons]at h ⊢
  by_cases h1:isLet c=true
  ·rw[if_pos h1,Nat.add_comm,zN]
   exact IsTok.word c _ h1 (spn_all _ _)
  ·rw[if_neg h1]at h ⊢
   by_cases h2:isDig c=true
   ·rw[if_pos h2]at h ⊢
    by_cases h3:spn isDig t≤9∧(c.toNat≠48∨spn isDig t=0)
    ·rw[if_pos h3,Nat.add_comm,zN]
     exact IsTok.num c _ h2 (spn_all _ _) (by rw[zK];omega) (by
      rcases h3.2 with h|h
      ·exact .inl h
      ·exact .inr (by rw[h];simp))
    ·rw[if_neg h3]at h;exact absurd rfl h
   ·rw[if_neg h2]at h ⊢
    by_cases h3:c.toNat=45
    ·rw[if_pos h3]at h ⊢
     have hc:c=45:=u8_eq (n:=45) h3 (by decide)
     subst hc
     cases t with
     | nil=>exact IsTok.sign 45 (.inr rfl)
     | cons d u=>
      simp only at h ⊢
      by_cases h4:isDig d=true
      ·rw[if_pos h4]at h ⊢
       by_cases h5:spn isDig u≤9∧d.toNat≠48
       ·rw[if_pos h5,show 2+spn isDig u=spn isDig u+1+1 by omega,zN,zN]
        exact IsTok.neg d _ h4 (spn_all _ _) (by rw[zK];omega) h5.2
       ·rw[if_neg h5]at h;exact absurd rfl h
      ·rw[if_neg h4]
       exact IsTok.sign 45 (.inr rfl)
    ·rw[if_neg h3]at h ⊢
     by_cases h4:c.toNat=34
     ·rw[if_pos h4]at h ⊢
      have hc:c=34:=u8_eq (n:=34) h4 (by decide)
      subst hc
      by_cases h5:spn notQ t<t.length∧(t.take (spn notQ t)).all okQ=true
      ·rw[if_pos h5,show spn notQ t+2=spn notQ t+1+1 by omega,zN,List.take_succ_eq_append_getElem h5.1]
       have hq:=spn_stop notQ t h5.1
       have hq2:t[spn notQ t]=34:=u8_eq (n:=34) (by simpa[notQ]using hq) (by decide)
       rw[hq2]
       exact IsTok.str _ h5.2 (spn_all _ _)
      ·rw[if_neg h5]at h;exact absurd rfl h
     ·rw[if_neg h4]at h ⊢
      by_cases h5:isSg c=true
      ·rw[if_pos h5]
       exact IsTok.sign c (.inl h5)
      ·rw[if_neg h5]at h;exact absurd rfl h
def ltF:Nat→List UInt8→List Tok×Bool
 | 0,_=>([],false)
 | _+1,[]=>([],false)
 | k+1,c::t=>if c.toNat=32 then ltF k t else if tokLen (c::t)=0 then([],true) else((c::t).take (tokLen (c::t))::(ltF k ((c::t).drop (tokLen (c::t)))).1,(ltF k ((c::t).drop (tokLen (c::t)))).2)
def lt (s:List UInt8):List Tok×Bool:=ltF s.length s
theorem ltF_more :∀(k m:Nat) (s:List UInt8),s.length≤k→s.length≤m→ltF k s=ltF m s
 | 0,0,_,_,_=>rfl
 | 0,m+1,s,h,_=>by
  obtain rfl:s=[]:=zJ.1 (by omega)
  rfl
 | k+1,0,s,_,h=>by
  obtain rfl:s=[]:=zJ.1 (by omega)
  rfl
 | k+1,m+1,[],_,_=>rfl
 | k+1,m+1,c::t,h1,h2=>by
  simp only[zH]at h1 h2
  have hl:=tokLen_le (c::t)
  unfold ltF
  by_cases hb:c.toNat=32
  ·rw[if_pos hb,if_pos hb]
   exact ltF_more k m t (by omega) (by omega)
  ·rw[if_neg hb,if_neg hb]
   by_cases h0:tokLen (c::t)=0
   ·rw[if_pos h0,if_pos h0]
   ·rw[if_neg h0,if_neg h0,ltF_more k m ((c::t).drop (tokLen (c::t))) (by rw[zI,zH];omega) (by rw[zI,zH];omega)]
theorem lt_nil:lt []=([],false):=rfl
theorem lt_cons (c:UInt8) (t:List UInt8):lt (c::t)=if c.toNat=32 then lt t else if tokLen (c::t)=0 then([],true) else((c::t).take (tokLen (c::t))::(lt ((c::t).drop (tokLen (c::t)))).1,(lt ((c::t).drop (tokLen (c::t)))).2):=by
 have hl:=tokLen_le (c::t)
 show ltF (t.length+1) (c::t)=_
 rw[ltF]
 by_cases hb:c.toNat=32
 ·rw[if_pos hb,if_pos hb];rfl
 ·rw[if_neg hb,if_neg hb]
  by_cases h0:tokLen (c::t)=0
  ·rw[if_pos h0,if_pos h0]
  ·rw[if_neg h0,if_neg h0]
   unfold lt
   rw[ltF_more t.length ((c::t).drop (tokLen (c::t))).length ((c::t).drop (tokLen (c::t))) (by rw[zI,zH];omega) (zO _)]
theorem lt_blank (c:UInt8) (t:List UInt8) (h:c.toNat=32):lt (c::t)=lt t:=by rw[lt_cons,if_pos h]
def skip (s:List UInt8):List UInt8:=s.drop (spn isBl s)
theorem lt_skip :∀s,lt (skip s)=lt s
 | []=>rfl
 | c::t=>by
  by_cases h:c.toNat=32
  ·have:skip (c::t)=skip t:=by unfold skip;simp[spn,isBl,h]
   rw[this,lt_skip t,lt_blank c t h]
  ·have:skip (c::t)=c::t:=by unfold skip;simp[spn,isBl,h]
   rw[this]
theorem skip_head (s:List UInt8) :∀c t,skip s=c::t→c.toNat≠32:=by
 intro c t h hc
 unfold skip at h
 have hl:spn isBl s<s.length:=by
  by_cases hh:spn isBl s<s.length
  ·exact hh
  ·rw[zE (by omega)]at h;cases h
 have h1:=spn_stop isBl s hl
 rw[zD hl]at h
 simp only[zB]at h
 rw[h.1]at h1
 simp[isBl,hc]at h1
def nx (s:List UInt8):Option (Tok×List UInt8):=
 if skip s=[] then some ([],[]) else if tokLen (skip s)=0 then none else some ((skip s).take (tokLen (skip s)),(skip s).drop (tokLen (skip s)))
theorem skip_len (s:List UInt8):(skip s).length≤s.length:=by unfold skip;rw[zI];omega
theorem nx_bad {s:List UInt8}(h:lt s=([],true)):nx s=none:=by
 rw[←lt_skip]at h
 unfold nx
 cases hs:skip s with
 | nil=>rw[hs]at h;cases h
 | cons c t=>
  rw[if_neg (by simp)]
  rw[hs,lt_cons,if_neg (skip_head s c t hs)]at h
  by_cases h0:tokLen (c::t)=0
  ·rw[if_pos h0]
  ·rw[if_neg h0]at h;cases h
theorem nx_end {s:List UInt8}(h:lt s=([],false)):nx s=some ([],[]):=by
 rw[←lt_skip]at h
 unfold nx
 cases hs:skip s with
 | nil=>rw[if_pos rfl]
 | cons c t=>
  rw[hs,lt_cons,if_neg (skip_head s c t hs)]at h
  by_cases h0:tokLen (c::t)=0
  ·rw[if_pos h0]at h;cases h
  ·rw[if_neg h0]at h;cases h
theorem nx_tok {s:List UInt8}{t:Tok}{ts:List Tok}{b:Bool}(h:lt s=(t::ts,b)) :∃s',nx s=some (t,s')∧lt s'=(ts,b)∧IsTok t∧s'.length<s.length∧t.length≤s.length:=by
 rw[←lt_skip]at h
 have hsl:=skip_len s
 unfold nx
 cases hs:skip s with
 | nil=>rw[hs]at h;cases h
 | cons c u=>
  rw[hs]at hsl
  rw[hs,lt_cons,if_neg (skip_head s c u hs)]at h
  by_cases h0:tokLen (c::u)=0
  ·rw[if_pos h0]at h;cases h
  ·rw[if_neg h0]at h
   simp only[Prod.mk.injEq,zB]at h
   obtain⟨⟨h1,h2⟩,h3⟩:=h
   have htl:=tokLen_le (c::u)
   refine⟨(c::u).drop (tokLen (c::u)),by rw[if_neg (by simp),if_neg h0,h1],?_,?_,?_,?_⟩
   ·rw[←h2,←h3]
   ·rw[←h1];exact tok_is _ h0
   ·rw[zI];simp only[zH]at *;omega
   ·rw[←h1,zK];omega
theorem IsTok.ne {t:Tok}(h:IsTok t):t≠[]:=by cases h<;>simp
theorem lt_toks :∀(n:Nat) (s:List UInt8),s.length≤n→(∀t∈(lt s).1,IsTok t∧t.length≤s.length)∧(lt s).1.length≤s.length
 | 0,s,h=>by
  obtain rfl:s=[]:=zJ.1 (by omega)
  simp[lt_nil]
 | n+1,s,h=>by
  obtain⟨⟨l,b⟩,hl⟩ :∃p,lt s=p:=⟨_,rfl⟩
  rw[hl]
  cases l with
  | nil=>simp
  | cons t ts=>
   obtain⟨s',h1,h2,h3,h4,h5⟩:=nx_tok hl
   obtain⟨i1,i2⟩:=lt_toks n s' (by omega)
   rw[h2]at i1 i2
   refine⟨fun y hy=>?_,by simp at i2 ⊢;omega⟩
   rcases zL.1 hy with rfl|hy
   ·exact⟨h3,h5⟩
   ·obtain⟨a,b⟩:=i1 y hy;exact⟨a,by omega⟩
def dval (t:List UInt8):Nat:=t.foldl (fun n c=>10*n+(c.toNat-48)) 0
def constOf (t:Tok):Option Vl:=
 if t=tTrue then some ⟨2,0,true,[]⟩ else if t=tFalse then some ⟨2,0,false,[]⟩ else
 match t with
 | []=>none
 | c::u=>if c.toNat=34 then some ⟨3,0,false,u.dropLast⟩ else if isDig c=true then some ⟨1,(dval (c::u):Nat),false,[]⟩ else if c.toNat=45∧u≠[] then some ⟨1,-((dval u:Nat):Int),false,[]⟩ else none
def ix:List Tok→Tok→Option Nat
 | [],_=>none
 | x::l,t=>if x=t then some 0 else(ix l t).map (· + 1)
def exVar (k:Nat):Ex:=.mk 2 ((k:Int)+1) 0 0 false [] []
def exCon (v:Vl):Ex:=.mk 1 0 v.ty v.n v.b v.s []
def exOp (o:Int) (l:List Ex):Ex:=.mk o 0 0 0 false [] l
def takeT (w:Tok):List Tok→Option (List Tok)
 | []=>none
 | t::r=>if t=w then some r else none
mutual
def wholeF:Nat→Bool→List Tok→Option (Ex×List Tok)
 | 0,_,_=>none
 | _+1,_,[]=>none
 | n+1,bad,t::r=>
  if t=tNot then(pieceF n bad r).bind fun p=>some (exOp 3 [p.1],p.2)
  else if t=tIf then(pieceF n bad r).bind fun p=>(takeT tThen p.2).bind fun r1=>(pieceF n bad r1).bind fun q=>(takeT tElse q.2).bind fun r2=>(pieceF n bad r2).bind fun z=>some (exOp 13 [p.1,q.1,z.1],z.2)
  else(pieceF n bad (t::r)).bind fun p=>match p.2 with
   | []=>if bad=true then none else some (p.1,[])
   | o::r'=>match ix wdL o with
    | none=>some (p.1,o::r')
    | some k=>(pieceF n bad r').bind fun q=>some (exOp (4+(k:Int)) [p.1,q.1],q.2)
def pieceF:Nat→Bool→List Tok→Option (Ex×List Tok)
 | 0,_,_=>none
 | _+1,_,[]=>none
 | n+1,bad,t::r=>
  if t=[40] then(wholeF n bad r).bind fun p=>(takeT [41] p.2).bind fun r1=>some (p.1,r1)
  else match ix nmL t with
   | some k=>some (exVar k,r)
   | none=>(constOf t).bind fun v=>some (exCon v,r)
end
def zeroE:Ex:=.mk 0 0 0 0 false [] []
def readT (s:List UInt8):Option Ex:=
 if (lt s).2=true then none else match wholeF (2*(lt s).1.length+2) false (lt s).1 with
  | some (e,[])=>some e
  | _=>none
def parseE (s:List UInt8):Ex×Int:=
 if 4096<s.length then(zeroE,2) else match readT s with
  | none=>(zeroE,4)
  | some e=>if chkE e=0 then(e,0) else(zeroE,chkE e)
end Go.Proofs.YtmiencglfhpmeaaGreatDoor
namespace Go.Proofs.YtmiencglfhpmeaaGreatDoor
open Go.RowKit Hach
def wrong:List PanicEntry:=[{ v:=.iface 175 (.agg #[]),recovered:=false }]
theorem need_yes (w:World):Calls Tryz.prog 165 #[.bool true] w fun e w'=>e=.returned (.tuple #[])∧w'=w:=by
 go_enter Tryz.func165,Tryz.ntmps165
 go_wp2_with fail
 go_end0
 exact⟨rfl,rfl⟩
theorem need_no (w:World):Calls Tryz.prog 165 #[.bool false] w fun e w'=>e=.panicked wrong∧w'=w:=by
 go_enter Tryz.func165,Tryz.ntmps165
 go_wp2_with fail
 exact⟨rfl,rfl,rfl⟩
theorem ba_take (s:List UInt8) (k:Nat):(⟨s.toArray⟩:ByteArray).extract 0 k=⟨(s.take k).toArray⟩:=by
 have:((⟨s.toArray⟩:ByteArray).extract 0 k).data=(s.take k).toArray:=by rw[ByteArray.data_extract];simp
 rw[←this]
theorem ba_drop (s:List UInt8) (k:Nat):(⟨s.toArray⟩:ByteArray).extract k s.length=⟨(s.drop k).toArray⟩:=by
 have:((⟨s.toArray⟩:ByteArray).extract k s.length).data=(s.drop k).toArray:=by
  rw[ByteArray.data_extract]
  simp only[List.extract_toArray,List.extract_eq_take_drop]
  congr 1
  rw[List.take_of_length_le (by rw[zI];omega)]
 rw[←this]
theorem blank_any (c:UInt8) (w:World):Calls Tryz.prog 181 #[.int .u8 (c.toNat:Nat)] w fun e w'=>e=.returned (.bool (isBl c))∧w'=w:=by
 have h:((c.toNat:Int) == 32)=isBl c:=by
  unfold isBl
  rw[zQ];simp;omega
 have H:=zT h
 clear h
 go_enter Tryz.func181,Tryz.ntmps181
 go_wp2_with fail
 go_ret
 exact⟨by rw[←H.out];rfl,rfl⟩
theorem minus_any (c:UInt8) (w:World):Calls Tryz.prog 184 #[.int .u8 (c.toNat:Nat)] w fun e w'=>e=.returned (.bool (isMin c))∧w'=w:=by
 have h:((c.toNat:Int) == 45)=isMin c:=by
  unfold isMin
  rw[zQ];simp;omega
 have H:=zT h
 clear h
 go_enter Tryz.func184,Tryz.ntmps184
 go_wp2_with fail
 go_ret
 exact⟨by rw[←H.out];rfl,rfl⟩
theorem letter_any (c:UInt8) (w:World):Calls Tryz.prog 182 #[.int .u8 (c.toNat:Nat)] w fun e w'=>e=.returned (.bool (isLet c))∧w'=w:=by
 by_cases h1:97≤c.toNat
 ·have t1:decide ((97:Int)≤(c.toNat:Int))=true:=by simp;omega
  have H:=zT (show decide ((c.toNat:Int)≤122)=isLet c by
   unfold isLet
   rw[decide_eq_true h1,zS,zQ];simp;omega)
  clear h1
  go_enter Tryz.func182,Tryz.ntmps182
  go_wp2_with fail
  go_ret
  exact⟨by rw[←H.out];rfl,rfl⟩
 ·have t1:decide ((97:Int)≤(c.toNat:Int))=false:=by simp;omega
  have H:=zT (show isLet c=false by unfold isLet;rw[decide_eq_false h1];rfl)
  clear h1
  go_enter Tryz.func182,Tryz.ntmps182
  go_wp2_with fail
  go_ret
  exact⟨by rw[H.out];rfl,rfl⟩
theorem digit_any (c:UInt8) (w:World):Calls Tryz.prog 183 #[.int .u8 (c.toNat:Nat)] w fun e w'=>e=.returned (.bool (isDig c))∧w'=w:=by
 by_cases h1:48≤c.toNat
 ·have t1:decide ((48:Int)≤(c.toNat:Int))=true:=by simp;omega
  have H:=zT (show decide ((c.toNat:Int)≤57)=isDig c by
   unfold isDig
   rw[decide_eq_true h1,zS,zQ];simp;omega)
  clear h1
  go_enter Tryz.func183,Tryz.ntmps183
  go_wp2_with fail
  go_ret
  exact⟨by rw[←H.out];rfl,rfl⟩
 ·have t1:decide ((48:Int)≤(c.toNat:Int))=false:=by simp;omega
  have H:=zT (show isDig c=false by unfold isDig;rw[decide_eq_false h1];rfl)
  clear h1
  go_enter Tryz.func183,Tryz.ntmps183
  go_wp2_with fail
  go_ret
  exact⟨by rw[H.out];rfl,rfl⟩
set_option maxRecDepth 100000 in
set_option maxHeartbeats 1000000 in
theorem span_blank (s:List UInt8) (b:Nat) (w:World) (hV:VarAt 179 w b (.string ⟨s.toArray⟩)) (hs:s.length<4294967296) :
  Calls Tryz.prog 180 #[.pointer (some ⟨b,0,none⟩),.func (.func 181) #[] #[]] w fun e w'=>e=.returned (.string ⟨(s.take (spn isBl s)).toArray⟩)∧w'=w.setCell ⟨b,0,none⟩ (.string ⟨(s.drop (spn isBl s)).toArray⟩):=by
 obtain⟨hc,hf⟩:=hV.cell
 have hsz:=toArr_size s
 have hat:=zT (spn_at isBl s)
 have hst:=zT (spn_stop isBl s)
 have HLE:=zT (spn_le isBl s)
 obtain⟨n,hn⟩ :∃n,spn isBl s=n:=⟨_,rfl⟩
 have HT:=zT (ba_take s n)
 have HD:=zT (ba_drop s n)
 have HN:=zT hn
 simp only[hn]at hat HLE ⊢
 clear hV hn
 go_enter Tryz.func180,Tryz.ntmps180
 go_wp2_with fail
 go_loop [5] (fun kv =>∃k:Nat,k≤n∧kv=.int .i64 k) (fun kv=>n-(intOf kv).toNat)
 case atStart=>exact⟨0,zP _,rfl⟩
 case round=>
  obtain⟨k,hk,rfl⟩:=hrel
  by_cases hlt:k<s.length
  ·have hb:=ba_get s k
   have tk:decide (k<s.length)=true:=by simp;omega
   obtain⟨c,hcc⟩ :∃c,s.getD k 0=c:=⟨_,rfl⟩
   have hsk:s[k]=c:=by rw[←hcc];simp[zF,zG hlt]
   rw[hcc]at hb
   by_cases hk2:k<n
   ·have hp:=hat.out k hlt hk2
    rw[hsk]at hp
    clear hcc hsk
    go_wp2_with fail
    refine(blank_any c _).mono ?_
    rintro e w' ⟨rfl,rfl⟩
    rw[hp]
    go_wp2_with fail
    go_round
    case rel=>exact⟨k+1,by omega,by go_num⟩
    case measure=>simp[intOf];omega
   ·obtain rfl:n=k:=by omega
    have hp:isBl c=false:=by
     have h1:=hst.out
     simp only[HN.out]at h1
     have h2:=h1 hlt
     rw[hsk]at h2
     exact h2
    clear hcc hsk hk2
    go_wp2_with fail
    refine(blank_any c _).mono ?_
    rintro e w' ⟨rfl,rfl⟩
    rw[hp]
    go_wp2_with fail
    go_ret
    exact⟨by rw[←HT.out];rfl,by rw[←HD.out]⟩
  ·obtain rfl:n=k:=by have:=HLE.out;omega
   have tk:decide (n<s.length)=false:=by simp;omega
   have hle:=HLE.out
   go_wp2_with fail
   go_ret
   exact⟨by rw[←HT.out];rfl,by rw[←HD.out]⟩
set_option maxRecDepth 100000 in
set_option maxHeartbeats 1000000 in
theorem span_minus (s:List UInt8) (b:Nat) (w:World) (hV:VarAt 179 w b (.string ⟨s.toArray⟩)) (hs:s.length<4294967296) :
  Calls Tryz.prog 180 #[.pointer (some ⟨b,0,none⟩),.func (.func 184) #[] #[]] w fun e w'=>e=.returned (.string ⟨(s.take (spn isMin s)).toArray⟩)∧w'=w.setCell ⟨b,0,none⟩ (.string ⟨(s.drop (spn isMin s)).toArray⟩):=by
 obtain⟨hc,hf⟩:=hV.cell
 have hsz:=toArr_size s
 have hat:=zT (spn_at isMin s)
 have hst:=zT (spn_stop isMin s)
 have HLE:=zT (spn_le isMin s)
 obtain⟨n,hn⟩ :∃n,spn isMin s=n:=⟨_,rfl⟩
 have HT:=zT (ba_take s n)
 have HD:=zT (ba_drop s n)
 have HN:=zT hn
 simp only[hn]at hat HLE ⊢
 clear hV hn
 go_enter Tryz.func180,Tryz.ntmps180
 go_wp2_with fail
 go_loop [5] (fun kv =>∃k:Nat,k≤n∧kv=.int .i64 k) (fun kv=>n-(intOf kv).toNat)
 case atStart=>exact⟨0,zP _,rfl⟩
 case round=>
  obtain⟨k,hk,rfl⟩:=hrel
  by_cases hlt:k<s.length
  ·have hb:=ba_get s k
   have tk:decide (k<s.length)=true:=by simp;omega
   obtain⟨c,hcc⟩ :∃c,s.getD k 0=c:=⟨_,rfl⟩
   have hsk:s[k]=c:=by rw[←hcc];simp[zF,zG hlt]
   rw[hcc]at hb
   by_cases hk2:k<n
   ·have hp:=hat.out k hlt hk2
    rw[hsk]at hp
    clear hcc hsk
    go_wp2_with fail
    refine(minus_any c _).mono ?_
    rintro e w' ⟨rfl,rfl⟩
    rw[hp]
    go_wp2_with fail
    go_round
    case rel=>exact⟨k+1,by omega,by go_num⟩
    case measure=>simp[intOf];omega
   ·obtain rfl:n=k:=by omega
    have hp:isMin c=false:=by
     have h1:=hst.out
     simp only[HN.out]at h1
     have h2:=h1 hlt
     rw[hsk]at h2
     exact h2
    clear hcc hsk hk2
    go_wp2_with fail
    refine(minus_any c _).mono ?_
    rintro e w' ⟨rfl,rfl⟩
    rw[hp]
    go_wp2_with fail
    go_ret
    exact⟨by rw[←HT.out];rfl,by rw[←HD.out]⟩
  ·obtain rfl:n=k:=by have:=HLE.out;omega
   have tk:decide (n<s.length)=false:=by simp;omega
   have hle:=HLE.out
   go_wp2_with fail
   go_ret
   exact⟨by rw[←HT.out];rfl,by rw[←HD.out]⟩
set_option maxRecDepth 100000 in
set_option maxHeartbeats 1000000 in
theorem span_letter (s:List UInt8) (b:Nat) (w:World) (hV:VarAt 179 w b (.string ⟨s.toArray⟩)) (hs:s.length<4294967296) :
  Calls Tryz.prog 180 #[.pointer (some ⟨b,0,none⟩),.func (.func 182) #[] #[]] w fun e w'=>e=.returned (.string ⟨(s.take (spn isLet s)).toArray⟩)∧w'=w.setCell ⟨b,0,none⟩ (.string ⟨(s.drop (spn isLet s)).toArray⟩):=by
 obtain⟨hc,hf⟩:=hV.cell
 have hsz:=toArr_size s
 have hat:=zT (spn_at isLet s)
 have hst:=zT (spn_stop isLet s)
 have HLE:=zT (spn_le isLet s)
 obtain⟨n,hn⟩ :∃n,spn isLet s=n:=⟨_,rfl⟩
 have HT:=zT (ba_take s n)
 have HD:=zT (ba_drop s n)
 have HN:=zT hn
 simp only[hn]at hat HLE ⊢
 clear hV hn
 go_enter Tryz.func180,Tryz.ntmps180
 go_wp2_with fail
 go_loop [5] (fun kv =>∃k:Nat,k≤n∧kv=.int .i64 k) (fun kv=>n-(intOf kv).toNat)
 case atStart=>exact⟨0,zP _,rfl⟩
 case round=>
  obtain⟨k,hk,rfl⟩:=hrel
  by_cases hlt:k<s.length
  ·have hb:=ba_get s k
   have tk:decide (k<s.length)=true:=by simp;omega
   obtain⟨c,hcc⟩ :∃c,s.getD k 0=c:=⟨_,rfl⟩
   have hsk:s[k]=c:=by rw[←hcc];simp[zF,zG hlt]
   rw[hcc]at hb
   by_cases hk2:k<n
   ·have hp:=hat.out k hlt hk2
    rw[hsk]at hp
    clear hcc hsk
    go_wp2_with fail
    refine(letter_any c _).mono ?_
    rintro e w' ⟨rfl,rfl⟩
    rw[hp]
    go_wp2_with fail
    go_round
    case rel=>exact⟨k+1,by omega,by go_num⟩
    case measure=>simp[intOf];omega
   ·obtain rfl:n=k:=by omega
    have hp:isLet c=false:=by
     have h1:=hst.out
     simp only[HN.out]at h1
     have h2:=h1 hlt
     rw[hsk]at h2
     exact h2
    clear hcc hsk hk2
    go_wp2_with fail
    refine(letter_any c _).mono ?_
    rintro e w' ⟨rfl,rfl⟩
    rw[hp]
    go_wp2_with fail
    go_ret
    exact⟨by rw[←HT.out];rfl,by rw[←HD.out]⟩
  ·obtain rfl:n=k:=by have:=HLE.out;omega
   have tk:decide (n<s.length)=false:=by simp;omega
   have hle:=HLE.out
   go_wp2_with fail
   go_ret
   exact⟨by rw[←HT.out];rfl,by rw[←HD.out]⟩
set_option maxRecDepth 100000 in
set_option maxHeartbeats 1000000 in
theorem span_digit (s:List UInt8) (b:Nat) (w:World) (hV:VarAt 179 w b (.string ⟨s.toArray⟩)) (hs:s.length<4294967296) :
  Calls Tryz.prog 180 #[.pointer (some ⟨b,0,none⟩),.func (.func 183) #[] #[]] w fun e w'=>e=.returned (.string ⟨(s.take (spn isDig s)).toArray⟩)∧w'=w.setCell ⟨b,0,none⟩ (.string ⟨(s.drop (spn isDig s)).toArray⟩):=by
 obtain⟨hc,hf⟩:=hV.cell
 have hsz:=toArr_size s
 have hat:=zT (spn_at isDig s)
 have hst:=zT (spn_stop isDig s)
 have HLE:=zT (spn_le isDig s)
 obtain⟨n,hn⟩ :∃n,spn isDig s=n:=⟨_,rfl⟩
 have HT:=zT (ba_take s n)
 have HD:=zT (ba_drop s n)
 have HN:=zT hn
 simp only[hn]at hat HLE ⊢
 clear hV hn
 go_enter Tryz.func180,Tryz.ntmps180
 go_wp2_with fail
 go_loop [5] (fun kv =>∃k:Nat,k≤n∧kv=.int .i64 k) (fun kv=>n-(intOf kv).toNat)
 case atStart=>exact⟨0,zP _,rfl⟩
 case round=>
  obtain⟨k,hk,rfl⟩:=hrel
  by_cases hlt:k<s.length
  ·have hb:=ba_get s k
   have tk:decide (k<s.length)=true:=by simp;omega
   obtain⟨c,hcc⟩ :∃c,s.getD k 0=c:=⟨_,rfl⟩
   have hsk:s[k]=c:=by rw[←hcc];simp[zF,zG hlt]
   rw[hcc]at hb
   by_cases hk2:k<n
   ·have hp:=hat.out k hlt hk2
    rw[hsk]at hp
    clear hcc hsk
    go_wp2_with fail
    refine(digit_any c _).mono ?_
    rintro e w' ⟨rfl,rfl⟩
    rw[hp]
    go_wp2_with fail
    go_round
    case rel=>exact⟨k+1,by omega,by go_num⟩
    case measure=>simp[intOf];omega
   ·obtain rfl:n=k:=by omega
    have hp:isDig c=false:=by
     have h1:=hst.out
     simp only[HN.out]at h1
     have h2:=h1 hlt
     rw[hsk]at h2
     exact h2
    clear hcc hsk hk2
    go_wp2_with fail
    refine(digit_any c _).mono ?_
    rintro e w' ⟨rfl,rfl⟩
    rw[hp]
    go_wp2_with fail
    go_ret
    exact⟨by rw[←HT.out];rfl,by rw[←HD.out]⟩
  ·obtain rfl:n=k:=by have:=HLE.out;omega
   have tk:decide (n<s.length)=false:=by simp;omega
   have hle:=HLE.out
   go_wp2_with fail
   go_ret
   exact⟨by rw[←HT.out];rfl,by rw[←HD.out]⟩
end Go.Proofs.YtmiencglfhpmeaaGreatDoor
namespace Go.Proofs.YtmiencglfhpmeaaGreatDoor
open Go.RowKit Hach
abbrev RdAt (w:World) (b:Nat) (s:List UInt8):Prop:=VarAt 179 w b (.string ⟨s.toArray⟩)
def NextP (s:List UInt8) (b:Nat) (w:World) (e:Ending) (w':World):Prop:=
 w.grownBy w' (some b)∧match nx s with
  | none=>e=.panicked wrong ∧∃s',RdAt w' b s'
  | some p=>e=.returned (.string ⟨p.1.toArray⟩)∧RdAt w' b p.2
theorem NextP.ok {s:List UInt8}{b:Nat}{w w':World}{e:Ending}(t s':List UInt8) (h:nx s=some (t,s')) (hg:w.grownBy w' (some b)) (he:e=.returned (.string ⟨t.toArray⟩)) (hv:RdAt w' b s'):NextP s b w e w':=by
 refine⟨hg,?_⟩;rw[h];exact⟨he,hv⟩
theorem NextP.no {s:List UInt8}{b:Nat}{w w':World}{e:Ending}(h:nx s=none) (hg:w.grownBy w' (some b)) (he:e=.panicked wrong) {s':List UInt8}(hv:RdAt w' b s'):NextP s b w e w':=by
 refine⟨hg,?_⟩;rw[h];exact⟨he,s',hv⟩
theorem NextP.tok {s r:List UInt8}{b:Nat}{w w':World}{e:Ending}(hr:skip s=r) (hne:r≠[]) (n:Nat) (hn:tokLen r=n) (h0:n≠0) (hg:w.grownBy w' (some b)) (he:e=.returned (.string ⟨(r.take n).toArray⟩)) (hv:RdAt w' b (r.drop n)):NextP s b w e w':=by
 refine NextP.ok (r.take n) (r.drop n) ?_ hg he hv
 unfold nx
 rw[hr,if_neg hne,hn,if_neg h0]
theorem NextP.bad {s r:List UInt8}{b:Nat}{w w':World}{e:Ending}(hr:skip s=r) (hne:r≠[]) (hn:tokLen r=0) (hg:w.grownBy w' (some b)) (he:e=.panicked wrong) {s':List UInt8}(hv:RdAt w' b s'):NextP s b w e w':=by
 refine NextP.no ?_ hg he hv
 unfold nx
 rw[hr,if_neg hne,hn,if_pos rfl]
theorem idx_notQ :∀u:List UInt8,zV u 34=if spn notQ u<u.length then(spn notQ u:Int) else -1
 | []=>by simp[zV]
 | c::u=>by
  have ih:=idx_notQ u
  have hle:=spn_le notQ u
  unfold zV
  by_cases h:c=34
  ·subst h
   rfl
  ·have hn:notQ c=true:=by
    unfold notQ
    simp only[decide_eq_true_eq]
    intro e
    exact h (u8_eq (n:=34) e (by decide))
   have hq:(c == 34)=false:=by simpa using h
   have e1:spn notQ (c::u)=spn notQ u+1:=by simp[spn,hn]
   simp only[hq,Bool.false_eq_true,if_false,e1,ih,zH]
   by_cases hl:spn notQ u<u.length
   ·have h2:spn notQ u+1<u.length+1:=by omega
    have:((spn notQ u:Int) == -1)=false:=by rw[beq_eq_false_iff_ne];omega
    rw[if_pos hl,if_pos h2,this]
    simp
   ·have h2 :¬spn notQ u+1<u.length+1:=by omega
    rw[if_neg hl,if_neg h2]
    simp
theorem idx_sg (c:UInt8):decide (0≤zV [40,41,61,60,43,45,42] c)=(isSg c||decide (c.toNat=45)):=by
 rw[zQ]
 unfold isSg
 simp only[zR,decide_eq_true_eq]
 constructor
 ·intro h
  by_cases hc:c=40∨c=41∨c=61∨c=60∨c=43∨c=45∨c=42
  ·rcases hc with rfl|rfl|rfl|rfl|rfl|rfl|rfl<;>decide
  ·exfalso
   have e :∀n:UInt8,n≠c→(n == c)=false:=fun n hn=>by simpa using hn
   have:zV [40,41,61,60,43,45,42] c = -1:=by
    unfold zV;rw[e 40 (fun h=>hc (by simp[←h]))]
    unfold zV;rw[e 41 (fun h=>hc (by simp[←h]))]
    unfold zV;rw[e 61 (fun h=>hc (by simp[←h]))]
    unfold zV;rw[e 60 (fun h=>hc (by simp[←h]))]
    unfold zV;rw[e 43 (fun h=>hc (by simp[←h]))]
    unfold zV;rw[e 45 (fun h=>hc (by simp[←h]))]
    unfold zV;rw[e 42 (fun h=>hc (by simp[←h]))]
    rfl
   rw[this]at h
   omega
 ·intro h
  have:c=40∨c=41∨c=61∨c=60∨c=43∨c=42∨c=45:=by
   rcases h with(h|h|h|h|h|h)|h
   ·exact .inl (u8_eq (n:=40) h (by decide))
   ·exact .inr (.inl (u8_eq (n:=41) h (by decide)))
   ·exact .inr (.inr (.inl (u8_eq (n:=61) h (by decide))))
   ·exact .inr (.inr (.inr (.inl (u8_eq (n:=60) h (by decide)))))
   ·exact .inr (.inr (.inr (.inr (.inl (u8_eq (n:=43) h (by decide))))))
   ·exact .inr (.inr (.inr (.inr (.inr (.inl (u8_eq (n:=42) h (by decide)))))))
   ·exact .inr (.inr (.inr (.inr (.inr (.inr (u8_eq (n:=45) h (by decide)))))))
  rcases this with rfl|rfl|rfl|rfl|rfl|rfl|rfl<;>decide
def badQ (r:Nat):Bool:=decide (r<32)||decide (126<r)
theorem badQ_fn (w:World):PredAt Tryz.prog 186 #[] encR badQ w:=fun W r _=>by
 unfold FnGives
 show Calls Tryz.prog 186 #[.int .i32 (r:Int)] W _
 by_cases h1:r<32
 ·have hb:badQ r=true:=by simp[badQ,h1]
  have t1:decide ((r:Int)<32)=true:=by simp;omega
  rw[hb]
  clear hb h1
  go_enter Tryz.func186,Tryz.ntmps186
  go_wp2_with fail
  go_ret
  exact⟨rfl,0,rfl⟩
 ·have t1:decide ((r:Int)<32)=false:=by simp;omega
  have H:=zT (show badQ r=decide (126<(r:Int)) by unfold badQ;rw[decide_eq_false h1,Bool.false_or,zQ];simp;omega)
  clear h1
  go_enter Tryz.func186,Tryz.ntmps186
  go_wp2_with fail
  go_ret
  exact⟨by rw[H.out];rfl,0,rfl⟩
theorem badQ_ok (c:UInt8):badQ c.toNat = !okQ c:=by
 unfold badQ okQ
 rw[zQ]
 simp only[zR,Bool.not_eq_true',decide_eq_true_eq,Bool.and_eq_false_iff,decide_eq_false_iff_not]
 omega
theorem idx_badQ (s:List UInt8) :∀(f pos:Nat),s.length-pos≤f→((zU badQ true ⟨s.toArray⟩ f pos<0)↔(s.drop pos).all okQ=true):=by
 intro f
 induction f with
 | zero=>
  intro pos h
  rw[zE (by omega)]
  simp[zU]
 | succ f ih=>
  intro pos h
  have hsz:=toArr_size s
  unfold zU
  by_cases hp:pos<s.length
  ·rw[if_pos (by omega)]
   have hb:(⟨s.toArray⟩:ByteArray)[pos]'(by omega)=s[pos]:=by rw[ba_get];simp[zF,zG hp]
   rw[zD hp,zA]
   by_cases ha:(s[pos]).toNat<128
   ·have hd:=decode_ascii (⟨s.toArray⟩:ByteArray) pos (by omega) (by rw[hb];exact ha)
    rw[hb]at hd
    rw[hd]
    simp only
    rw[badQ_ok]
    cases ho:okQ s[pos] with
    | true=>
     rw[if_neg (by simp)]
     simpa using ih (pos+1) (by omega)
    | false=>
     rw[if_pos (by simp)]
     simp
   ·have hd:=decode_high (⟨s.toArray⟩:ByteArray) pos (by omega) (by rw[hb];omega)
    have ht:badQ (Utf8.decode (⟨s.toArray⟩:ByteArray) pos).1=true:=by unfold badQ;simp;omega
    have ho:okQ s[pos]=false:=by unfold okQ;simp;omega
    rw[if_pos ht,ho]
    simp
  ·rw[if_neg (by omega),zE (by omega)]
   simp
theorem idxq_any (s:List UInt8) (w:World):Calls Tryz.prog 119 #[.string ⟨s.toArray⟩,.func (.func 186) #[] #[]] w fun e w' =>∃i:Int,e=.returned (.int .i64 i)∧decide (i<0)=s.all okQ∧Ext w w':=by
 refine(Tryz.strings_IndexFunc 186 #[] (enters_of Tryz.func186 (by kernel_rfl) rfl) badQ ⟨s.toArray⟩ w (badQ_fn w)).mono ?_
 rintro e w' ⟨rfl,hE⟩
 refine⟨_,rfl,?_,hE⟩
 have h:=idx_badQ s (⟨s.toArray⟩:ByteArray).size 0 (by rw[toArr_size];omega)
 rw[List.drop_zero]at h
 cases ha:s.all okQ with
 | true=>exact decide_eq_true (h.2 ha)
 | false=>exact decide_eq_false (fun hl=>by rw[h.1 hl]at ha;cases ha)
end Go.Proofs.YtmiencglfhpmeaaGreatDoor
