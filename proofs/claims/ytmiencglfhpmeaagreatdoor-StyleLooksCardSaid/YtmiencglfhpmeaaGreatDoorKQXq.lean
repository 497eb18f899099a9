/- Plain facts about the digests of layer 3: what the functions compute, on lists of bytes; nothing of the program. -/
import Derived.Below
import Derived.Laws.OwnMore
import Derived.Laws.IdiomStrings
import Derived.Deep.Draws
import Derived.Laws.StructEq
import Derived.Test.YtmiencglfhpmeaaGreatDoorRows
import Derived.Test.YtmiencglfhpmeaaGreatDoorKQXa
import Derived.WalkKit
import Derived.WalkSpells
import Derived.WalkLawsBesides
import Derived.Lib.Hide
import Derived.Outline
import Derived.Maps.AppendAt
import Derived.Test.YtmiencglfhpmeaaGreatDoorKQXl
import Derived.Lib.IndexMore
import Derived.Test.YtmiencglfhpmeaaGreatDoorKQShelf
import Derived.Test.YtmiencglfhpmeaaGreatDoorKQXp
open List renaming all_cons → zA, all_eq_true → zB, append_assoc → zC, append_nil → zD, cons.inj → zE, cons_append → zF, head?_cons → zG, isPrefixOf → zH, length_append → zI, length_cons → zJ, mem_cons → zK, mem_cons_self → zL, nil_append → zM, replicate → zN, replicate_succ → zO
open Nat renaming le_refl → zP
open Option renaming bind_some → zQ, map_some → zR, some.injEq → zS
open Bool renaming and_eq_true → zT, and_true → zU, false_eq_true → zV
open Go.Lib renaming decDigits → zW, itoa → zX
set_option linter.unusedSimpArgs false
set_option linter.unusedVariables false
namespace Hach
open Go Go.RowKit
def stp (m p x:Nat) (c:UInt8):Nat:=(m*x+c.toNat+1)%p
def rX (l:List UInt8):Nat:=l.foldl (stp 48271 2147483647) 31
def rY (l:List UInt8):Nat:=l.foldl (stp 40692 2147483629) 37
def b4l (n:Nat):List UInt8:=[UInt8.ofNat (n/16777216),UInt8.ofNat (n/65536),UInt8.ofNat (n/256),UInt8.ofNat n]
def b4 (n:Nat):ByteArray:=⟨(b4l n).toArray⟩
def dgl (l:List UInt8):List UInt8:=b4l (rX l)++b4l (rY l)
def dg (s:ByteArray):ByteArray:=⟨(dgl s.data.toList).toArray⟩
theorem data_append (a b:ByteArray):(a++b).data.toList=a.data.toList++b.data.toList:=by
 show(ByteArray.append a b).data.toList=_
 simp
theorem ba_ext {a b:ByteArray}(h:a.data.toList=b.data.toList):a=b:=by
 cases a;cases b;simp at h;simp[h]
theorem eq_of_toList {a b:ByteArray}(h:a.toList=b.toList):a=b:=by
 rw[ByteArray.toList_eq,ByteArray.toList_eq]at h
 exact ba_ext h
def sameL (a b:List ByteArray):Bool:=a.map (·.data.toList) == b.map (·.data.toList)
theorem map_data_inj :∀ {a b:List ByteArray},a.map (·.data.toList)=b.map (·.data.toList)→a=b
 | [],[],_=>rfl
 | [],_::_,h=>by simp at h
 | _::_,[],h=>by simp at h
 | x::a,y::b,h=>by
  simp only[List.map_cons,List.cons.injEq]at h
  rw[ba_ext h.1,map_data_inj h.2]
theorem sameL_iff {a b:List ByteArray}:sameL a b=true↔a=b:=by
 unfold sameL
 rw[beq_iff_eq]
 exact⟨map_data_inj,fun h=>by rw[h]⟩
def node (a b:ByteArray):ByteArray:=dg (⟨#[4]⟩++a++b)
def up:List ByteArray→ByteArray→Nat→Option ByteArray
 | [],d,_=>some d
 | p::ps,d,i=>if p.size=8 then up ps (if i%2=0 then node d p else node p d) (i/2) else none
end Hach
namespace Go.Proofs.YtmiencglfhpmeaaGreatDoor
open Go.RowKit Hach
end Go.Proofs.YtmiencglfhpmeaaGreatDoor
namespace Go.Proofs.YtmiencglfhpmeaaGreatDoor.Num
open Go.Lib
def cutB (c:UInt8):List UInt8→Option (List UInt8×List UInt8)
 | []=>none
 | x::l=>if x=c then some ([],l) else(cutB c l).map fun p=>(x::p.1,p.2)
theorem cutB_some {c:UInt8}:∀ {l a b:List UInt8},cutB c l=some (a,b)→l=a++c::b∧c ∉ a
 | [],a,b,h=>by cases h
 | x::l,a,b,h=>by
  unfold cutB at h
  split at h
  ·rename_i e
   simp only[zS,Prod.mk.injEq]at h
   obtain⟨rfl,rfl⟩:=h
   subst e
   exact⟨rfl,by simp⟩
  ·rename_i e
   match h':cutB c l with
   | none=>rw[h']at h;cases h
   | some (a',b')=>
    rw[h']at h
    simp only[zR,zS,Prod.mk.injEq]at h
    obtain⟨rfl,rfl⟩:=h
    obtain⟨h1,h2⟩:=cutB_some h'
    subst h1
    refine⟨rfl,fun hm=>?_⟩
    rcases zK.1 hm with hm|hm
    ·exact e hm.symm
    ·exact h2 hm
theorem cutB_at {c:UInt8}:∀(a b:List UInt8),c ∉ a→cutB c (a++c::b)=some (a,b)
 | [],b,_=>by simp[cutB]
 | x::a,b,h=>by
  have h1 :¬x=c:=fun e=>h (by rw[e];exact zL)
  simp only[zF,cutB]
  rw[if_neg h1,cutB_at a b (fun hm=>h (List.mem_cons_of_mem _ hm))]
  rfl
theorem cutB_none {c:UInt8}:∀ {l:List UInt8},cutB c l=none↔c ∉ l
 | []=>by simp[cutB]
 | x::l=>by
  simp only[cutB]
  split
  ·rename_i e;subst e;simp
  ·rename_i e
   simp only[Option.map_eq_none_iff,zK,not_or]
   rw[cutB_none]
   exact⟨fun h=>⟨fun e'=>e e'.symm,h⟩,fun h=>h.2⟩
theorem cut_one (c:UInt8) (l:List UInt8):cut l [c]=match cutB c l with|some (a,b)=>(a,b,true)|none=>(l,[],false):=by
 match h:cutB c l with
 | some (a,b)=>
  obtain⟨rfl,hn⟩:=cutB_some h
  have hi:index (a++c::b) [c]=a.length:=index_first (by simp) (by simp[occAt]) (fun j hj=>by
   unfold occAt
   rw[List.drop_append_of_le_length (by omega)]
   have:a.drop j=a[j]::a.drop (j+1):=List.drop_eq_getElem_cons hj
   rw[this]
   simp only[zF,zH,zU,beq_eq_false_iff_ne]
   intro e
   exact hn (by rw[e];exact List.getElem_mem hj))
  unfold cut
  rw[hi,if_pos (by omega)]
  simp
 | none=>
  have hn:=cutB_none.1 h
  have hi:index l [c] = -1:=index_none (fun j hj=>by
   unfold occAt
   match h':l.drop j with
   | []=>rfl
   | x::r=>
    simp only[zH,zU,beq_eq_false_iff_ne]
    intro e
    subst e
    exact hn (List.mem_of_mem_drop (by rw[h'];exact zL)))
  unfold cut
  rw[hi,if_neg (by decide)]
def rdNum (e:UInt8) (l:List UInt8):Option (Int×List UInt8):=match cutB e l with|none=>none|some (d,r)=>(num d).map fun v=>(v,r)
def rdInt (l:List UInt8):Option (Int×List UInt8):=rdNum 59 l
def rdText (l:List UInt8):Option (List UInt8×List UInt8):=match rdNum 58 l with|none=>none|some (n,r)=>if n<0∨(r.length:Int)<n then none else some (r.take n.toNat,r.drop n.toNat)
def wrInt (v:Int):List UInt8:=itoa v++[59]
def wrText (s:List UInt8):List UInt8:=itoa (s.length:Int)++58::s
structure Twin {α:Type}(f:List UInt8→Option (α×List UInt8)) (g:α→List UInt8) (V:α→Prop):Prop where
 back :∀v r,V v→f (g v++r)=some (v,r)
 sole :∀l v r,f l=some (v,r)→V v∧l=g v++r
 ne :∀v,g v≠[]
 first :∀v,(g v).head?≠some 93
theorem not_mem_itoa {c:UInt8}(h :¬(c.toNat=45∨(48≤c.toNat∧c.toNat≤57))) (v:Int):c ∉ itoa v:=fun hm=>h (itoa_mem hm)
theorem rdNum_back (e:UInt8) (he :¬(e.toNat=45∨(48≤e.toNat∧e.toNat≤57))) {v:Int}(hv:InI v) (r:List UInt8):rdNum e (itoa v++e::r)=some (v,r):=by
 unfold rdNum
 rw[cutB_at _ _ (not_mem_itoa he v)]
 simp only
 rw[num_itoa hv]
 rfl
theorem rdNum_only {e:UInt8}{l r:List UInt8}{v:Int}(h:rdNum e l=some (v,r)):InI v∧l=itoa v++e::r:=by
 unfold rdNum at h
 match h':cutB e l with
 | none=>rw[h']at h;cases h
 | some (d,b)=>
  rw[h']at h
  simp only at h
  match h2:num d with
  | none=>rw[h2]at h;cases h
  | some u=>
   rw[h2]at h
   simp only[zR,zS,Prod.mk.injEq]at h
   obtain⟨rfl,rfl⟩:=h
   obtain⟨e1,hv⟩:=num_some h2
   obtain⟨e2,_⟩:=cutB_some h'
   exact⟨hv,by rw[e2,e1]⟩
theorem head_itoa (v:Int) (r:List UInt8):(itoa v++r).head?≠some 93:=by
 match h:itoa v with
 | []=>exact absurd h (itoa_ne_nil v)
 | c::t=>
  have:=itoa_mem (v:=v) (c:=c) (by rw[h];exact zL)
  simp only[zF,zG,ne_eq,zS]
  intro e
  subst e
  exact absurd this (by decide)
theorem twinInt:Twin rdInt wrInt InI where
 back v r hv:=by
  unfold rdInt wrInt
  rw[zC]
  exact rdNum_back 59 (by decide) hv r
 sole l v r h:=by
  obtain⟨hv,e⟩:=rdNum_only h
  exact⟨hv,by rw[e];unfold wrInt;rw[zC];rfl⟩
 ne v:=by unfold wrInt;simp
 first v:=head_itoa v _
theorem twinText:Twin rdText wrText (fun s=>InI (s.length:Int)) where
 back s r hs:=by
  unfold rdText wrText
  rw[zC,zF,rdNum_back 58 (by decide) hs]
  simp only
  rw[if_neg (by rw[zI];omega),Int.toNat_natCast,List.take_left,List.drop_left]
 sole l s r h:=by
  unfold rdText at h
  match h':rdNum 58 l with
  | none=>rw[h']at h;cases h
  | some (n,b)=>
   rw[h']at h
   simp only at h
   split at h
   ·cases h
   ·rename_i hn
    simp only[zS,Prod.mk.injEq]at h
    obtain⟨rfl,rfl⟩:=h
    obtain⟨hv,e⟩:=rdNum_only h'
    have hl:((b.take n.toNat).length:Int)=n:=by rw[List.length_take];omega
    refine⟨by rw[hl];exact hv,?_⟩
    unfold wrText
    rw[hl,e,zC,zF,List.take_append_drop]
 ne v:=by unfold wrText;simp
 first v:=head_itoa _ _
variable {α:Type}{f:List UInt8→Option (α×List UInt8)}{g:α→List UInt8}{V:α→Prop}
theorem Twin.less (T:Twin f g V) {l r:List UInt8}{v:α}(h:f l=some (v,r)):r.length<l.length:=by
 obtain⟨_,e⟩:=T.sole l v r h
 have:=List.length_pos_iff.2 (T.ne v)
 rw[e,zI];omega
end Go.Proofs.YtmiencglfhpmeaaGreatDoor.Num
namespace Go.Proofs.YtmiencglfhpmeaaGreatDoor.Num
open Go.Lib
end Go.Proofs.YtmiencglfhpmeaaGreatDoor.Num
namespace Go.Proofs.YtmiencglfhpmeaaGreatDoor.Wr
open Go.RowKit
def sh166_ren:Go.Shelf.Ren:=⟨fun|166=>46|240=>83|276=>104|n=>n,fun|0=>0|3=>3|4=>4|5=>5|9=>9|20=>20|37=>97|70=>96|72=>99|75=>101|80=>107|164=>150|n=>n,fun|n=>n⟩
theorem sh166:Go.Proofs.Lays.n166 Tryz.prog sh166_ren:={
 mixed:=by kernel_rfl
 f166:=Tryz.func46.trans (congrArg some (by kernel_rfl))
 f240:=Tryz.func83.trans (congrArg some (by kernel_rfl))
 f276:=Tryz.func104.trans (congrArg some (by kernel_rfl))
 t0:=Tryz.underlying0
 a0:=Tryz.isAgg0
 z0:=Tryz.sizeOf0
 v0:=Tryz.zeroValue0
 t3:=Tryz.underlying3
 a3:=Tryz.isAgg3
 z3:=Tryz.sizeOf3
 v3:=Tryz.zeroValue3
 t4:=Tryz.underlying4
 a4:=Tryz.isAgg4
 z4:=Tryz.sizeOf4
 v4:=Tryz.zeroValue4
 t9:=Tryz.underlying9
 a9:=Tryz.isAgg9
 z9:=Tryz.sizeOf9
 v9:=Tryz.zeroValue9
 t20:=Tryz.underlying20
 a20:=Tryz.isAgg20
 z20:=Tryz.sizeOf20
 v20:=Tryz.zeroValue20
 t37:=Tryz.underlying97
 a37:=Tryz.isAgg97
 z37:=Tryz.sizeOf97
 v37:=Tryz.zeroValue97
 t70:=Tryz.underlying96
 a70:=Tryz.isAgg96
 z70:=Tryz.sizeOf96
 v70:=Tryz.zeroValue96
 t72:=Tryz.underlying99
 a72:=Tryz.isAgg99
 z72:=Tryz.sizeOf99
 v72:=Tryz.zeroValue99
 t75:=Tryz.underlying101
 a75:=Tryz.isAgg101
 z75:=Tryz.sizeOf101
 v75:=Tryz.zeroValue101
 t164:=Tryz.underlying150
 a164:=Tryz.isAgg150
 z164:=Tryz.sizeOf150
 v164:=Tryz.zeroValue150 }
theorem sh166x:Builder.Extra Tryz.prog sh166_ren:={
 sizeBuilder:=by kernel_rfl
 liesBuilder:=by kernel_rfl
 t5:=Tryz.underlying5
 a5:=Tryz.isAgg5
 z5:=Tryz.sizeOf5
 v5:=Tryz.zeroValue5
 infoByte:=by kernel_rfl
 cellsByte:=by kernel_rfl
 sizeByte:=by kernel_rfl
 neB5:=by decide }
end Go.Proofs.YtmiencglfhpmeaaGreatDoor.Wr
namespace Go.Proofs.YtmiencglfhpmeaaGreatDoor
open Go.RowKit Hach
def Bd (s:List UInt8):Prop :=∀c,s.head?=some c→c.toNat=32∨c.toNat=41
theorem Bd.lets {s:List UInt8}(h:Bd s):spn isLet s=0:=spn_zero fun c hc=>by
 unfold isLet
 have :¬97≤c.toNat:=by rcases h c hc with e|e<;>omega
 rw[decide_eq_false this];rfl
theorem Bd.digs {s:List UInt8}(h:Bd s):spn isDig s=0:=spn_zero fun c hc=>by
 unfold isDig
 have :¬48≤c.toNat:=by rcases h c hc with e|e<;>omega
 rw[decide_eq_false this];rfl
theorem dig_let {c:UInt8}(h:isDig c=true):isLet c=false:=by
 unfold isDig at h
 simp only[zT,decide_eq_true_eq]at h
 unfold isLet
 rw[decide_eq_false (show ¬97≤c.toNat by omega)];rfl
theorem tok_front {t:Tok}(h:IsTok t) {s:List UInt8}(hb:Bd s):tokLen (t++s)=t.length:=by
 cases h with
 | word c t h ht=>
  rw[zF,tokLen_cons,if_pos h,spn_append ht,hb.lets,zJ];omega
 | num c t h ht hl hz=>
  rw[zF,tokLen_cons,dig_let h,if_neg (by simp),if_pos h,spn_append ht,hb.digs,Nat.add_zero,zJ,Nat.add_comm]
  refine if_pos ⟨hl,?_⟩
  rcases hz with h|h
  ·exact .inl h
  ·exact .inr (by rw[h];rfl)
 | neg c t h ht hl hz=>
  rw[zF,zF,tokLen_cons,if_neg (by decide),if_neg (by decide),if_pos (by decide)]
  simp only
  rw[if_pos h,spn_append ht,hb.digs,Nat.add_zero,if_pos ⟨hl,hz⟩,zJ,zJ];omega
 | str q hq hn=>
  have e:spn notQ (q++[34]++s)=q.length:=by
   rw[zC,spn_append hn,zF,zM,spn]
   rfl
  have e2:(q++[34]++s).take q.length=q:=by rw[zC];simp
  rw[zF,tokLen_cons,if_neg (by decide),if_neg (by decide),if_neg (by decide),if_pos (by decide),e,e2,if_pos ⟨by simp,hq⟩]
  simp
 | sign c h=>
  rw[zF,zM,tokLen_cons]
  have hl:isLet c=false:=by
   unfold isLet
   rw[decide_eq_false (show ¬97≤c.toNat from ?_)]
   ·rfl
   ·rcases h with h|h
    ·unfold isSg at h;simp only[decide_eq_true_eq]at h;omega
    ·omega
  have hd:isDig c=false:=by
   unfold isDig
   have :¬(48≤c.toNat∧c.toNat≤57):=by
    rcases h with h|h
    ·unfold isSg at h;simp only[decide_eq_true_eq]at h;omega
    ·omega
   by_cases h1:48≤c.toNat
   ·rw[decide_eq_false (show ¬c.toNat≤57 by omega),Bool.and_false]
   ·rw[decide_eq_false h1];rfl
  rw[if_neg (by rw[hl];simp),if_neg (by rw[hd];simp)]
  by_cases h45:c.toNat=45
  ·rw[if_pos h45]
   cases s with
   | nil=>rfl
   | cons d u=>
    have hdd:isDig d=false:=by
     unfold isDig
     have:=hb d rfl
     rw[decide_eq_false (show ¬48≤d.toNat by omega)];rfl
    simp only
    rw[if_neg (by rw[hdd];simp)];rfl
  ·have hs:=h.resolve_right h45
   rw[if_neg h45,if_neg ?_,if_pos hs]
   ·rfl
   ·unfold isSg at hs;simp only[decide_eq_true_eq]at hs;omega
theorem open_front (s:List UInt8):tokLen ([40]++s)=1:=by
 rw[zF,zM,tokLen_cons,if_neg (by decide),if_neg (by decide),if_neg (by decide),if_neg (by decide),if_pos (by decide)]
theorem IsTok.first {t:Tok}(h:IsTok t) :∃c u,t=c::u∧c.toNat≠32:=by
 cases h with
 | word c t h ht=>exact⟨c,t,rfl,fun e=>by unfold isLet at h;simp only[zT,decide_eq_true_eq]at h;omega⟩
 | num c t h ht hl hz=>exact⟨c,t,rfl,fun e=>by unfold isDig at h;simp only[zT,decide_eq_true_eq]at h;omega⟩
 | neg c t h ht hl hz=>exact⟨45,c::t,rfl,by decide⟩
 | str q hq hn=>exact⟨34,_,rfl,by decide⟩
 | sign c h=>exact⟨c,[],rfl,fun e=>by
   rcases h with h|h
   ·unfold isSg at h;simp only[decide_eq_true_eq]at h;omega
   ·omega⟩
theorem lt_tok {t:Tok}{s:List UInt8}(h:IsTok t) (hl:tokLen (t++s)=t.length):lt (t++s)=(t::(lt s).1,(lt s).2):=by
 obtain⟨c,u,rfl,hc⟩:=h.first
 rw[zF]at hl ⊢
 rw[lt_cons,if_neg hc,hl,if_neg (by simp)]
 have e1:(c::(u++s)).take (c::u).length=c::u:=by rw[←zF,List.take_left'];rfl
 have e2:(c::(u++s)).drop (c::u).length=s:=by rw[←zF,List.drop_left'];rfl
 rw[e1,e2]
theorem lt_blanks (s:List UInt8) :∀k,lt (zN k 32++s)=lt s
 | 0=>rfl
 | k+1=>by rw[zO,zF,lt_blank _ _ (by decide),lt_blanks s k]
abbrev Itm:=Tok×Nat
def spell:List Itm→List UInt8
 | []=>[]
 | (t,k)::r=>t++(zN k 32++spell r)
def Tl (l:List Itm):Prop:=l=[] ∨∃k r,l=([41],k)::r
def Sep:List Itm→Prop
 | []=>True
 | (t,k)::r=>IsTok t∧(k=0→t=[40]∨Tl r)∧Sep r
theorem Tl.bd {l:List Itm}(h:Tl l):Bd (spell l):=by
 rcases h with rfl|⟨k,r,rfl⟩
 ·intro c hc;cases hc
 ·intro c hc
  simp only[spell,zF,zG,zS]at hc
  subst hc;exact .inr rfl
theorem bd_blanks {k:Nat}(hk:k≠0) (s:List UInt8):Bd (zN k 32++s):=by
 obtain⟨j,rfl⟩ :∃j,k=j+1:=⟨k-1,by omega⟩
 intro c hc
 simp only[zO,zF,zG,zS]at hc
 subst hc;exact .inl rfl
theorem lt_spell :∀l:List Itm,Sep l→lt (spell l)=(l.map (·.1),false)
 | [],_=>rfl
 | (t,k)::r,h=>by
  obtain⟨h1,h2,h3⟩:=h
  have hf:tokLen (t++(zN k 32++spell r))=t.length:=by
   by_cases hk:k=0
   ·rcases h2 hk with rfl|ht
    ·exact open_front _
    ·refine tok_front h1 ?_
     subst hk
     exact ht.bd
   ·exact tok_front h1 (bd_blanks hk _)
  rw[spell,lt_tok h1 hf,lt_blanks,lt_spell r h3]
  rfl
theorem dec_dig (u:Nat):(zW u).all isDig=true:=by
 rw[zB]
 intro c hc
 have:=Num.dec_digits u c hc
 unfold isDig
 simp only[zT,decide_eq_true_eq]
 exact this
theorem dec_lead (u:Nat) (hu:1≤u) :∃c r,zW u=c::r∧c.toNat≠48:=by
 induction u using Nat.strongRecOn with
 | _ u ih=>
  rw[zW]
  split
  ·rename_i h
   exact⟨_,[],rfl,by rw[Num.dig_toNat h];omega⟩
  ·rename_i h
   obtain⟨c,r,e,hc⟩:=ih (u/10) (by omega) (by omega)
   exact⟨c,r++[UInt8.ofNat (48+u%10)],by rw[e];rfl,hc⟩
theorem dec_small (n:Nat) :∀u:Nat,0<n→u<10^n→(zW u).length≤n:=by
 induction n with
 | zero=>intro u h;omega
 | succ n ih=>
  intro u _ hu
  rw[zW]
  split
  ·simp
  ·rename_i h
   rw[Nat.pow_succ]at hu
   by_cases hn:n=0
   ·subst hn;omega
   ·have:=ih (u/10) (by omega) (by omega)
    simp;omega
theorem dec_zero:zW 0=[48]:=by rw[zW];rfl
theorem num_tok (u:Nat) (hu:u<10000000000):IsTok (zW u):=by
 have hd:=dec_dig u
 have hl:=dec_small 10 u (by omega) hu
 by_cases h0:u=0
 ·subst h0
  rw[dec_zero]
  exact IsTok.num 48 [] (by decide) rfl (by simp) (.inr rfl)
 ·obtain⟨c,r,e,hc⟩:=dec_lead u (by omega)
  rw[e]at hd hl ⊢
  rw[zA,zT]at hd
  exact IsTok.num c r hd.1 hd.2 (by simpa using hl) (.inl hc)
theorem neg_tok (u:Nat) (h1:1≤u) (hu:u<10000000000):IsTok (45::zW u):=by
 have hd:=dec_dig u
 have hl:=dec_small 10 u (by omega) hu
 obtain⟨c,r,e,hc⟩:=dec_lead u h1
 rw[e]at hd hl ⊢
 rw[zA,zT]at hd
 exact IsTok.neg c r hd.1 hd.2 (by simpa using hl) hc
theorem dval_app (l:List UInt8) (c:UInt8):dval (l++[c])=10*dval l+(c.toNat-48):=by
 unfold dval;rw[List.foldl_append];rfl
theorem dval_dec (u:Nat):dval (zW u)=u:=by
 induction u using Nat.strongRecOn with
 | _ u ih=>
  rw[zW]
  split
  ·rename_i h
   show 10*0+((UInt8.ofNat (48+u)).toNat-48)=u
   rw[Num.dig_toNat h];omega
  ·rename_i h
   rw[dval_app,ih (u/10) (by omega),Num.dig_toNat (by omega)];omega
theorem itoa_tok {n:Int}(h1 : -1073741824≤n) (h2:n≤1073741824):IsTok (zX n):=by
 unfold zX
 split
 ·exact neg_tok _ (by omega) (by omega)
 ·exact num_tok _ (by omega)
theorem const_itoa (n:Int):constOf (zX n)=some ⟨1,n,false,[]⟩∧zX n≠[40]∧ix nmL (zX n)=none∧zX n≠tNot∧zX n≠tIf:=by
 have key :∀(c:UInt8) (u:List UInt8),(isDig c=true∨(c=45∧u≠[]))→(c::u≠tTrue∧c::u≠tFalse∧c::u≠[40]∧c::u≠tNot∧c::u≠tIf)∧ix nmL (c::u)=none:=by
  intro c u h
  have hc :∀d,(d=116∨d=102∨d=40∨d=110∨d=105∨d=107∨d=99∨d=119∨d=108∨d=115∨d=104∨d=114)→c≠d:=by
   rintro d hd rfl
   rcases h with h|⟨h,_⟩
   ·rcases hd with rfl|rfl|rfl|rfl|rfl|rfl|rfl|rfl|rfl|rfl|rfl|rfl<;>revert h<;>decide
   ·subst h;revert hd;decide
  refine⟨⟨?_,?_,?_,?_,?_⟩,?_⟩
  ·intro e;exact hc 116 (by decide) (zE e).1
  ·intro e;exact hc 102 (by decide) (zE e).1
  ·intro e;exact hc 40 (by decide) (zE e).1
  ·intro e;exact hc 110 (by decide) (zE e).1
  ·intro e;exact hc 105 (by decide) (zE e).1
  ·refine ix_none fun j hj=>?_
   have hj':j<9:=hj
   rcases(by omega:j=0∨j=1∨j=2∨j=3∨j=4∨j=5∨j=6∨j=7∨j=8) with rfl|rfl|rfl|rfl|rfl|rfl|rfl|rfl|rfl<;>intro e<;>exact hc _ (by decide) (zE e).1.symm
 unfold zX
 split
 ·rename_i hn
  obtain⟨c,r,e,hc⟩:=dec_lead n.natAbs (by omega)
  have hv:=dval_dec n.natAbs
  rw[e]at hv ⊢
  obtain⟨⟨k1,k2,k3,k4,k5⟩,k6⟩:=key 45 (c::r) (.inr ⟨rfl,by simp⟩)
  refine⟨?_,k3,k6,k4,k5⟩
  rw[const_rest k1 k2,constR_cons,if_neg (by decide),if_neg (by decide),if_pos ⟨by decide,by simp⟩,hv]
  congr 2;omega
 ·rename_i hn
  obtain⟨c,r,e,hc⟩:=Num.head_dec n.toNat
  have hd:=dec_dig n.toNat
  have hv:=dval_dec n.toNat
  rw[e]at hd hv ⊢
  rw[zA,zT]at hd
  obtain⟨⟨k1,k2,k3,k4,k5⟩,k6⟩:=key c r (.inl hd.1)
  refine⟨?_,k3,k6,k4,k5⟩
  rw[const_rest k1 k2,constR_cons,if_neg (by omega),if_pos hd.1,hv]
  congr 2;omega
theorem con_leaf {x:Vl}(h:vlRight x=true):IsTok (tx 1 0 x [])∧constOf (tx 1 0 x [])=some x∧tx 1 0 x []≠[40]∧ix nmL (tx 1 0 x [])=none∧tx 1 0 x []≠tNot∧tx 1 0 x []≠tIf:=by
 obtain⟨ty,n,b,s⟩:=x
 have ht:=right_ty h
 simp only at ht
 simp only[tx,if_true]
 unfold vlRight at h
 by_cases h1:ty=1
 ·subst h1
  simp at h
  obtain⟨⟨⟨k1,k2⟩,k3⟩,k4⟩:=h
  subst k3;subst k4
  obtain⟨c1,c2,c3,c4,c5⟩:=const_itoa n
  simp only[if_true]
  exact⟨itoa_tok k1 k2,c1,c2,c3,c4,c5⟩
 ·by_cases h2:ty=2
  ·subst h2
   simp at h
   obtain⟨k1,k2⟩:=h
   subst k1;subst k2
   simp only[if_neg h1,if_true]
   cases b
   ·exact⟨IsTok.word 102 _ (by decide) (by decide),rfl,by decide,by decide,by decide,by decide⟩
   ·exact⟨IsTok.word 116 _ (by decide) (by decide),rfl,by decide,by decide,by decide,by decide⟩
  ·obtain rfl:ty=3:=by omega
   simp at h
   obtain⟨⟨⟨k1,k2⟩,k3⟩,k4⟩:=h
   subst k2;subst k3
   simp only[if_neg h1,if_neg h2]
   have hq:s.all okQ=true∧s.all notQ=true:=by
    constructor<;>(rw[zB];intro c hc;have:=k1 c hc;unfold okB at this;simp only[zT,decide_eq_true_eq]at this)
    ·unfold okQ;simp only[zT,decide_eq_true_eq];exact this.1
    ·unfold notQ;rw[decide_eq_true_eq];exact this.2
   have hne :∀t:Tok,t.head?≠some 34→(34::(s++[34]):Tok)≠t:=by
    rintro t ht rfl;exact ht rfl
   refine⟨IsTok.str s hq.1 hq.2,?_,hne _ (by decide),ix_none fun j hj=>?_,hne _ (by decide),hne _ (by decide)⟩
   ·rw[const_rest (hne _ (by decide)) (hne _ (by decide)),constR_cons,if_pos (by decide)]
    simp
   ·have hj':j<9:=hj
    rcases(by omega:j=0∨j=1∨j=2∨j=3∨j=4∨j=5∨j=6∨j=7∨j=8) with rfl|rfl|rfl|rfl|rfl|rfl|rfl|rfl|rfl<;>exact fun e=>hne _ (by decide) e.symm
theorem var_leaf {v:Int}(h:1≤v∧v≤9) :∃k:Nat,v=(k:Int)+1∧IsTok (tx 2 v ⟨0,0,false,[]⟩ [])∧tx 2 v ⟨0,0,false,[]⟩ []≠[40]∧ix nmL (tx 2 v ⟨0,0,false,[]⟩ [])=some k∧tx 2 v ⟨0,0,false,[]⟩ []≠tNot∧tx 2 v ⟨0,0,false,[]⟩ []≠tIf:=by
 have key :∀j:Nat,j<9→((nmL.getD j []).all isLet=true∧nmL.getD j []≠[])∧nmL.getD j []≠[40]∧ix nmL (nmL.getD j [])=some j∧nmL.getD j []≠tNot∧nmL.getD j []≠tIf:=by decide
 refine⟨(v-1).toNat,by omega,?_⟩
 obtain⟨⟨k1,k1'⟩,k2,k3,k4,k5⟩:=key (v-1).toNat (by omega)
 have e:tx 2 v ⟨0,0,false,[]⟩ []=nmL.getD (v-1).toNat []:=by
  simp only[tx,Int.reduceEq,if_true,if_false]
 rw[e]
 refine⟨?_,k2,k3,k4,k5⟩
 cases ht:nmL.getD (v-1).toNat [] with
 | nil=>exact absurd ht k1'
 | cons c u=>
  rw[ht,zA,zT]at k1
  exact IsTok.word c u k1.1 k1.2
end Go.Proofs.YtmiencglfhpmeaaGreatDoor
namespace Go.Proofs.YtmiencglfhpmeaaGreatDoor
open Go.RowKit Hach
def vt (x:En) (e:Ex):Vl:=(e.val x).vl
theorem val_eq (x:En) (a b:Ex):(exOp 6 [a,b]).val x=.bool (Vl.eq (a.val x).vl (b.val x).vl):=by unfold exOp;rw[Ex.val];rfl
section
variable {x:En}{B:Nat}(hx:x.fits B) {a b c d:Ex}(ha:Rt a 2) (hb:Rt b 2) (hc:Rt c 1) (hd:Rt d 1)
end
theorem chk_of {e:Ex}{t:Int}(h:Rt e t) (hz:e.size≤60):chkT e=t∧chkE e=0:=by
 have h1:=h.typed
 have h2:=h.pos
 unfold chkT chkE
 rw[if_neg (by omega),if_neg (by omega),if_neg (by omega)]
 exact⟨h1,rfl⟩
theorem evV_of {e:Ex}{t:Int}(h:Rt e t) (hz:e.size≤60) (x:En):evV e x=vt x e:=by
 unfold evV vt
 rw[if_pos (chk_of h hz).2]
theorem rt_ok {e:Ex}{t:Int}(h:Rt e t):e.ok:=by
 induction h with
 | con x h=>
  have h1:=right_ty h
  have h2:(-1073741824≤x.n∧x.n≤1073741824)∧x.s.length≤24:=by
   obtain⟨ty,n,b,s⟩:=x
   unfold vlRight at h
   by_cases h1:ty=1
   ·subst h1;simp at h;exact⟨h.1.1,by rw[h.2];simp⟩
   ·by_cases h2:ty=2
    ·subst h2;simp at h;exact⟨by simp only;omega,by rw[h.2];simp⟩
    ·by_cases h3:ty=3
     ·subst h3;simp at h;exact⟨by simp only;omega,h.2⟩
     ·simp[h1,h2,h3]at h
  exact⟨by omega,by omega,by omega,by omega,by omega,trivial⟩
 | var v h=>exact⟨by omega,by omega,by omega,by omega,by simp,trivial⟩
 | not a ha iha=>exact⟨by omega,by omega,by omega,by omega,by simp,iha,trivial⟩
 | log op h a b ha hb iha ihb=>exact⟨by omega,by omega,by omega,by omega,by simp,iha,ihb,trivial⟩
 | eq t a b ha hb iha ihb=>exact⟨by omega,by omega,by omega,by omega,by simp,iha,ihb,trivial⟩
 | less a b ha hb iha ihb=>exact⟨by omega,by omega,by omega,by omega,by simp,iha,ihb,trivial⟩
 | sum op h a b ha hb iha ihb=>exact⟨by omega,by omega,by omega,by omega,by simp,iha,ihb,trivial⟩
 | ite t a b c ha hb hc iha ihb ihc=>exact⟨by omega,by omega,by omega,by omega,by simp,iha,ihb,ihc,trivial⟩
end Go.Proofs.YtmiencglfhpmeaaGreatDoor
namespace Go.Proofs.YtmiencglfhpmeaaGreatDoor
open Go.RowKit Hach
abbrev IF:=Nat→List Itm
def pt (leaf:Bool) (f:IF):IF:=fun k=>if leaf then f k else([40],0)::(f 0++[([41],k)])
def itx (op var:Int) (x:Vl) (ps:List IF):IF:=fun k=>
 if op=1∨op=2 then[(tx op var x [],k)]
 else if op=3 then(tNot,1)::(ps.getD 0 fun _=>[]) k
 else if op=13 then(tIf,1)::((ps.getD 0 fun _=>[]) 1++((tThen,1)::((ps.getD 1 fun _=>[]) 1++((tElse,1)::(ps.getD 2 fun _=>[]) k))))
 else(ps.getD 0 fun _=>[]) 1++((wdL.getD (op-4).toNat [],1)::(ps.getD 1 fun _=>[]) k)
mutual
def Ex.itm:Ex→IF
 | .mk op var ty n b s l=>itx op var ⟨ty,n,b,s⟩ (Ex.pits l)
def Ex.pits:List Ex→List IF
 | []=>[]
 | e::l=>pt e.l.isEmpty e.itm::Ex.pits l
end
def Ex.pit (e:Ex):IF:=pt e.l.isEmpty e.itm
theorem itm_con (x:Vl) (k:Nat):(Ex.mk 1 0 x.ty x.n x.b x.s []).itm k=[(tx 1 0 x [],k)]:=rfl
theorem itm_var (v:Int) (k:Nat):(Ex.mk 2 v 0 0 false [] []).itm k=[(tx 2 v ⟨0,0,false,[]⟩ [],k)]:=rfl
theorem itm_not (a:Ex) (k:Nat):(Ex.mk 3 0 0 0 false [] [a]).itm k=(tNot,1)::a.pit k:=rfl
theorem itm_ite (a b c:Ex) (k:Nat):(Ex.mk 13 0 0 0 false [] [a,b,c]).itm k=(tIf,1)::(a.pit 1++((tThen,1)::(b.pit 1++((tElse,1)::c.pit k)))):=rfl
theorem itm_two {op:Int}(h:4≤op∧op≤12) (a b:Ex) (k:Nat):(Ex.mk op 0 0 0 false [] [a,b]).itm k=a.pit 1++((wdL.getD (op-4).toNat [],1)::b.pit k):=by
 show itx op 0 ⟨0,0,false,[]⟩ [a.pit,b.pit] k=_
 unfold itx
 rw[if_neg (by omega),if_neg (by omega),if_neg (by omega)];rfl
theorem text_two {op:Int}(h:4≤op∧op≤12) (a b:Ex):(Ex.mk op 0 0 0 false [] [a,b]).text=a.piece++(32::(wdL.getD (op-4).toNat []++(32::b.piece))):=by
 rw[Ex.text,Ex.pieces_map]
 unfold tx
 rw[if_neg (by omega),if_neg (by omega),if_neg (by omega),if_neg (by omega)]
 rfl
theorem Rt.two {e:Ex}{t:Int}(h:Rt e t):(∃x,e=.mk 1 0 x.ty x.n x.b x.s []∧vlRight x=true)∨(∃v,e=.mk 2 v 0 0 false [] []∧1≤v∧v≤9)∨(∃a,e=.mk 3 0 0 0 false [] [a]∧Rt a 2)∨(∃op a b u,(4≤op∧op≤12)∧e=.mk op 0 0 0 false [] [a,b]∧Rt a u∧Rt b u)∨(∃a b c,e=.mk 13 0 0 0 false [] [a,b,c]∧Rt a 2∧Rt b t∧Rt c t):=by
 cases h with
 | con x h=>exact .inl ⟨x,rfl,h⟩
 | var v h=>exact .inr (.inl ⟨v,rfl,h⟩)
 | not a ha=>exact .inr (.inr (.inl ⟨a,rfl,ha⟩))
 | log op h a b ha hb=>exact .inr (.inr (.inr (.inl ⟨op,a,b,_,by omega,rfl,ha,hb⟩)))
 | eq t a b ha hb=>exact .inr (.inr (.inr (.inl ⟨6,a,b,_,by omega,rfl,ha,hb⟩)))
 | less a b ha hb=>exact .inr (.inr (.inr (.inl ⟨7,a,b,_,by omega,rfl,ha,hb⟩)))
 | sum op h a b ha hb=>exact .inr (.inr (.inr (.inl ⟨op,a,b,_,by omega,rfl,ha,hb⟩)))
 | ite t a b c ha hb hc=>exact .inr (.inr (.inr (.inr ⟨a,b,c,rfl,ha,hb,hc⟩)))
theorem spell_one (t:Tok) (k:Nat) (r:List Itm):spell ((t,k)::r)=t++(zN k 32++spell r):=rfl
theorem Ex.size_not (a:Ex):(Ex.mk 3 0 0 0 false [] [a]).size=1+a.size:=by rw[Ex.size];simp[Ex.sizes]
theorem Ex.size_two (op:Int) (a b:Ex):(Ex.mk op 0 0 0 false [] [a,b]).size=1+(a.size+b.size):=by rw[Ex.size];simp[Ex.sizes]
theorem Ex.size_ite (a b c:Ex):(Ex.mk 13 0 0 0 false [] [a,b,c]).size=1+(a.size+(b.size+c.size)):=by rw[Ex.size];simp[Ex.sizes]
def Spells (e:Ex):Prop :=∀(k:Nat) (r:List Itm),spell (e.itm k++r)=e.text++(zN k 32++spell r)
theorem Spells.pit {e:Ex}(h:Spells e) (k:Nat) (r:List Itm):spell (e.pit k++r)=e.piece++(zN k 32++spell r):=by
 unfold Ex.pit pt Ex.piece
 cases e.l.isEmpty with
 | true=>exact h k r
 | false=>
  simp only[zV,if_false]
  rw[zF,spell_one,zC,h 0]
  simp[spell]
theorem spells {e:Ex}{t:Int}(h:Rt e t):Spells e:=by
 have key :∀(n:Nat) (e:Ex) (t:Int),e.size≤n→Rt e t→Spells e:=by
  intro n
  induction n with
  | zero=>intro e t hs;have:=e.size_pos;omega
  | succ n ih=>
   intro e t hs h k r
   rcases h.two with⟨x,rfl,hx⟩|⟨v,rfl,hv⟩|⟨a,rfl,ha⟩|⟨op,a,b,u,ho,rfl,ha,hb⟩|⟨a,b,c,rfl,ha,hb,hc⟩
   ·rw[itm_con,zF,spell_one];rfl
   ·rw[itm_var,zF,spell_one];rfl
   ·rw[Ex.size_not]at hs
    rw[itm_not,zF,spell_one,(ih a 2 (by omega) ha).pit,Ex.text,Ex.pieces_map]
    simp[tx,Ex.pieces,Ex.piece]
   ·rw[Ex.size_two]at hs
    rw[itm_two ho,zC,(ih a u (by omega) ha).pit,zF,spell_one,(ih b u (by omega) hb).pit,text_two ho]
    simp
   ·rw[Ex.size_ite]at hs
    rw[itm_ite,zF,spell_one,zC,(ih a 2 (by omega) ha).pit,zF,spell_one,zC,(ih b t (by omega) hb).pit,zF,spell_one,(ih c t (by omega) hc).pit,Ex.text,Ex.pieces_map]
    simp[tx,Ex.pieces,Ex.piece]
 exact key e.size e t (zP _) h
theorem sep_one {t:Tok}{k:Nat}{r:List Itm}(ht:IsTok t) (hk:k≠0∨t=[40]∨Tl r) (hr:Sep r):Sep ((t,k)::r):=by
 refine⟨ht,fun e=>?_,hr⟩
 rcases hk with h|h|h
 ·exact absurd e h
 ·exact .inl h
 ·exact .inr h
def SepX (e:Ex):Prop :=∀(k:Nat) (r:List Itm),(k≠0∨Tl r)→Sep r→Sep (e.itm k++r)
theorem SepX.pit {e:Ex}(h:SepX e) {k:Nat}{r:List Itm}(hk:k≠0∨Tl r) (hr:Sep r):Sep (e.pit k++r):=by
 unfold Ex.pit pt
 cases e.l.isEmpty with
 | true=>exact h k r hk hr
 | false=>
  simp only[zV,if_false]
  rw[zF,zC]
  refine sep_one (IsTok.sign 40 (.inl (by decide))) (.inr (.inl rfl)) (h 0 _ (.inr (.inr ⟨k,r,rfl⟩)) ?_)
  exact sep_one (IsTok.sign 41 (.inl (by decide))) (by rcases hk with h|h;exact .inl h;exact .inr (.inr h)) hr
theorem wd_tok (j:Nat) (hj:j<9):IsTok (wdL.getD j [])∧ix wdL (wdL.getD j [])=some j:=by
 rcases(by omega:j=0∨j=1∨j=2∨j=3∨j=4∨j=5∨j=6∨j=7∨j=8) with rfl|rfl|rfl|rfl|rfl|rfl|rfl|rfl|rfl
 ·exact⟨IsTok.word 97 _ (by decide) (by decide),by decide⟩
 ·exact⟨IsTok.word 111 _ (by decide) (by decide),by decide⟩
 ·exact⟨IsTok.sign 61 (by decide),by decide⟩
 ·exact⟨IsTok.sign 60 (by decide),by decide⟩
 ·exact⟨IsTok.sign 43 (by decide),by decide⟩
 ·exact⟨IsTok.sign 45 (by decide),by decide⟩
 ·exact⟨IsTok.sign 42 (by decide),by decide⟩
 ·exact⟨IsTok.word 109 _ (by decide) (by decide),by decide⟩
 ·exact⟨IsTok.word 109 _ (by decide) (by decide),by decide⟩
theorem sepx {e:Ex}{t:Int}(h:Rt e t):SepX e:=by
 have key :∀(n:Nat) (e:Ex) (t:Int),e.size≤n→Rt e t→SepX e:=by
  intro n
  induction n with
  | zero=>intro e t hs;have:=e.size_pos;omega
  | succ n ih=>
   intro e t hs h k r hk hr
   have hk' :∀t:Tok,k≠0∨t=[40]∨Tl r:=fun t=>by rcases hk with h|h;exact .inl h;exact .inr (.inr h)
   rcases h.two with⟨x,rfl,hx⟩|⟨v,rfl,hv⟩|⟨a,rfl,ha⟩|⟨op,a,b,u,ho,rfl,ha,hb⟩|⟨a,b,c,rfl,ha,hb,hc⟩
   ·rw[itm_con];exact sep_one (con_leaf hx).1 (hk' _) hr
   ·rw[itm_var]
    obtain⟨j,_,h1,_⟩:=var_leaf hv
    exact sep_one h1 (hk' _) hr
   ·rw[Ex.size_not]at hs
    rw[itm_not]
    exact sep_one (IsTok.word 110 _ (by decide) (by decide)) (.inl (by omega)) ((ih a 2 (by omega) ha).pit hk hr)
   ·rw[Ex.size_two]at hs
    rw[itm_two ho,zC]
    exact(ih a u (by omega) ha).pit (.inl (by omega)) (sep_one (wd_tok _ (by omega)).1 (.inl (by omega)) ((ih b u (by omega) hb).pit hk hr))
   ·rw[Ex.size_ite]at hs
    rw[itm_ite,zF,zC,zF,zC,zF]
    refine sep_one (IsTok.word 105 _ (by decide) (by decide)) (.inl (by omega)) ((ih a 2 (by omega) ha).pit (.inl (by omega)) ?_)
    refine sep_one (IsTok.word 116 _ (by decide) (by decide)) (.inl (by omega)) ((ih b t (by omega) hb).pit (.inl (by omega)) ?_)
    exact sep_one (IsTok.word 101 _ (by decide) (by decide)) (.inl (by omega)) ((ih c t (by omega) hc).pit hk hr)
 exact key e.size e t (zP _) h
def tks (l:List Itm):List Tok:=l.map (·.1)
theorem tks_cons (t:Tok) (k:Nat) (l:List Itm):tks ((t,k)::l)=t::tks l:=rfl
theorem tks_app (l m:List Itm):tks (l++m)=tks l++tks m:=by unfold tks;rw[List.map_append]
def Cl (r:List Tok):Prop:=r=[] ∨∃q,r=[41]::q
def Reads (e:Ex):Prop :=∀(n k:Nat) (r:List Tok),Cl r→2*(e.itm k).length+2≤n→wholeF n false (tks (e.itm k)++r)=some (e,r)
def ReadsP (e:Ex):Prop :=∀(n k:Nat) (r:List Tok),2*(e.pit k).length+1≤n→pieceF n false (tks (e.pit k)++r)=some (e,r)
theorem Cl.tail {r:List Tok}(h:Cl r) (n:Nat) (a:Ex):tailF n false a r=some (a,r):=by
 rcases h with rfl|⟨q,rfl⟩
 ·rw[tailF_nil,if_neg (by simp)]
 ·exact tailF_none (by decide)
theorem takeT_hit (t:Tok) (r:List Tok):takeT t (t::r)=some r:=by unfold takeT;exact if_pos rfl
theorem reads_leaf {t:Tok}{n:Nat}{r:List Tok}{e:Ex}(hp :∀n r,pieceF (n+1) false (t::r)=some (e,r)) (h1:t≠tNot) (h2:t≠tIf) (hr:Cl r) (hn:2≤n):wholeF n false (t::r)=some (e,r):=by
 obtain⟨m,rfl⟩ :∃m,n=m+1+1:=⟨n-2,by omega⟩
 rw[whole_two _ _ _ _ h1 h2,hp,zQ]
 exact hr.tail _ _
theorem reads_pit {e:Ex}(hw:Reads e) (hl:e.l.isEmpty=true→ReadsP e):ReadsP e:=by
 cases he:e.l.isEmpty with
 | true=>exact hl he
 | false=>
  intro n k r hn
  have e1:e.pit k=([40],0)::(e.itm 0++[([41],k)]):=by unfold Ex.pit pt;rw[he];rfl
  rw[e1]at hn ⊢
  simp only[zJ,zI,List.length_nil]at hn
  obtain⟨m,rfl⟩ :∃m,n=m+1:=⟨n-1,by omega⟩
  rw[tks_cons,tks_app,zF,zC,pieceF,if_pos rfl]
  have hm:=hw m 0 ([41]::r) (.inr ⟨r,rfl⟩) (by omega)
  show(wholeF m false (tks (e.itm 0)++([41]::r))).bind _=_
  rw[hm,zQ]
  show(takeT [41] ([41]::r)).bind _=_
  rw[takeT_hit];rfl
theorem con_piece {x:Vl}(h:vlRight x=true) (n:Nat) (r:List Tok):pieceF (n+1) false (tx 1 0 x []::r)=some (.mk 1 0 x.ty x.n x.b x.s [],r):=by
 obtain⟨_,h2,h3,h4,_,_⟩:=con_leaf h
 rw[pieceF_rest n false _ r h3]
 unfold pieceR
 rw[h4]
 simp only
 rw[h2];rfl
theorem var_piece {v:Int}(h:1≤v∧v≤9) (n:Nat) (r:List Tok):pieceF (n+1) false (tx 2 v ⟨0,0,false,[]⟩ []::r)=some (.mk 2 v 0 0 false [] [],r):=by
 obtain⟨k,rfl,_,h3,h4,_,_⟩:=var_leaf h
 rw[pieceF_rest n false _ r h3]
 unfold pieceR
 rw[h4]
 rfl
theorem reads {e:Ex}{t:Int}(h:Rt e t):Reads e∧ReadsP e:=by
 have key :∀(n:Nat) (e:Ex) (t:Int),e.size≤n→Rt e t→Reads e∧ReadsP e:=by
  intro n
  induction n with
  | zero=>intro e t hs;have:=e.size_pos;omega
  | succ n ih=>
   intro e t hs h
   rcases h.two with⟨x,rfl,hx⟩|⟨v,rfl,hv⟩|⟨a,rfl,ha⟩|⟨op,a,b,u,ho,rfl,ha,hb⟩|⟨a,b,c,rfl,ha,hb,hc⟩
   ·obtain⟨_,_,_,_,h5,h6⟩:=con_leaf hx
    refine⟨fun m k r hr hm=>?_,fun m k r hm=>?_⟩
    ·rw[itm_con]at hm ⊢
     exact reads_leaf (con_piece hx) h5 h6 hr (by simp at hm;omega)
    ·obtain⟨j,rfl⟩ :∃j,m=j+1:=⟨m-1,by omega⟩
     exact con_piece hx j r
   ·obtain⟨_,_,_,_,_,h5,h6⟩:=var_leaf hv
    refine⟨fun m k r hr hm=>?_,fun m k r hm=>?_⟩
    ·rw[itm_var]at hm ⊢
     exact reads_leaf (var_piece hv) h5 h6 hr (by simp at hm;omega)
    ·obtain⟨j,rfl⟩ :∃j,m=j+1:=⟨m-1,by omega⟩
     exact var_piece hv j r
   ·rw[Ex.size_not]at hs
    have ia:=(ih a 2 (by omega) ha).2
    have hw:Reads (Ex.mk 3 0 0 0 false [] [a]):=fun m k r hr hm=>by
     rw[itm_not]at hm ⊢
     simp only[zJ]at hm
     obtain⟨j,rfl⟩ :∃j,m=j+1:=⟨m-1,by omega⟩
     rw[tks_cons,zF]
     show wholeF (j+1) false ([110,111,116]::_)=_
     rw[whole_not,ia j k r (by omega)];rfl
    exact⟨hw,reads_pit hw (by intro h;cases h)⟩
   ·rw[Ex.size_two]at hs
    have ia:=(ih a u (by omega) ha).2
    have ib:=(ih b u (by omega) hb).2
    have hw:Reads (Ex.mk op 0 0 0 false [] [a,b]):=fun m k r hr hm=>by
     rw[itm_two ho]at hm ⊢
     simp only[zJ,zI]at hm
     obtain⟨j,rfl⟩ :∃j,m=j+1:=⟨m-1,by omega⟩
     have hx:=(wd_tok (op-4).toNat (by omega)).2
     rw[tks_app,tks_cons,zC,zF]
     have h1:=ia j 1 (wdL.getD (op-4).toNat []::(tks (b.pit k)++r)) (by omega)
     have hfst :∃t q,tks (a.pit 1)=t::q∧t≠[110,111,116]∧t≠[105,102]:=by
      rcases ha.two with⟨x,rfl,hx⟩|⟨v,rfl,hv⟩|⟨a',rfl,_⟩|⟨op',a',b',u',_,rfl,_⟩|⟨a',b',c',rfl,_⟩
      ·obtain⟨_,_,_,_,h5,h6⟩:=con_leaf hx
       exact⟨_,_,rfl,h5,h6⟩
      ·obtain⟨_,_,_,_,_,h5,h6⟩:=var_leaf hv
       exact⟨_,_,rfl,h5,h6⟩
      ·exact⟨[40],_,rfl,by decide,by decide⟩
      ·exact⟨[40],_,rfl,by decide,by decide⟩
      ·exact⟨[40],_,rfl,by decide,by decide⟩
     obtain⟨t0,q0,e0,hn1,hn2⟩:=hfst
     rw[e0]at h1 ⊢
     rw[zF]at h1 ⊢
     rw[whole_two _ _ _ _ hn1 hn2,h1,zQ]
     show tailF j false a (wdL.getD (op-4).toNat []::(tks (b.pit k)++r))=_
     rw[tailF_some hx,ib j k r (by omega),zQ]
     simp only[exOp,zS,Prod.mk.injEq,Ex.mk.injEq,and_true,true_and]
     omega
    exact⟨hw,reads_pit hw (by intro h;cases h)⟩
   ·rw[Ex.size_ite]at hs
    have ia:=(ih a 2 (by omega) ha).2
    have ib:=(ih b t (by omega) hb).2
    have ic:=(ih c t (by omega) hc).2
    have hw:Reads (Ex.mk 13 0 0 0 false [] [a,b,c]):=fun m k r hr hm=>by
     rw[itm_ite]at hm ⊢
     simp only[zJ,zI]at hm
     obtain⟨j,rfl⟩ :∃j,m=j+1:=⟨m-1,by omega⟩
     rw[tks_cons,tks_app,tks_cons,tks_app,tks_cons,zF,zC,zF,zC,zF]
     show wholeF (j+1) false ([105,102]::_)=_
     rw[whole_if,ia j 1 _ (by omega),zQ]
     show(takeT tThen (tThen::_)).bind _=_
     rw[takeT_hit,zQ,ib j 1 _ (by omega),zQ]
     show(takeT tElse (tElse::_)).bind _=_
     rw[takeT_hit,zQ,ic j k r (by omega)];rfl
    exact⟨hw,reads_pit hw (by intro h;cases h)⟩
 exact key e.size e t (zP _) h
theorem read_spell {e:Ex}{l:List Itm}(hs:Sep l) (h:wholeF (2*l.length+2) false (tks l)=some (e,[])):readT (spell l)=some e:=by
 unfold readT
 rw[lt_spell l hs,if_neg (by simp)]
 simp only
 have:(l.map (·.1)).length=l.length:=by simp
 rw[this]
 show(match wholeF (2*l.length+2) false (tks l) with|some (e,[])=>some e|_=>none)=_
 rw[h]
theorem read_text {e:Ex}{t:Int}(h:Rt e t):readT e.text=some e:=by
 have h1:=spells h 0 []
 simp only[zD,spell,List.replicate_zero,zM]at h1
 rw[←h1]
 have h2:=(reads h).1 (2*(e.itm 0).length+2) 0 [] (.inl rfl) (zP _)
 rw[zD]at h2
 refine read_spell ?_ h2
 have h3:=sepx h 0 [] (.inr (.inl rfl)) trivial
 rwa [zD]at h3
theorem parse_ok {s:List UInt8}{e:Ex}{t:Int}(h:Rt e t) (hz:e.size≤60) (hs:s.length≤4096) (hr:readT s=some e):parseE s=(e,0):=by
 have hc:chkE e=0:=by
  unfold chkE
  rw[if_neg (by omega),if_neg ?_]
  have:=h.typed
  have:=h.pos
  omega
 rw[parse_eq hs hr]
 unfold parseR
 simp only
 rw[if_pos hc]
def nq (c:UInt8) (q:Bool):Bool:=if c=34 then !q else q
theorem text_len26 {e:Ex}{t:Int}(h:Rt e t):e.text.length≤26*e.size:=by
 have key :∀(n:Nat) (e:Ex) (t:Int),e.size≤n→Rt e t→e.text.length≤26*e.size:=by
  intro n
  induction n with
  | zero=>intro e t hs;have:=e.size_pos;omega
  | succ n ih=>
   intro e t hs h
   rcases h.two with⟨x,rfl,hx⟩|⟨v,rfl,hv⟩|⟨a,rfl,ha⟩|⟨op,a,b,u,ho,rfl,ha,hb⟩|⟨a,b,c,rfl,ha,hb,hc⟩
   ·have:=text_con hx
    rw[Ex.text,Ex.size]
    exact Nat.le_trans this (by omega)
   ·rw[Ex.text,Ex.size]
    have:=nm_len (v-1).toNat
    simp only[tx,Int.reduceEq,if_true,if_false]
    omega
   ·rw[Ex.size_not]at hs ⊢
    have:=ih a 2 (by omega) ha
    have:=piece_len a
    rw[Ex.text]
    simp[tx,Ex.pieces_map,tNot]
    omega
   ·rw[Ex.size_two]at hs ⊢
    have:=ih a u (by omega) ha
    have:=ih b u (by omega) hb
    have:=piece_len a
    have:=piece_len b
    have:=wd_len (op-4).toNat
    rw[text_two ho]
    simp only[zI,zJ]
    omega
   ·rw[Ex.size_ite]at hs ⊢
    have:=ih a 2 (by omega) ha
    have:=ih b t (by omega) hb
    have:=ih c t (by omega) hc
    have:=piece_len a
    have:=piece_len b
    have:=piece_len c
    rw[Ex.text]
    simp[tx,Ex.pieces_map,tIf,tThen,tElse]
    omega
 exact key e.size e t (zP _) h
end Go.Proofs.YtmiencglfhpmeaaGreatDoor
namespace Go.Proofs.YtmiencglfhpmeaaGreatDoor
open Go.RowKit Hach
end Go.Proofs.YtmiencglfhpmeaaGreatDoor
