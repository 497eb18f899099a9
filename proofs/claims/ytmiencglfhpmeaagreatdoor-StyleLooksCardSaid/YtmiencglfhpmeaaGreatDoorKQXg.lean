/- The law of regions that draw their order, where what is said of an operation may name the values of those that it looks at (printed by gen_monq.py from XMono, XMonor). -/
import Derived.Test.YtmiencglfhpmeaaGreatDoorKQXa
import Derived.Test.YtmiencglfhpmeaaGreatDoorKQEt
import Derived.Deep.CutBlock
import Derived.Deep.QuietTactic
import Derived.BigQuiet
import Derived.Lib.IfaceEq
open List renaming all_eq_true → zA, getElem?_map → zB, length_map → zC, map_eq_nil_iff → zD, mem_range → zE, range → zF, range' → zG
open Nat renaming le_refl → zH, lt_irrefl → zI, lt_of_lt_of_le → zJ, sub_self → zK, zero_add → zL
open Option renaming some.injEq → zM
open Array renaming getD_eq_getD_getElem? → zN, getElem?_setIfInBounds_ne → zO, replicate → zP
open Go.Lib renaming hid → zQ
set_option linter.unusedSimpArgs false
set_option linter.unusedVariables false
namespace Hach
open Go Go.RowKit
section
variable {P:Program}
structure ComeL (ops:Array Oper) (a:Act) (E:World→World→Prop) (F:Nat→(Nat→Value)→Value→World→Prop) (w:World) (l:Array Bool) (a':Act) (W:World) (x:Nat→Value):Prop where
 ext:E w W
 lsz:l.size=ops.size
 dfs:a'.defers=a.defers
 asz:a'.tmps.size=a.tmps.size
 shut :∀k o,ops[k]?=some o→l.getD k true=true →∀p∈preds o,l.getD p true=true
 val :∀k,k<ops.size→l.getD k true=true→F k x (x k) W
 get :∀t,a'.tmps[t]?=match wr ops t with
  | some k=>if l.getD k true then some (x k) else a.tmps[t]?
  | none=>a.tmps[t]?
theorem ComeL.first {ops:Array Oper}{N:Nat}(m:Mono ops N) {a:Act}(hN:N≤a.tmps.size) {E:World→World→Prop}{F:Nat→(Nat→Value)→Value→World→Prop}{w:World}{l:Array Bool}{a':Act}{W:World}{x:Nat→Value}
  (c:ComeL ops a E F w l a' W x) {i:Nat}(hi:i≤ops.size) (h :∀k,k<i→l.getD k true=true) (h2 :∀k,i≤k→k<ops.size→l.getD k true=false):a'=putAll ops x (zF i) a:=by
 refine act_ext (c.asz.trans (putAll_size ops x _ a).1.symm) (c.dfs.trans (putAll_size ops x _ a).2.symm) fun t=>?_
 rw[c.get t,putAll_get m x t _ a hN (fun k hk=>zJ (zE.1 hk) hi)]
 cases hw:wr ops t with
 | none=>rfl
 | some k=>
  have hk:=(wr_some hw).1
  by_cases e:k<i
  ·simp[h k e,e]
  ·simp[h2 k (by omega) hk,e]
theorem wpAny_link {ops:Array Oper}{Q:Exit→Act→World→Prop}{a:Act}{w:World}(M:Nat) (X:List Nat) (hck:monoOk ops a.tmps.size=true) (hM:M≤ops.size) (htl:tailOk ops M X=true)
  (E:World→World→Prop) (hr :∀w,E w w) (ht :∀ {u v w},E u v→E v w→E u w) (F:Nat→(Nat→Value)→Value→World→Prop) (hF :∀ {i x v W W'},F i x v W→E W W'→F i x v W') (hL :∀ {i:Nat}{o:Oper}{x x':Nat→Value}{v:Value}{W:World},ops[i]?=some o→(∀j∈preds o,x' j=x j)→F i x v W→F i x' v W)
  (hops :∀(i:Nat) (o:Oper),ops[i]?=some o→i<M →∀(x:Nat→Value) W,E w.drew W→(∀k∈preds o,F k x (x k) W) →
   if Region.wanted o (yielded ops (putAll ops x (preds o) a).tmps) then Gives P (fun v W'=>E W W'∧F i x v W') ((execOp (putAll ops x (preds o) a).eval o).run P W) else F i x undef W)
  (hfin :∀(x:Nat→Value) W,E w.drew W→(∀k,k<M→F k x (x k) W)→wpOps P ops Q (zG M (ops.size-M)) (putAll ops x (zF M) a) W) :
  wpAny P .any ops Q ops.size (zP ops.size false) a w.drew:=by
 have m:=mono_of hck
 refine wpAny_inv
  (fun l a' W=>(∃x,ComeL ops a E F w.drew l a' W x ∧∀k,M≤k→k<ops.size→l.getD k true=false) ∨
   (l.size=ops.size ∧∃i,M≤i∧i≤ops.size∧(∀k,k<i→l.getD k true=true)∧(∀k,i≤k→k<ops.size→l.getD k true=false)∧wpOps P ops Q (zG i (ops.size-i)) a' W))
  ?_ ?_ ?_ _ _ _ _ (Nat.le_trans (List.countP_le_length) (by simp)) ?_
 ·rintro l a' W (⟨x,c,_⟩|⟨h,_⟩)
  ·exact c.lsz
  ·exact h
 ·-- a tail operation, walked
  have htail :∀(l:Array Bool) (a':Act) (W:World) (i:Nat),l.size=ops.size→M≤i→i<ops.size→(∀k,k<i→l.getD k true=true)→(∀k,i≤k→k<ops.size→l.getD k true=false) →
    wpOps P ops Q (zG i (ops.size-i)) a' W →
    wpOp P ops Q i (fun a'' W'=>(∃x,ComeL ops a E F w.drew (l.setIfInBounds i true) a'' W' x ∧∀k,M≤k→k<ops.size→(l.setIfInBounds i true).getD k true=false) ∨
   ((l.setIfInBounds i true).size=ops.size ∧∃i',M≤i'∧i'≤ops.size∧(∀k,k<i'→(l.setIfInBounds i true).getD k true=true)∧(∀k,i'≤k→k<ops.size→(l.setIfInBounds i true).getD k true=false)∧wpOps P ops Q (zG i' (ops.size-i')) a'' W')) a' W:=by
   intro l a' W i hsz hMi hin h1 h2 hw
   rw[show ops.size-i=(ops.size-(i+1))+1 by omega,List.range'_succ,wpOps_cons]at hw
   refine wpOp_mono (fun a'' W' h=>.inr ⟨by simp[hsz],i+1,by omega,by omega,fun k hk=>?_,fun k hk hk2=>?_,h⟩) hw
   ·by_cases e:i=k
    ·subst e;simp[zN,hsz,hin]
    ·rw[zN,zO e,←zN];exact h1 k (by omega)
   ·rw[zN,zO (by omega),←zN];exact h2 k (by omega) hk2
  rintro l a' W i (⟨x,c,hno⟩|⟨hsz,i',hMi,hi',h1,h2,hw⟩) hi
  ·obtain⟨o,ho,hli,hp⟩:=ready_iff.1 hi
   have hin:=lt_of_some ho
   have hpl :∀p∈preds o,p<ops.size:=fun p hp'=>Nat.lt_trans (m.lt i o ho p hp') hin
   have hpt :∀p∈preds o,l.getD p true=true:=fun p hp'=>by rw[getD_lt (by rw[c.lsz];exact hpl p hp') true false];exact hp p hp'
   by_cases hiM:i<M
   ·have hlook :∀t∈o.looksAt ops,a'.tmps[t]?=(putAll ops x (preds o) a).tmps[t]?:=fun t ht'=>by
     rw[c.get t,putAll_get m x t _ a (zH _) hpl]
     cases hw:wr ops t with
     | none=>rfl
     | some k=>
      rcases m.look i o ho t ht' k hw with h|h|⟨ok,hok,h⟩
      ·simp[h,hpt k h]
      ·subst h
       have hni :¬k∈preds o:=fun h=>absurd (m.lt k o ho k h) (zI _)
       simp[hni,hli]
      ·have hkl:l.getD k true=false:=by
        cases hc:l.getD k true with
        | false=>rfl
        | true=>have:=c.shut k ok hok hc i h;rw[hli]at this;cases this
       have hnk :¬k∈preds o:=fun h'=>by have:=hpt k h';rw[hkl]at this;cases this
       simp[hnk,hkl]
    have hex:=exec_of_look (m.sel i o ho) hlook
    have hwa:=wanted_of_look hlook
    have hval :∀k∈preds o,F k x (x k) W:=fun k hk=>c.val k (hpl k hk) (hpt k hk)
    have hshut :∀(k:Nat) (o':Oper),ops[k]?=some o'→(l.setIfInBounds i true).getD k true=true →∀p∈preds o',(l.setIfInBounds i true).getD p true=true:=fun k o' ho' hk p hp'=>by
     by_cases e:i=p
     ·subst e;simp[zN,c.lsz,hin]
     ·rw[zN,zO e,←zN]
      by_cases e2:i=k
      ·subst e2;rw[ho]at ho';cases ho';exact hpt p hp'
      ·rw[zN,zO e2,←zN]at hk
       exact c.shut k o' ho' hk p hp'
    have hg:=hops i o ho hiM x W c.ext hval
    have hnext :∀v W',E W W'→F i x v W'→ComeL ops a E F w.drew (l.setIfInBounds i true) (a'.put o.dst v) W' (fun k=>if k=i then v else x k):=fun v W' hE hv=>by
     have hdi:o.dst=dstOf ops i:=by simp[dstOf,ho]
     refine⟨ht c.ext hE,by simp[c.lsz],?_,?_,hshut,fun k hk hlk=>?_,fun t=>?_⟩
     ·rw[←c.dfs];cases o.dst<;>rfl
     ·rw[←c.asz];cases o.dst<;>simp[Act.put]
     ·by_cases e:k=i
      ·subst e
       simp only[if_true]
       exact hL ho (fun j hj=>if_neg (fun e=>by rw[e]at hj;exact absurd (m.lt k o ho k hj) (zI _))) hv
      ·simp only[e,if_false]
       rw[zN,zO (Ne.symm e),←zN]at hlk
       obtain⟨ok,hok⟩ :∃ok,ops[k]?=some ok:=⟨ops[k],Array.getElem?_eq_getElem hk⟩
       refine hL hok (fun j hj=>if_neg (fun e=>?_)) (hF (c.val k hk hlk) hE)
       have:=c.shut k ok hok hlk j hj
       rw[e,hli]at this;cases this
     ·rw[hdi,put_get m (by rw[c.asz];exact zH _) hin v t,c.get t]
      cases hw:wr ops t with
      | none=>simp
      | some k=>
       by_cases e:k=i
       ·subst e;simp[zN,c.lsz,hin]
       ·simp only[zM,e,if_false]
        rw[zN (i:=k) (xs:=l.setIfInBounds i true),zO (Ne.symm e),←zN]
    have hno' :∀k,M≤k→k<ops.size→(l.setIfInBounds i true).getD k true=false:=fun k hk hk2=>by
     rw[zN,zO (by omega),←zN];exact hno k hk hk2
    unfold wpOp
    rw[ho]
    simp only[]
    rw[hwa]
    split
    ·rename_i hw
     rw[if_pos hw]at hg
     rw[←hex]at hg
     exact .inl (hg.upon fun v W' hv=>.inl ⟨_,hnext v W' hv.1 hv.2,hno'⟩)
    ·rename_i hw
     rw[if_neg hw]at hg
     exact .inl ⟨_,hnext undef W (hr W) hg,hno'⟩
   ·-- the first of the tail
    have hall:=tail_all htl c.shut ho (Nat.le_of_not_lt hiM) hpt
    have hiM2:i=M:=by
     by_cases e:i=M
     ·exact e
     ·have:=hall M (by omega);rw[hno M (zH _) (by omega)]at this;cases this
    subst hiM2
    have ha:=c.first m (zH _) hM hall hno
    have hf:=hfin x W c.ext (fun k hk=>c.val k (by omega) (hall k hk))
    rw[←ha]at hf
    exact htail l a' W i c.lsz (zH _) hin hall hno hf
  ·obtain⟨o,ho,hli,hp⟩:=ready_iff.1 hi
   have hin:=lt_of_some ho
   have hge:i'≤i:=by
    rcases Nat.lt_or_ge i i' with h|h
    ·rw[h1 i h]at hli;cases hli
    ·exact h
   have hii:i=i':=by
    by_cases e:i=i'
    ·exact e
    ·exfalso
     have h3:=zA.1 htl (i-1) (zE.2 (by omega))
     rw[if_neg (by omega),show i-1+1=i by omega,ho]at h3
     have:=hp (i-1) (by simpa using h3)
     rw[getD_lt (by omega) false true,h2 (i-1) (by omega) (by omega)]at this
     cases this
   subst hii
   exact htail l a' W i hsz hMi hin h1 h2 hw
 ·rintro l a' W (⟨x,c,hno⟩|⟨hsz,i',hMi,hi',h1,h2,hw⟩) hn
  ·have hall:=all_of_none m c.lsz hn
   have hMe:M=ops.size:=by
    by_cases e:M=ops.size
    ·exact e
    ·have:=hno M (zH _) (by omega);rw[hall M (by omega)]at this;cases this
   have ha:=c.first m (zH _) hM (fun k hk=>hall k (by omega)) hno
   have hf:=hfin x W c.ext (fun k hk=>c.val k (by omega) (hall k (by omega)))
   rw[←ha,hMe,zK]at hf
   exact hf
  ·have hall:=all_of_none m hsz hn
   have hie:i'=ops.size:=by
    by_cases e:i'=ops.size
    ·exact e
    ·have:=h2 i' (zH _) (by omega);rw[hall i' (by omega)]at this;cases this
   subst hie
   rw[zK]at hw
   exact hw
 ·refine .inl ⟨fun _=>undef,⟨hr _,by simp,rfl,rfl,fun k o ho hk=>?_,fun k hk hlk=>?_,fun t=>?_⟩,fun k _ hk=>?_⟩
  ·simp[zN,lt_of_some ho]at hk
  ·simp[zN,hk]at hlk
  ·cases hw:wr ops t with
   | none=>rfl
   | some k=>simp[zN,(wr_some hw).1]
  ·simp[zN,hk]
structure SPl (E:World→World→Prop) where
 on:List Nat
 p:(Nat→Value)→Value→World→Prop
 st :∀ {x v W W'},p x v W→E W W'→p x v W'
 loc :∀ {x x' v W},(∀j∈on,x' j=x j)→p x v W→p x' v W
variable {E:World→World→Prop}
def eql (c:Value):SPl E:=⟨[],fun _ v _=>v=c,fun h _=>h,fun _ h=>h⟩
def anyl:SPl E:=⟨[],fun _ _ _=>True,fun _ _=>trivial,fun _ h=>h⟩
def SPr.l (s:SPr E):SPl E:=⟨[],fun _ v W=>s.p v W,fun h hE=>s.st h hE,fun _ h=>h⟩
def FofL (F:List (SPl E)) (k:Nat) (x:Nat→Value) (v:Value) (W:World):Prop:=(F.getD k anyl).p x v W
def linkOk (ops:Array Oper) (F:List (SPl E)):Bool:=(zF F.length).all fun i=>match ops[i]? with|some o=>(F.getD i anyl).on.all fun j=>decide (j∈preds o)|none=>true
def KnownL (F:List (SPl E)) (x:Nat→Value) (W:World):List Nat→Prop
 | []=>True
 | k::ks=>(F.getD k anyl).p x (x k) W∧KnownL F x W ks
theorem knownL_of {F:List (SPl E)}{x:Nat→Value}{W:World}:∀ {ks:List Nat},(∀k∈ks,(F.getD k anyl).p x (x k) W)→KnownL F x W ks
 | [],_=>trivial
 | k::_,h=>⟨h k (List.mem_cons_self ..),knownL_of fun j hj=>h j (List.mem_cons_of_mem _ hj)⟩
def OpsOkL (P:Program) (ds:List (Option Tmp)) (a:Act) (w:World) (F:List (SPl E)) (D:List (List Nat)):Nat→List Oper→Prop
 | _,[]=>True
 | i,o::l=>(∀(x:Nat→Value) (W:World),E w W→KnownL F x W (D.getD i [])→OpGoal P ds o (fun v W'=>E W W'∧(F.getD i anyl).p x v W') (putD ds x (D.getD i []) a) W)∧OpsOkL P ds a w F D (i+1) l
theorem OpsOkL.at_ {ds:List (Option Tmp)}{a:Act}{w:World}{F:List (SPl E)}{D:List (List Nat)}:∀ {l:List Oper}{i:Nat},OpsOkL P ds a w F D i l →∀(j:Nat) (o:Oper),l[j]?=some o →∀(x:Nat→Value) (W:World),E w W→KnownL F x W (D.getD (i+j) []) →
      OpGoal P ds o (fun v W'=>E W W'∧(F.getD (i+j) anyl).p x v W') (putD ds x (D.getD (i+j) []) a) W
  | [],_,_,j,o,h=>by simp at h
  | o'::l,i,hk,j,o,h=>by
    cases j with
    | zero=>
      simp only[List.getElem?_cons_zero,zM]at h
      subst h
      exact hk.1
    | succ j=>
      have:=OpsOkL.at_ hk.2 j o (by simpa using h)
      rw[show i+1+j=i+(j+1) by omega]at this
      exact this
theorem wpAny_rell (refl :∀w,E w w) (trans :∀ {u v w:World},E u v→E v w→E u w) {l t:List Oper}{Q:Exit→Act→World→Prop}{a:Act}{w:World}(ds:List (Option Tmp)) (D:List (List Nat)) (X:List Nat) (F:List (SPl E))
  (hck:(monoOk (l++t).toArray a.tmps.size&&depsOk (l++t).toArray D&&((l++t).map (·.dst) == ds)&&tailOk (l++t).toArray l.length X)=true) (hlk:linkOk (l++t).toArray F=true) (hops:OpsOkL P ds a w.drew F D 0 l)
  (hfin :∀(x:Nat→Value) (W:World),E w.drew W→KnownL F x W (zF l.length)→wpList P (l++t).toArray Q t (putD ds x (zF l.length) a) W) :
  wpAny P .any (l++t).toArray Q (l++t).toArray.size (zP (l++t).toArray.size false) a w.drew:=by
 simp only[Bool.and_eq_true]at hck
 obtain⟨⟨⟨hc1,hc2⟩,hc3⟩,hc4⟩:=hck
 have m:=mono_of hc1
 refine wpAny_link l.length X hc1 (by simp) hc4 E refl (@trans) (FofL F) (fun h hE=>(F.getD _ anyl).st h hE) (fun {i o x x' v W} ho hx h=>?_) ?_ ?_
 ·by_cases hi:i<F.length
  ·have h1:=zA.1 hlk i (zE.2 hi)
   rw[ho]at h1
   exact(F.getD i anyl).loc (fun j hj=>hx j (of_decide_eq_true (zA.1 h1 j hj))) h
  ·have e:F.getD i anyl=anyl:=by rw[List.getD_eq_getElem?_getD,List.getElem?_eq_none (by omega)];rfl
   show(F.getD i anyl).p x' v W
   rw[e];trivial
 ·intro i o ho hi x W hE hp
  obtain⟨hs,hlk⟩:=look_same m hc2 (zH _) x ho
  have hg:=hops.at_ i o (by simpa[List.getElem?_append_left hi]using ho) x W hE (knownL_of fun k hk=>by rw[zL]at hk;exact hp k (hs k hk))
  rw[zL]at hg
  have hg:=hg.use hc3 (fun d hd=>by rw[←putD_eq hc3,(putAll_size _ _ _ _).1];exact(m.one i d (lt_of_some ho) (by simp only[dstOf,ho,Option.bind_some];exact hd)).2)
  rw[←putD_eq hc3]at hg
  rw[←wanted_of_look hlk,←exec_of_look (m.sel i o ho) hlk]at hg
  split
  ·rename_i hw;rw[if_pos hw]at hg;exact hg
  ·rename_i hw;rw[if_neg hw]at hg;exact hg.2
 ·intro x W hE h
  have hf:=hfin x W hE (knownL_of fun k hk=>h k (zE.1 hk))
  rw[←putD_eq hc3]at hf
  have e:(l++t).toArray.size-l.length=t.length:=by simp
  rw[e,wpOps_eq_wpList t l.length (fun j=>by simp[List.getElem?_append_right])]
  exact hf
theorem wp_region_link (refl :∀w,E w w) (trans :∀ {u v w:World},E u v→E v w→E u w) {l t:List Oper}{Q:Exit→Act→World→Prop}{id:Nat}{a:Act}{w:World}(ds:List (Option Tmp)) (D:List (List Nat)) (X:List Nat) (F:List (SPl E)) (hm:P.follows .mixedOrders=true)
  (hck:(monoOk (l++t).toArray a.tmps.size&&depsOk (l++t).toArray D&&((l++t).map (·.dst) == ds)&&tailOk (l++t).toArray l.length X)=true) (hlk:linkOk (l++t).toArray F=true) (hops:OpsOkL P ds a w.drew F D 0 l)
  (hfin :∀(x:Nat→Value) (W:World),E w.drew W→KnownL F x W (zF l.length)→wpList P (l++t).toArray Q t (putD ds x (zF l.length) a) W) :
  (Code.region id (l++t).toArray true).wp P Q a w:=wp_region_any hm (wpAny_rell refl trans ds D X F hck hlk hops hfin)
end
end Hach
namespace Go.Proofs.YtmiencglfhpmeaaGreatDoor
open Go.RowKit Hach
theorem Rt.inv {e:Ex}{t:Int}(h:Rt e t):(e.op=1∧e.l=[]∧vlRight e.vl=true∧t=e.ty)∨(e.op=2∧e.l=[]∧(1≤e.var∧e.var≤9)∧t=varTy e.var)∨(e.op=3∧t=2 ∧∃a,e.l=[a]∧Rt a 2) ∨
  ((e.op=4∨e.op=5)∧t=2 ∧∃a b,e.l=[a,b]∧Rt a 2∧Rt b 2)∨(e.op=6∧t=2 ∧∃s a b,e.l=[a,b]∧Rt a s∧Rt b s)∨(e.op=7∧t=2 ∧∃a b,e.l=[a,b]∧Rt a 1∧Rt b 1) ∨
  ((8≤e.op∧e.op≤12)∧t=1 ∧∃a b,e.l=[a,b]∧Rt a 1∧Rt b 1)∨(e.op=13 ∧∃a b c,e.l=[a,b,c]∧Rt a 2∧Rt b t∧Rt c t):=by
 cases h with
 | con x h=>exact .inl ⟨rfl,rfl,h,rfl⟩
 | var v h=>exact .inr (.inl ⟨rfl,rfl,h,rfl⟩)
 | not a ha=>exact .inr (.inr (.inl ⟨rfl,rfl,a,rfl,ha⟩))
 | log op h a b ha hb=>exact .inr (.inr (.inr (.inl ⟨h,rfl,a,b,rfl,ha,hb⟩)))
 | eq s a b ha hb=>exact .inr (.inr (.inr (.inr (.inl ⟨rfl,rfl,s,a,b,rfl,ha,hb⟩))))
 | less a b ha hb=>exact .inr (.inr (.inr (.inr (.inr (.inl ⟨rfl,rfl,a,b,rfl,ha,hb⟩)))))
 | sum op h a b ha hb=>exact .inr (.inr (.inr (.inr (.inr (.inr (.inl ⟨h,rfl,a,b,rfl,ha,hb⟩))))))
 | ite s a b c ha hb hc=>exact .inr (.inr (.inr (.inr (.inr (.inr (.inr ⟨rfl,a,b,c,rfl,ha,hb,hc⟩))))))
theorem Rt.kid {e:Ex}{t:Int}(h:Rt e t) {k:Nat}(hk:k<e.l.length) :∃s,Rt (e.l[k]) s:=by
 have key :∀x∈e.l,∃s,Rt x s:=by
  rcases h.inv with⟨_,hl,_⟩|⟨_,hl,_⟩|⟨_,_,a,hl,ha⟩|⟨_,_,a,b,hl,ha,hb⟩|⟨_,_,s,a,b,hl,ha,hb⟩|⟨_,_,a,b,hl,ha,hb⟩|⟨_,_,a,b,hl,ha,hb⟩|⟨_,a,b,c,hl,ha,hb,hc⟩
  all_goals
   rw[hl]
   intro x hx
   simp only[List.mem_cons,List.not_mem_nil,or_false]at hx
  ·subst hx;exact⟨_,ha⟩
  ·rcases hx with rfl|rfl<;>exact⟨_,by assumption⟩
  ·rcases hx with rfl|rfl<;>exact⟨_,by assumption⟩
  ·rcases hx with rfl|rfl<;>exact⟨_,by assumption⟩
  ·rcases hx with rfl|rfl<;>exact⟨_,by assumption⟩
  ·rcases hx with rfl|rfl|rfl<;>exact⟨_,by assumption⟩
 exact key _ (List.getElem_mem hk)
theorem Ex.val_eq (x:En) (e:Ex):e.val x=vrule e.op e.var e.vl x (Ex.vals x e.l):=by cases e;rw[Ex.val];rfl
theorem Ex.vals_map (x:En) :∀l:List Ex,Ex.vals x l=l.map (Ex.val x)
 | []=>by simp[Ex.vals]
 | e::l=>by simp[Ex.vals,Ex.vals_map x l]
theorem Ex.vals_take (x:En) (l:List Ex) {k:Nat}(hk:k<l.length):(Ex.vals x l).take (k+1)=(Ex.vals x l).take k++[(l[k]).val x]:=by
 rw[Ex.vals_map,List.take_succ_eq_append_getElem (by rw[zC];exact hk)]
 simp
def En.big (x:En):Nat:=max (max x.cls.length x.name.length) 24
theorem val_hasB (x:En) {e:Ex}{t:Int}(h:Rt e t):Has x.big (e.val x) t:=val_has x ⟨by unfold En.big;omega,by unfold En.big;omega,by unfold En.big;omega⟩ h
theorem Has.t {B:Nat}{v:Va}(h:Has B v 3) :∃s,v=.txt s:=by cases h with|txt s h=>exact⟨s,rfl⟩
theorem Has.iface {B:Nat}{v:Va}{t:Int}(h:Has B v t) :∃T p,v.v=.iface T p:=by cases h<;>exact⟨_,_,rfl⟩
theorem mul_bd {p q:Int}(h1 : -1073741824≤p) (h2:p≤1073741824) (h3 : -1073741824≤q) (h4:q≤1073741824) : -1152921504606846976≤p*q∧p*q≤1152921504606846976:=by
 have h5:(p*q).natAbs≤1073741824*1073741824:=by
  rw[Int.natAbs_mul];exact Nat.mul_le_mul (by omega) (by omega)
 omega
@[go_sem] theorem is_bool (v:Value) (w:World):(Instr.typeAssert (.iface 4 v) 20 4 false).run Tryz.prog w=.ok v w:=by kernel_rfl
@[go_sem] theorem is_int (v:Value) (w:World):(Instr.typeAssert (.iface 3 v) 20 3 false).run Tryz.prog w=.ok v w:=by kernel_rfl
theorem any_eql_int (a b:Int) (w:World):(binOp .eql 20 (.iface 3 (.int .i64 a)) (.iface 3 (.int .i64 b))).run Tryz.prog w=.ok (.bool (a == b)) w:=
 Lib.run_eql_iface_int w a b Tryz.underlying20 (by kernel_rfl) Tryz.underlying3
theorem iface_bool {P:Program}(w:World) {t tx:TypeId}{ms:Array (String×TypeId)}(a b:Bool)
  (ht:P.underlying t=some (.interface ms)) (hc:(P.info? tx).map (·.comparable)=some true) (hx:P.underlying tx=some .bool) :
  (binOp .eql t (.iface tx (.bool a)) (.iface tx (.bool b))).run P w=.ok (.bool (a == b)) w:=by
 cases hi:P.info? tx with
 | none=>simp[hi]at hc
 | some i=>
  have hcc:i.comparable=true:=by simpa[hi]using hc
  have h :∀d:Nat,(Op.equalIn (d+2) t (.iface tx (.bool a)) (.iface tx (.bool b))).run P w=.ok (a == b) w:=fun d=>by
   simp[Op.equalIn,run_underlying ht,run_underlying hx,typeInfo,hi,hcc]
  simp only[binOp]
  simp[Op.equal,Op.maxDepth,h 9998]
theorem iface_string {P:Program}(w:World) {t tx:TypeId}{ms:Array (String×TypeId)}(a b:ByteArray)
  (ht:P.underlying t=some (.interface ms)) (hc:(P.info? tx).map (·.comparable)=some true) (hx:P.underlying tx=some .string) :
  (binOp .eql t (.iface tx (.string a)) (.iface tx (.string b))).run P w=.ok (.bool (a == b)) w:=by
 cases hi:P.info? tx with
 | none=>simp[hi]at hc
 | some i=>
  have hcc:i.comparable=true:=by simpa[hi]using hc
  have h :∀d:Nat,(Op.equalIn (d+2) t (.iface tx (.string a)) (.iface tx (.string b))).run P w=.ok (a == b) w:=fun d=>by
   simp[Op.equalIn,run_underlying ht,run_underlying hx,typeInfo,hi,hcc]
  simp only[binOp]
  simp[Op.equal,Op.maxDepth,h 9998]
theorem any_eql_bool (a b:Bool) (w:World):(binOp .eql 20 (.iface 4 (.bool a)) (.iface 4 (.bool b))).run Tryz.prog w=.ok (.bool (a == b)) w:=
 iface_bool w a b Tryz.underlying20 (by kernel_rfl) Tryz.underlying4
theorem any_eql_string (a b:List UInt8) (w:World):(binOp .eql 20 (.iface 9 (.string ⟨a.toArray⟩)) (.iface 9 (.string ⟨b.toArray⟩))).run Tryz.prog w=.ok (.bool (decide (a=b))) w:=by
 refine(iface_string w _ _ Tryz.underlying20 (by kernel_rfl) Tryz.underlying9).trans ?_
 rw[beq_toListBytes,bytes_beq]
theorem has_eql {B:Nat}{t:Int}{u v:Va}(hu:Has B u t) (hv:Has B v t) (w:World):(binOp .eql 20 u.v v.v).run Tryz.prog w=.ok (.bool (Vl.eq u.vl v.vl)) w:=by
 cases hu with
 | int n h1 h2=>
  obtain⟨m,rfl,_,_⟩:=hv.i
  refine(any_eql_int n m w).trans ?_
  congr 2
  unfold Vl.eq valB Va.vl
  by_cases h:n=m<;>simp[h]
 | bool b=>
  obtain⟨c,rfl⟩:=hv.b
  refine(any_eql_bool b c w).trans ?_
  congr 2
  unfold Vl.eq valB Va.vl
  cases b<;>cases c<;>simp
 | txt s h=>
  obtain⟨r,rfl⟩:=hv.t
  refine(any_eql_string s r w).trans ?_
  congr 2
  unfold Vl.eq valB Va.vl
  by_cases h:s=r<;>simp[h]
structure EnBox (w:World) (b:Nat) (x:En):Prop where
 lt:b<w.heap.size
 c0:w.cell? ⟨b,0,none⟩=some (.int .i64 x.kind)
 c1:w.cell? ⟨b,1,none⟩=some (.string ⟨x.cls.toArray⟩)
 c2:w.cell? ⟨b,2,none⟩=some (.string ⟨x.name.toArray⟩)
 c3:w.cell? ⟨b,3,none⟩=some (.int .i64 x.weight)
 c4:w.cell? ⟨b,4,none⟩=some (.int .i64 x.level)
 c5:w.cell? ⟨b,5,none⟩=some (.bool x.stairs)
 c6:w.cell? ⟨b,6,none⟩=some (.int .i64 x.scale)
 c7:w.cell? ⟨b,7,none⟩=some (.int .i64 x.hour)
 c8:w.cell? ⟨b,8,none⟩=some (.int .i64 x.reader)
def En.cells (x:En):Array Value:=#[.int .i64 x.kind,.string ⟨x.cls.toArray⟩,.string ⟨x.name.toArray⟩,.int .i64 x.weight,.int .i64 x.level,.bool x.stairs,.int .i64 x.scale,.int .i64 x.hour,.int .i64 x.reader]
theorem EnBox.new (w:World) (x:En) (T:TypeId):EnBox (w.alloc (.cells x.cells T)) w.heap.size x:=by
 refine⟨by simp,?_,?_,?_,?_,?_,?_,?_,?_,?_⟩<;>rw[World.cell?_alloc_new]<;>rfl
theorem EnBox.ext {w w':World}{b:Nat}{x:En}(h:EnBox w b x) (hE:Ext w w'):EnBox w' b x:=
 ⟨zJ h.lt hE.sz,(hE.old (p:=⟨b,0,none⟩) h.lt).trans h.c0,(hE.old (p:=⟨b,1,none⟩) h.lt).trans h.c1,(hE.old (p:=⟨b,2,none⟩) h.lt).trans h.c2,(hE.old (p:=⟨b,3,none⟩) h.lt).trans h.c3,(hE.old (p:=⟨b,4,none⟩) h.lt).trans h.c4,(hE.old (p:=⟨b,5,none⟩) h.lt).trans h.c5,(hE.old (p:=⟨b,6,none⟩) h.lt).trans h.c6,(hE.old (p:=⟨b,7,none⟩) h.lt).trans h.c7,(hE.old (p:=⟨b,8,none⟩) h.lt).trans h.c8⟩
end Go.Proofs.YtmiencglfhpmeaaGreatDoor
namespace Go.Proofs.YtmiencglfhpmeaaGreatDoor
open Go.RowKit Hach
theorem ret_any {T:TypeId}{a b:Int}(h:a=b):Ending.returned (Value.iface T (.int .i64 a))=.returned (.iface T (.int .i64 b)):=by rw[h]
set_option maxRecDepth 100000 in
set_option maxHeartbeats 8000000 in
theorem eval_any (x:En) (d:Nat) :∀(e:Ex) (t:Int) (A:Option Addr) (c:Nat) (w:World),Rt e t→ExB w w.heap.size d A e.l→e.ok →
  Calls Tryz.prog 71 #[.agg (e.cells A c).toArray,x.v] w fun r w'=>r=.returned (e.val x).v∧Ext w w':=by
 induction d using Nat.strongRecOn with
 | _ d ih=>
  intro e t A c w hrt hX hok
  have HOK:=zQ hok
  have HRT:=zQ hrt
  have hlen:e.l.length≤3:=by
   rcases hrt.inv with⟨_,hl,_⟩|⟨_,hl,_⟩|⟨_,_,a,hl,ha⟩|⟨_,_,a,b,hl,ha,hb⟩|⟨_,_,s,a,b,hl,ha,hb⟩|⟨_,_,a,b,hl,ha,hb⟩|⟨_,_,a,b,hl,ha,hb⟩|⟨_,a,b,c,hl,ha,hb,hc⟩<;>simp[hl]
  have HV:=zQ (e.val_eq x)
  obtain⟨w0,hw0⟩ :∃w0,(w.alloc (.cells (e.cells A c).toArray 47)).alloc (.cells x.cells 28)=w0:=⟨_,rfl⟩
  have hE0:Ext w w0:=by rw[←hw0];exact(Ext.alloc _ _).trans (Ext.alloc _ _)
  have hBx:Box w0 w.heap.size e A c:=by rw[←hw0];exact(Box.new w e A c 47).ext (Ext.alloc _ _)
  have hBy:EnBox w0 (w.heap.size+1) x:=by
   have h1:=EnBox.new (w.alloc (.cells (e.cells A c).toArray 47)) x 28
   rw[World.size_alloc]at h1
   rw[←hw0];exact h1
  have HW:=zQ hw0
  have hlt0:=hBx.lt
  have hlt1:=hBy.lt
  have HBx:=zQ hBx
  have HBy:=zQ hBy
  have y6:=hBx.c6
  unfold Ex.cells En.v
  unfold Ex.cells En.cells at HW
  clear hw0 hBx hBy hok hrt
  go_enter Tryz.func71,Tryz.ntmps71
  go_upto_region 2 with fail
  rw[HW.out]
  go_wp2_with fail
  go_loopw [5,14] (fun lv kv wr =>∃k:Nat,k≤e.l.length∧kv=.int .i64 k∧OwnC 20 wr w0.heap.size lv (((Ex.vals x e.l).take k).map Va.v)∧Ext w0 wr) (fun _ kv _=>e.l.length-(intOf kv).toNat)
  case atStart=>exact⟨0,Nat.zero_le _,rfl,OwnC.nil _ _ _,Ext.refl _⟩
  case round=>
   obtain⟨k,hk,rfl,hO,hE⟩:=hrel
   have hEa:Ext w wr:=hE0.trans hE
   by_cases hlt:k<e.l.length
   ·obtain⟨b,o,A',c',d',hd,rfl,hb,hX',hOne⟩:=hX.at_ hlt
    obtain⟨s,hs⟩:=HRT.out.kid hlt
    have ihx:=ih d' (by omega)
    have hokx:=HOK.out.at_ hlt
    obtain⟨r0,r1,r2,r3,r4,r5,r6⟩:=hOne.ext hb hEa
    have hXr:=hX'.ext hEa
    have htk:=Ex.vals_take x e.l hlt
    have tk:decide (k<e.l.length)=true:=by simp;omega
    have hus:(((Ex.vals x e.l).take k).map Va.v).length<4294967296:=by rw[zC,List.length_take];omega
    obtain⟨us,hus2⟩ :∃us,((Ex.vals x e.l).take k).map Va.v=us:=⟨_,rfl⟩
    rw[hus2]at hO hus
    have HUS:=zQ hus2
    obtain⟨A0,c0,hv0,hf0⟩:=hO.form
    subst hv0
    have HD:=zQ hd
    clear hOne hX' hX hd hus2 hf0
    generalize e.l[k]=y at *
    obtain⟨T,p,hv⟩:=(val_hasB x hs).iface
    have IH0:=fun(W:World) (h:Ext wr W)=>ihx y s A' c' W hs (hXr.ext h) hokx
    rw[hv]at IH0
    simp only[Ex.cells,En.v]at IH0
    have IH:=zQ IH0
    have HTK:Hid (((Ex.vals x e.l).take (k+1)).map Va.v=us++[.iface T p]):=zQ (by rw[htk,List.map_append,HUS.out];simp[hv])
    have hBy:=HBy.out.ext (hE.trans (Ext.alloc wr (.cells #[.int .i64 y.op,.int .i64 y.var,.int .i64 y.ty,.int .i64 y.n,.bool y.b,.string ⟨y.s.toArray⟩,.slice A' y.l.length c'] 47)))
    obtain⟨n0,n1,n2,n3,n4,n5,n6,n7,n8,n9⟩:=hBy
    clear IH0 ihx hokx htk hv hs n0
    go_wp2_with fail
    refine(IH.out _ (Ext.alloc _ _)).mono ?_
    rintro r' w1 ⟨rfl,hEt⟩
    have hE1:Ext wr w1:=(Ext.alloc _ _).trans hEt
    have hO1:=hO.ext hE1
    have HCG:=zQ (show(w1.alloc (.cells #[.iface T p] 20)).cell? ⟨w1.heap.size,0,none⟩=some (.iface T p) by rw[World.cell?_alloc_new];rfl)
    have hEa1:Ext w1 (w1.alloc (.cells #[.iface T p] 20)):=Ext.alloc _ _
    have hOa:=hO1.ext hEa1
    have hba:w0.heap.size≤(w1.alloc (.cells #[.iface T p] 20)).heap.size:=by have h1:=hEa1.sz;have h2:=hE1.sz;have h3:=hE.sz;omega
    clear r0 r1 r2 r3 r4 r5 r6 n1 n2 n3 n4 n5 n6 n7 n8 n9 y6
    go_wp2_with (at_builtin;refine app_C ctyA rfl 18 22 rfl w0.heap.size (.slice A0 us.length c0) us rfl hOa w1.heap.size (.iface T p) rfl HCG.out rfl hus hba ?_;intro v1 wb hO2 hg2)
    go_roundw
    case rel=>exact⟨k+1,by omega,by go_num,by rw[HTK.out];exact hO2,Below.trans (hE.trans (hE1.trans hEa1)) (below_row' hg2 hba (fun g e=>(hO.lt g e).1))⟩
    case measure=>simp[intOf];omega
   ·obtain rfl:k=e.l.length:=by omega
    have hvl:(Ex.vals x e.l).length=e.l.length:=by rw[Ex.vals_map];simp
    rw[List.take_of_length_le (by omega)]at hO
    obtain⟨A1,c1,hv1,hR⟩:=hO.form
    rw[zC,hvl]at hv1
    subst hv1
    obtain⟨y0,y1,y2,y3,y4,y5,y6'⟩:Box wr w.heap.size e A c∧True∧True∧True∧True∧True∧True:=⟨HBx.out.ext hE,trivial,trivial,trivial,trivial,trivial,trivial⟩
    obtain⟨n0,y0,y1,y2,y3,y4,y5,y6'⟩:=y0
    have hBy:=HBy.out.ext hE
    obtain⟨m0,m1,m2,m3,m4,m5,m6,m7,m8,m9⟩:=hBy
    have tk:decide (e.l.length<e.l.length)=false:=by simp
    have hread :∀(j:Nat) (z:Ex) (T:TypeId) (p:Value),e.l[j]?=some z→(z.val x).v=.iface T p →∃bb,A1=some ⟨bb,0,none⟩∧wr.cell? ⟨bb,j,none⟩=some (.iface T p):=fun j z T p hz hp=>by
     obtain⟨bb,h1,_,h2⟩:=hR (by intro e0;rw[zD,Ex.vals_map,zD]at e0;rw[e0]at hz;simp at hz)
     exact⟨bb,h1,h2 j _ (by rw[zB,Ex.vals_map,zB,hz];simp[hp])⟩
    have HRD:=zQ hread
    obtain⟨n,hn⟩ :∃n,e.l.length=n:=⟨_,rfl⟩
    have HN:=zQ hn
    rw[hn]at y6 y6' tk
    rw[hn]
    clear hread hR hO hvl ih hX hlt hn hlen hk y6'
    have hiv:=HRT.out.inv
    clear n0 m0
    rcases hiv with⟨h6,hl,hr,ht⟩|⟨h6,hl,hr,ht⟩|⟨h6,ht,a,hl,ha⟩|⟨h6,ht,a,b,hl,ha,hb⟩|⟨h6,ht,s,a,b,hl,ha,hb⟩|⟨h6,ht,a,b,hl,ha,hb⟩|⟨h6,ht,a,b,hl,ha,hb⟩|⟨h6,a,b,c',hl,ha,hb,hc⟩
    ·obtain rfl:n=0:=by rw[←HN.out,hl];rfl
     have hsl:e.vl.s.length<9223372036854775808:=by
      have h1:=HOK.out.s
      show e.s.length<_
      omega
     have UW:=zQ (show ∀W,Calls Tryz.prog 97 #[.agg #[.int .i64 e.ty,.int .i64 e.n,.bool e.b,.string ⟨e.s.toArray⟩]] W fun r w'=>r=.returned (unw e.vl).v∧Ext W w' from fun W=>unwrap_any e.vl hsl W)
     have HT:=zQ (show(e.val x).v=(unw e.vl).v by rw[HV.out,h6];rfl)
     rw[h6]at y0
     clear h6 hl hr ht hsl
     generalize unw e.vl=u at *
     go_wp2_with fail
     refine(UW.out _).mono ?_
     rintro r w1 ⟨rfl,hE2⟩
     go_wp2_with fail
     go_ret
     exact⟨by rw[HT.out];rfl,hEa.trans hE2⟩
    ·obtain rfl:n=0:=by rw[←HN.out,hl];rfl
     have VA:=zQ (show ∀W,Calls Tryz.prog 96 #[.agg #[.int .i64 x.kind,.string ⟨x.cls.toArray⟩,.string ⟨x.name.toArray⟩,.int .i64 x.weight,.int .i64 x.level,.bool x.stairs,.int .i64 x.scale,.int .i64 x.hour,.int .i64 x.reader],.int .i64 e.var] W fun r w'=>r=.returned (x.var e.var).v∧Ext W w' from fun W=>variable_any x e.var W)
     have HT:=zQ (show(e.val x).v=(x.var e.var).v by rw[HV.out,h6];rfl)
     rw[h6]at y0
     clear h6 hl hr ht
     generalize x.var e.var=u at *
     go_wp2_with fail
     refine(VA.out _).mono ?_
     rintro r w1 ⟨rfl,hE2⟩
     go_wp2_with fail
     go_ret
     exact⟨by rw[HT.out];rfl,hEa.trans hE2⟩
    ·obtain rfl:n=1:=by rw[←HN.out,hl];rfl
     obtain⟨p,hp⟩:=(val_hasB x ha).b
     obtain⟨bb,hA1,z0⟩:=HRD.out 0 a 4 (.bool p) (by rw[hl];rfl) (by rw[hp];rfl)
     subst hA1
     have HT:=zQ (show(e.val x).v=.iface 4 (.bool (!p)) by rw[HV.out,h6,hl];simp only[Ex.vals,hp];rfl)
     rw[h6]at y0
     clear h6 hl ht hp ha
     go_wp2_with fail
     go_ret
     exact⟨by rw[HT.out];rfl,hEa⟩
    ·obtain rfl:n=2:=by rw[←HN.out,hl];rfl
     obtain⟨p,hp⟩:=(val_hasB x ha).b
     obtain⟨q,hq⟩:=(val_hasB x hb).b
     obtain⟨bb,hA1,z0⟩:=HRD.out 0 a 4 (.bool p) (by rw[hl];rfl) (by rw[hp];rfl)
     obtain⟨b2,hA2,z1⟩:=HRD.out 1 b 4 (.bool q) (by rw[hl];rfl) (by rw[hq];rfl)
     subst hA1
     obtain rfl:bb=b2:=by simpa using hA2
     rcases h6 with h6|h6
     ·have HT:=zQ (show(e.val x).v=.iface 4 (.bool (p&&q)) by rw[HV.out,h6,hl];simp only[Ex.vals,hp,hq];rfl)
      rw[h6]at y0
      clear h6 hl ht hp ha hq hb hA2
      cases p
      all_goals
       go_wp2_with fail
       go_ret
       exact⟨by rw[HT.out];rfl,hEa⟩
     ·have HT:=zQ (show(e.val x).v=.iface 4 (.bool (p||q)) by rw[HV.out,h6,hl];simp only[Ex.vals,hp,hq];rfl)
      rw[h6]at y0
      clear h6 hl ht hp ha hq hb hA2
      cases p
      all_goals
       go_wp2_with fail
       go_ret
       exact⟨by rw[HT.out];rfl,hEa⟩
    ·obtain rfl:n=2:=by rw[←HN.out,hl];rfl
     obtain⟨T,p,hp⟩:=(val_hasB x ha).iface
     obtain⟨T',q,hq⟩:=(val_hasB x hb).iface
     have heq:=fun w=>has_eql (val_hasB x ha) (val_hasB x hb) w
     rw[hp,hq]at heq
     obtain⟨bb,hA1,z0⟩:=HRD.out 0 a T p (by rw[hl];rfl) hp
     obtain⟨b2,hA2,z1⟩:=HRD.out 1 b T' q (by rw[hl];rfl) hq
     subst hA1
     obtain rfl:bb=b2:=by simpa using hA2
     obtain⟨g,hg⟩ :∃g,Vl.eq (a.val x).vl (b.val x).vl=g:=⟨_,rfl⟩
     rw[hg]at heq
     have HT:=zQ (show(e.val x).v=.iface 4 (.bool g) by rw[HV.out,h6,hl,←hg];rfl)
     rw[h6]at y0
     clear h6 hl ht hp ha hq hb hA2 hg
     go_wp2_with fail
     go_quiet (fail)
     go_wp2_with fail
     go_ret
     exact⟨by rw[HT.out];rfl,hEa.trans (ext_dn _ _)⟩
    ·obtain rfl:n=2:=by rw[←HN.out,hl];rfl
     obtain⟨p,hp,p1,p2⟩:=(val_hasB x ha).i
     obtain⟨q,hq,q1,q2⟩:=(val_hasB x hb).i
     obtain⟨bb,hA1,z0⟩:=HRD.out 0 a 3 (.int .i64 p) (by rw[hl];rfl) (by rw[hp];rfl)
     obtain⟨b2,hA2,z1⟩:=HRD.out 1 b 3 (.int .i64 q) (by rw[hl];rfl) (by rw[hq];rfl)
     subst hA1
     obtain rfl:bb=b2:=by simpa using hA2
     have HT:=zQ (show(e.val x).v=.iface 4 (.bool (decide (p<q))) by rw[HV.out,h6,hl];simp only[Ex.vals,hp,hq];rfl)
     rw[h6]at y0
     clear h6 hl ht hp ha hq hb hA2
     go_wp2_with fail
     go_ret
     exact⟨by rw[HT.out];rfl,hEa⟩
    ·obtain rfl:n=2:=by rw[←HN.out,hl];rfl
     obtain⟨p,hp,p1,p2⟩:=(val_hasB x ha).i
     obtain⟨q,hq,q1,q2⟩:=(val_hasB x hb).i
     obtain⟨bb,hA1,z0⟩:=HRD.out 0 a 3 (.int .i64 p) (by rw[hl];rfl) (by rw[hp];rfl)
     obtain⟨b2,hA2,z1⟩:=HRD.out 1 b 3 (.int .i64 q) (by rw[hl];rfl) (by rw[hq];rfl)
     subst hA1
     obtain rfl:bb=b2:=by simpa using hA2
     obtain⟨m1',m2'⟩:=mul_bd p1 p2 q1 q2
     rcases(by omega:e.op=8∨e.op=9∨e.op=10∨e.op=11∨e.op=12) with h6|h6|h6|h6|h6
     ·have HT:=zQ (show(e.val x).v=.iface 3 (.int .i64 (lim (p+q))) by rw[HV.out,h6,hl];simp only[Ex.vals,hp,hq];rfl)
      rw[h6]at y0
      clear h6 hl ht hp ha hq hb hA2 m1' m2'
      go_wp2_with fail
      refine(limit_any _ _).mono ?_
      rintro r w1 ⟨rfl,rfl⟩
      go_wp2_with fail
      go_ret
      exact⟨by rw[HT.out];rfl,hEa⟩
     ·have HT:=zQ (show(e.val x).v=.iface 3 (.int .i64 (lim (p-q))) by rw[HV.out,h6,hl];simp only[Ex.vals,hp,hq];rfl)
      rw[h6]at y0
      clear h6 hl ht hp ha hq hb hA2 m1' m2'
      go_wp2_with fail
      refine(limit_any _ _).mono ?_
      rintro r w1 ⟨rfl,rfl⟩
      go_wp2_with fail
      go_ret
      exact⟨by rw[HT.out];rfl,hEa⟩
     ·have HT:=zQ (show(e.val x).v=.iface 3 (.int .i64 (lim (p*q))) by rw[HV.out,h6,hl];simp only[Ex.vals,hp,hq];rfl)
      rw[h6]at y0
      clear h6 hl ht hp ha hq hb hA2
      go_wp2_with fail
      refine(limit_any _ _).mono ?_
      rintro r w1 ⟨rfl,rfl⟩
      go_wp2_with fail
      go_ret
      exact⟨by rw[HT.out];rfl,hEa⟩
     ·have HT:=zQ (show(e.val x).v=.iface 3 (.int .i64 (min p q)) by rw[HV.out,h6,hl];simp only[Ex.vals,hp,hq];rfl)
      rw[h6]at y0
      clear h6 hl ht hp ha hq hb hA2 m1' m2'
      go_wp2_with fail
      all_goals
       go_ret
       exact⟨by rw[HT.out];exact ret_any (by omega),hEa⟩
     ·have HT:=zQ (show(e.val x).v=.iface 3 (.int .i64 (max p q)) by rw[HV.out,h6,hl];simp only[Ex.vals,hp,hq];rfl)
      rw[h6]at y0
      clear h6 hl ht hp ha hq hb hA2 m1' m2'
      go_wp2_with fail
      all_goals
       go_ret
       exact⟨by rw[HT.out];exact ret_any (by omega),hEa⟩
    ·obtain rfl:n=3:=by rw[←HN.out,hl];rfl
     obtain⟨p,hp⟩:=(val_hasB x ha).b
     obtain⟨T,q,hq⟩:=(val_hasB x hb).iface
     obtain⟨T',r,hr⟩:=(val_hasB x hc).iface
     obtain⟨bb,hA1,z0⟩:=HRD.out 0 a 4 (.bool p) (by rw[hl];rfl) (by rw[hp];rfl)
     obtain⟨b2,hA2,z1⟩:=HRD.out 1 b T q (by rw[hl];rfl) hq
     obtain⟨b3,hA3,z2⟩:=HRD.out 2 c' T' r (by rw[hl];rfl) hr
     subst hA1
     obtain rfl:bb=b2:=by simpa using hA2
     obtain rfl:bb=b3:=by simpa using hA3
     have HT:=zQ (show(e.val x).v=if p=true then .iface T q else .iface T' r by rw[HV.out,h6,hl,←hq,←hr];simp only[Ex.vals,hp];cases p<;>rfl)
     rw[h6]at y0
     clear h6 hl hp ha hq hr hb hc hA2 hA3
     cases p
     all_goals
      go_wp2_with fail
      go_ret
      exact⟨by rw[HT.out];rfl,hEa⟩
end Go.Proofs.YtmiencglfhpmeaaGreatDoor
