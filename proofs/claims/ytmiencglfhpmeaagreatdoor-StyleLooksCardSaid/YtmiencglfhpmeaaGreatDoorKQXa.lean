/- A region whose operations only make memory: it may be walked operation by operation, whatever order is drawn. For each operation one says what its value is like (F), in words that later new memory leaves true; each is walked alone, in any world in which its predecessors have come. -/
import Derived.Orders
import Derived.Tactics
import Derived.Below
import Derived.Test.YtmiencglfhpmeaaGreatDoorRows
import Derived.WalkKit
import Derived.WalkSpells
import Derived.WalkLawsBesides
import Derived.Lib.Hide
import Derived.Outline
open List renaming all_eq_true → zA, contains_iff_mem → zB, countP_cons → zC, countP_le_length → zD, getElem?_append_left → zE, getElem?_append_right → zF, getElem?_cons_zero → zG, mem_cons → zH, mem_cons_of_mem → zI, mem_cons_self → zJ, mem_filter → zK, mem_map → zL, mem_range → zM, range → zN, range' → zO, range'_succ → zP, take_of_length_le → zQ, take_succ_cons → zR
open Nat renaming le_refl → zS, le_trans → zT, lt_irrefl → zU, lt_of_lt_of_le → zV, lt_or_ge → zW, lt_trans → zX, sub_self → zY, zero_add → zZ, zero_le → xA
open Option renaming bind_some → xB, getD_some → xC, map_some → xD, some.injEq → xE
open Array renaming all_eq_true_iff_forall_mem → xF, getD_eq_getD_getElem? → xG, getElem?_eq_getElem → xH, getElem?_setIfInBounds_ne → xI, getElem?_setIfInBounds_self_of_lt → xJ, replicate → xK
open Bool renaming and_eq_true → xL, or_eq_true → xM
open Go.Lib renaming hid → xN
set_option linter.unusedSimpArgs false
set_option linter.unusedVariables false
namespace Hach
open Go Go.RowKit
section
variable {P:Program}
def Gives (P:Program) (R:Value→World→Prop):Result Next→Prop
 | .ok (.value v) w'=>R v w'
 | .ok .skip w'=>R undef w'
 | .ok (.enter f args) w'=>Calls P f args w' fun e w''=>match e with
   | .returned v=>R v w''
   | _=>False
 | .ok (.row row args) w'=>Rows P row args w' R
 | _=>False
theorem Gives.upon {o:Oper}{a:Act}{R:Value→World→Prop}{K:Act→World→Prop}{Q:Exit→Act→World→Prop}{r:Result Next}(h:Gives P R r) (hk :∀v w,R v w→K (a.put o.dst v) w):o.upon P a K Q r:=by
 cases r with
 | ok n w'=>
  cases n<;>simp only[Gives]at h<;>simp only[Oper.upon]
  case value v=>exact hk _ _ h
  case skip=>exact hk _ _ h
  case enter f args=>exact Calls.mono h (fun e w'' he=>by cases e<;>first|exact hk _ _ he|exact he.elim)
  case row row args=>exact Rows.mono h (fun v w'' he=>hk _ _ he)
 | halt x w'=>exact(h:False).elim
def preds (o:Oper):List Nat:=(o.after.toList.filter (Region.binds .any)).map (·.on)
def dstOf (ops:Array Oper) (k:Nat):Option Tmp:=(ops[k]?).bind (·.dst)
def wr (ops:Array Oper) (t:Tmp):Option Nat:=(zN ops.size).find? fun k=>dstOf ops k == some t
def putAll (ops:Array Oper) (x:Nat→Value) (ks:List Nat) (a:Act):Act:=ks.foldl (fun a k=>a.put (dstOf ops k) (x k)) a
def monoOk (ops:Array Oper) (N:Nat):Bool:=
 ((zN ops.size).all fun k=>match dstOf ops k with
  | some t=>wr ops t == some k&&decide (t<N)
  | none=>true) &&
 ((zN ops.size).all fun i=>match ops[i]? with
  | none=>true
  | some o=>(match o.op with
    | .select _ _=>false
    | _=>true)&&((preds o).all fun p=>decide (p<i)) &&
   ((o.looksAt ops).all fun t=>match wr ops t with
    | none=>true
    | some k=>(preds o).contains k||k == i||(match ops[k]? with
      | some ok=>(preds ok).contains i
      | none=>false)))
def tailOk (ops:Array Oper) (m:Nat) (X:List Nat):Bool:=
 (zN ops.size).all fun k=>if k<m then(decide (ops.size≤m)||(decide (k<X.getD k 0)&&decide (X.getD k 0≤m)&&(match ops[X.getD k 0]? with
   | some o=>(preds o).contains k
   | none=>false)))
  else match ops[k+1]? with
   | some o=>(preds o).contains k
   | none=>true
theorem wr_some {ops:Array Oper}{t:Tmp}{k:Nat}(h:wr ops t=some k):k<ops.size∧dstOf ops k=some t:=by
 unfold wr at h
 have h1:=List.find?_some h
 have h2:=List.mem_of_find?_eq_some h
 exact⟨zM.1 h2,by simpa using h1⟩
structure Mono (ops:Array Oper) (N:Nat):Prop where
 one :∀k t,k<ops.size→dstOf ops k=some t→wr ops t=some k∧t<N
 sel :∀(i:Nat) (o:Oper),ops[i]?=some o →∀cs b,o.op≠.select cs b
 lt :∀(i:Nat) (o:Oper),ops[i]?=some o →∀p∈preds o,p<i
 look :∀(i:Nat) (o:Oper),ops[i]?=some o →∀t∈o.looksAt ops,∀k,wr ops t=some k→k∈preds o∨k=i ∨∃ok,ops[k]?=some ok∧i∈preds ok
theorem lt_of_some {ops:Array Oper}{i:Nat}{o:Oper}(h:ops[i]?=some o):i<ops.size:=(Array.getElem?_eq_some_iff.1 h).1
theorem mono_of {ops:Array Oper}{N:Nat}(h:monoOk ops N=true):Mono ops N:=by
 unfold monoOk at h
 simp only[xL]at h
 obtain⟨h1,h2⟩:=h
 have k1 :∀k t,k<ops.size→dstOf ops k=some t→wr ops t=some k∧t<N:=fun k t hk hd=>by
  have:=zA.1 h1 k (zM.2 hk)
  rw[hd]at this
  simp only[xL,beq_iff_eq,decide_eq_true_eq]at this
  exact this
 have k2 :∀(i:Nat) (o:Oper),ops[i]?=some o→(∀cs b,o.op≠.select cs b)∧(∀p∈preds o,p<i)∧(∀t∈o.looksAt ops,∀k,wr ops t=some k→k∈preds o∨k=i ∨∃ok,ops[k]?=some ok∧i∈preds ok):=fun i o ho=>by
  have:=zA.1 h2 i (zM.2 (lt_of_some ho))
  rw[ho]at this
  simp only[xL]at this
  obtain⟨⟨a,b⟩,c⟩:=this
  refine⟨fun cs bb e=>?_,fun p hp=>by simpa using zA.1 b p hp,fun t ht k hk=>?_⟩
  ·rw[e]at a;cases a
  ·have:=zA.1 c t ht
   rw[hk]at this
   simp only[xM,zB,beq_iff_eq]at this
   rcases this with(h|h)|h
   ·exact .inl h
   ·exact .inr (.inl h)
   ·cases hok:ops[k]? with
    | none=>rw[hok]at h;cases h
    | some ok=>rw[hok]at h;exact .inr (.inr ⟨ok,rfl,by simpa using h⟩)
 exact⟨k1,fun i o ho=>(k2 i o ho).1,fun i o ho=>(k2 i o ho).2.1,fun i o ho=>(k2 i o ho).2.2⟩
theorem tail_all {ops:Array Oper}{m:Nat}{X:List Nat}(h:tailOk ops m X=true) {l:Array Bool}(shut :∀(k:Nat) (o:Oper),ops[k]?=some o→l.getD k true=true →∀p∈preds o,l.getD p true=true)
  {i:Nat}{o:Oper}(ho:ops[i]?=some o) (hi:m≤i) (hp :∀p∈preds o,l.getD p true=true) :∀k,k<i→l.getD k true=true:=by
 have hin:=lt_of_some ho
 have key :∀d k,k+d+1=i→l.getD k true=true:=by
  intro d
  induction d using Nat.strongRecOn with
  | ind d ih=>
   intro k hk
   have h1:=zA.1 h k (zM.2 (by omega))
   have step :∀(j:Nat) (oj:Oper),ops[j]?=some oj→k<j→j≤i→k∈preds oj→l.getD k true=true:=fun j oj hoj hkj hji hm=>by
    by_cases e:j=i
    ·subst e;rw[ho]at hoj;cases hoj;exact hp k hm
    ·exact shut j oj hoj (ih (i-j-1) (by omega) j (by omega)) k hm
   by_cases hkm:k<m
   ·rw[if_pos hkm]at h1
    simp only[xM,xL,decide_eq_true_eq]at h1
    rcases h1 with h1|⟨⟨h1,h2⟩,h3⟩
    ·omega
    ·cases hoj:ops[X.getD k 0]? with
     | none=>rw[hoj]at h3;cases h3
     | some oj=>rw[hoj]at h3;exact step _ oj hoj h1 (by omega) (by simpa using h3)
   ·rw[if_neg hkm]at h1
    cases hoj:ops[k+1]? with
    | none=>have:=Array.getElem?_eq_none_iff.1 hoj;omega
    | some oj=>rw[hoj]at h1;exact step _ oj hoj (by omega) (by omega) (by simpa using h1)
 exact fun k hk=>key (i-k-1) k (by omega)
theorem put_get {ops:Array Oper}{N:Nat}(m:Mono ops N) {a:Act}(hN:N≤a.tmps.size) {k:Nat}(hk:k<ops.size) (v:Value) (t:Tmp) :
  (a.put (dstOf ops k) v).tmps[t]?=if wr ops t=some k then some v else a.tmps[t]?:=by
 cases hd:dstOf ops k with
 | none=>
  rw[if_neg]
  ·rfl
  ·intro h;have:=(wr_some h).2;rw[hd]at this;cases this
 | some d=>
  obtain⟨hw,hlt⟩:=m.one k d hk hd
  simp only[Act.put]
  by_cases e:d=t
  ·subst e
   rw[if_pos hw]
   rw[xJ (zV hlt hN)]
  ·rw[xI e,if_neg]
   intro h
   have:=(wr_some h).2
   rw[hd]at this
   exact e (by cases this;rfl)
theorem putAll_size (ops:Array Oper) (x:Nat→Value) :∀(ks:List Nat) (a:Act),(putAll ops x ks a).tmps.size=a.tmps.size∧(putAll ops x ks a).defers=a.defers
 | [],_=>⟨rfl,rfl⟩
 | k::ks,a=>by
  have:=putAll_size ops x ks (a.put (dstOf ops k) (x k))
  unfold putAll at this ⊢
  rw[List.foldl_cons]
  refine⟨this.1.trans ?_,this.2.trans ?_⟩<;>cases dstOf ops k<;>simp[Act.put]
theorem putAll_get {ops:Array Oper}{N:Nat}(m:Mono ops N) (x:Nat→Value) (t:Tmp) :∀(ks:List Nat) (a:Act),N≤a.tmps.size→(∀k∈ks,k<ops.size) →
  (putAll ops x ks a).tmps[t]?=match wr ops t with
   | some k=>if k∈ks then some (x k) else a.tmps[t]?
   | none=>a.tmps[t]?
 | [],a,_,_=>by cases wr ops t<;>simp[putAll]
 | k::ks,a,hN,hks=>by
  have hsz:(a.put (dstOf ops k) (x k)).tmps.size=a.tmps.size:=by cases dstOf ops k<;>simp[Act.put]
  have ih:=putAll_get m x t ks (a.put (dstOf ops k) (x k)) (by rw[hsz];exact hN) (fun j hj=>hks j (zI _ hj))
  have e:putAll ops x (k::ks) a=putAll ops x ks (a.put (dstOf ops k) (x k)):=rfl
  rw[e,ih,put_get m hN (hks k (zJ ..))]
  cases hw:wr ops t with
  | none=>simp
  | some j=>
   by_cases hj:j∈ks
   ·simp[hj]
   ·by_cases e:j=k
    ·subst e;simp[hj]
    ·simp[hj,e]
theorem countP_lt (p p':Nat→Bool) (i:Nat) :∀(l:List Nat),(∀j∈l,p' j=true→p j=true)→i∈l→p i=true→p' i=false→l.countP p'<l.countP p
 | [],_,h,_,_=>by cases h
 | a::l,hs,hm,hp,hp'=>by
  have hle:l.countP p'≤l.countP p:=List.countP_mono_left (fun j hj=>hs j (zI _ hj))
  rw[zC,zC]
  rcases zH.1 hm with e|hm
  ·subst e;rw[hp,hp'];simp;omega
  ·have:=countP_lt p p' i l (fun j hj=>hs j (zI _ hj)) hm hp hp'
   have h1:=hs a (zJ ..)
   cases hpa:p' a
   ·simp;omega
   ·rw[h1 hpa];simp;omega
theorem wpAny_inv {md:Region.Mode}{ops:Array Oper}{Q:Exit→Act→World→Prop}(J:Array Bool→Act→World→Prop) (hsz :∀l a w,J l a w→l.size=ops.size)
  (hstep :∀l a w i,J l a w→i∈Region.ready md ops l→wpOp P ops Q i (J (l.setIfInBounds i true)) a w)
  (hdone :∀l a w,J l a w→Region.ready md ops l=[]→Q .normal a w) :
  ∀(fuel:Nat) (l:Array Bool) (a:Act) (w:World),(zN ops.size).countP (fun i => !l.getD i true)≤fuel→J l a w→wpAny P md ops Q fuel l a w:=by
 intro fuel
 induction fuel with
 | zero=>
  intro l a w hc hJ
  have hr:Region.ready md ops l=[]:=by
   unfold Region.ready
   rw[List.filter_eq_nil_iff]
   intro i hi h
   have h0:(zN ops.size).countP (fun i => !l.getD i true)=0:=by omega
   have:=List.countP_eq_zero.1 h0 i hi
   simp only[xL]at h
   exact this h.1
  exact⟨hr,hdone _ _ _ hJ hr⟩
 | succ fuel ih=>
  intro l a w hc hJ
  refine⟨hdone _ _ _ hJ,fun i hi=>wpOp_mono (fun a' w' hJ'=>ih _ a' w' ?_ hJ') (hstep _ _ _ i hJ hi)⟩
  have hi':=hi
  unfold Region.ready at hi'
  rw[zK]at hi'
  simp only[xL]at hi'
  have hil:i<l.size:=by rw[hsz _ _ _ hJ];exact zM.1 hi'.1
  have:=countP_lt (fun i => !l.getD i true) (fun j => !(l.setIfInBounds i true).getD j true) i (zN ops.size) (fun j _ hj=>by
   by_cases e:i=j
   ·subst e;simp[hil]at hj
   ·simpa[xI e]using hj) hi'.1 hi'.2.1 (by simp[hil])
  omega
theorem eval_of_get {a b:Act}{t:Tmp}(h:a.tmps[t]?=b.tmps[t]?):a.eval (.tmp t)=b.eval (.tmp t):=by
 simp only[Act.eval,xG,h]
theorem exec_of_look {ops:Array Oper}{o:Oper}(hs :∀cs b,o.op≠.select cs b) {a b:Act}(h :∀t∈o.looksAt ops,a.tmps[t]?=b.tmps[t]?):execOp a.eval o=execOp b.eval o:=
 execOp_congr o hs fun x hx=>by
  cases x with
  | tmp t=>exact eval_of_get (h t (List.mem_append_left _ (List.mem_filterMap.2 ⟨.tmp t,by simpa using hx,rfl⟩)))
  | const v=>rfl
  | global g=>rfl
  | func f=>rfl
theorem wanted_of_look {ops:Array Oper}{o:Oper}{a b:Act}(h :∀t∈o.looksAt ops,a.tmps[t]?=b.tmps[t]?):Region.wanted o (yielded ops a.tmps)=Region.wanted o (yielded ops b.tmps):=by
 unfold Region.wanted
 cases hg:o.guard with
 | none=>rfl
 | some gw=>
  obtain⟨g,want⟩:=gw
  have hy:yielded ops a.tmps g=yielded ops b.tmps g:=by
   unfold yielded
   cases ht:(ops[g]?).bind (·.dst) with
   | none=>rfl
   | some t=>
    have:=h t (by simp[Oper.looksAt,hg,ht])
    simp[this]
  simp only[hy]
theorem act_ext {a b:Act}(hs:a.tmps.size=b.tmps.size) (hd:a.defers=b.defers) (h :∀t:Nat,a.tmps[t]?=b.tmps[t]?):a=b:=by
 obtain⟨at_,ad⟩:=a
 obtain⟨bt,bd⟩:=b
 simp only at hs hd h
 subst hd
 congr 1
 exact Array.ext_getElem? h
structure Come (ops:Array Oper) (a:Act) (E:World→World→Prop) (F:Nat→Value→World→Prop) (w:World) (l:Array Bool) (a':Act) (W:World) (x:Nat→Value):Prop where
 ext:E w W
 lsz:l.size=ops.size
 dfs:a'.defers=a.defers
 asz:a'.tmps.size=a.tmps.size
 shut :∀k o,ops[k]?=some o→l.getD k true=true →∀p∈preds o,l.getD p true=true
 val :∀k,k<ops.size→l.getD k true=true→F k (x k) W
 get :∀t,a'.tmps[t]?=match wr ops t with
  | some k=>if l.getD k true then some (x k) else a.tmps[t]?
  | none=>a.tmps[t]?
theorem ready_iff {ops:Array Oper}{l:Array Bool}{i:Nat}:i∈Region.ready .any ops l ↔∃o,ops[i]?=some o∧l.getD i true=false ∧∀p∈preds o,l.getD p false=true:=by
 unfold Region.ready
 rw[zK,zM]
 constructor
 ·rintro⟨hi,h⟩
  simp only[xL]at h
  refine⟨ops[i],xH hi,by simpa using h.1,fun p hp=>?_⟩
  have h2:=h.2
  rw[xH hi]at h2
  simp only[xD,xC]at h2
  unfold preds at hp
  rw[zL]at hp
  obtain⟨e,he,rfl⟩:=hp
  rw[zK]at he
  have:=xF.1 h2 e (by simpa using he.1)
  simpa[he.2]using this
 ·rintro⟨o,ho,hl,hp⟩
  refine⟨lt_of_some ho,?_⟩
  rw[ho,hl]
  simp only[Bool.not_false,Bool.true_and,xD,xC]
  rw[xF]
  intro e he
  cases hb:Region.binds .any e
  ·rfl
  ·simpa using hp e.on (zL.2 ⟨e,zK.2 ⟨by simpa using he,hb⟩,rfl⟩)
theorem getD_lt {l:Array Bool}{p:Nat}(h:p<l.size) (b c:Bool):l.getD p b=l.getD p c:=by
 simp[xG,xH h]
theorem all_of_none {ops:Array Oper}{N:Nat}(m:Mono ops N) {l:Array Bool}(hl:l.size=ops.size) (h:Region.ready .any ops l=[]) :∀k,k<ops.size→l.getD k true=true:=by
 intro k
 induction k using Nat.strongRecOn with
 | ind k ih=>
  intro hk
  cases hc:l.getD k true with
  | true=>rfl
  | false=>
   have:k∈Region.ready .any ops l:=ready_iff.2 ⟨ops[k],xH hk,hc,fun p hp=>by
    have hpk:=m.lt k _ (xH hk) p hp
    rw[getD_lt (by omega) false true]
    exact ih p hpk (by omega)⟩
   rw[h]at this
   cases this
theorem Come.first {ops:Array Oper}{N:Nat}(m:Mono ops N) {a:Act}(hN:N≤a.tmps.size) {E:World→World→Prop}{F:Nat→Value→World→Prop}{w:World}{l:Array Bool}{a':Act}{W:World}{x:Nat→Value}
  (c:Come ops a E F w l a' W x) {i:Nat}(hi:i≤ops.size) (h :∀k,k<i→l.getD k true=true) (h2 :∀k,i≤k→k<ops.size→l.getD k true=false):a'=putAll ops x (zN i) a:=by
 refine act_ext (c.asz.trans (putAll_size ops x _ a).1.symm) (c.dfs.trans (putAll_size ops x _ a).2.symm) fun t=>?_
 rw[c.get t,putAll_get m x t _ a hN (fun k hk=>zV (zM.1 hk) hi)]
 cases hw:wr ops t with
 | none=>rfl
 | some k=>
  have hk:=(wr_some hw).1
  by_cases e:k<i
  ·simp[h k e,e]
  ·simp[h2 k (by omega) hk,e]
theorem wpAny_mono {ops:Array Oper}{Q:Exit→Act→World→Prop}{a:Act}{w:World}(M:Nat) (X:List Nat) (hck:monoOk ops a.tmps.size=true) (hM:M≤ops.size) (htl:tailOk ops M X=true)
  (E:World→World→Prop) (hr :∀w,E w w) (ht :∀ {u v w},E u v→E v w→E u w) (F:Nat→Value→World→Prop) (hF :∀ {i v W W'},F i v W→E W W'→F i v W')
  (hops :∀(i:Nat) (o:Oper),ops[i]?=some o→i<M →∀(x:Nat→Value) W,E w.drew W→(∀k∈preds o,F k (x k) W) →
   if Region.wanted o (yielded ops (putAll ops x (preds o) a).tmps) then Gives P (fun v W'=>E W W'∧F i v W') ((execOp (putAll ops x (preds o) a).eval o).run P W) else F i undef W)
  (hfin :∀(x:Nat→Value) W,E w.drew W→(∀k,k<M→F k (x k) W)→wpOps P ops Q (zO M (ops.size-M)) (putAll ops x (zN M) a) W) :
  wpAny P .any ops Q ops.size (xK ops.size false) a w.drew:=by
 have m:=mono_of hck
 refine wpAny_inv
  (fun l a' W=>(∃x,Come ops a E F w.drew l a' W x ∧∀k,M≤k→k<ops.size→l.getD k true=false) ∨
   (l.size=ops.size ∧∃i,M≤i∧i≤ops.size∧(∀k,k<i→l.getD k true=true)∧(∀k,i≤k→k<ops.size→l.getD k true=false)∧wpOps P ops Q (zO i (ops.size-i)) a' W))
  ?_ ?_ ?_ _ _ _ _ (zT (zD) (by simp)) ?_
 ·rintro l a' W (⟨x,c,_⟩|⟨h,_⟩)
  ·exact c.lsz
  ·exact h
 ·-- a tail operation, walked
  have htail :∀(l:Array Bool) (a':Act) (W:World) (i:Nat),l.size=ops.size→M≤i→i<ops.size→(∀k,k<i→l.getD k true=true)→(∀k,i≤k→k<ops.size→l.getD k true=false) →
    wpOps P ops Q (zO i (ops.size-i)) a' W →
    wpOp P ops Q i (fun a'' W'=>(∃x,Come ops a E F w.drew (l.setIfInBounds i true) a'' W' x ∧∀k,M≤k→k<ops.size→(l.setIfInBounds i true).getD k true=false) ∨
   ((l.setIfInBounds i true).size=ops.size ∧∃i',M≤i'∧i'≤ops.size∧(∀k,k<i'→(l.setIfInBounds i true).getD k true=true)∧(∀k,i'≤k→k<ops.size→(l.setIfInBounds i true).getD k true=false)∧wpOps P ops Q (zO i' (ops.size-i')) a'' W')) a' W:=by
   intro l a' W i hsz hMi hin h1 h2 hw
   rw[show ops.size-i=(ops.size-(i+1))+1 by omega,zP,wpOps_cons]at hw
   refine wpOp_mono (fun a'' W' h=>.inr ⟨by simp[hsz],i+1,by omega,by omega,fun k hk=>?_,fun k hk hk2=>?_,h⟩) hw
   ·by_cases e:i=k
    ·subst e;simp[xG,hsz,hin]
    ·rw[xG,xI e,←xG];exact h1 k (by omega)
   ·rw[xG,xI (by omega),←xG];exact h2 k (by omega) hk2
  rintro l a' W i (⟨x,c,hno⟩|⟨hsz,i',hMi,hi',h1,h2,hw⟩) hi
  ·obtain⟨o,ho,hli,hp⟩:=ready_iff.1 hi
   have hin:=lt_of_some ho
   have hpl :∀p∈preds o,p<ops.size:=fun p hp'=>zX (m.lt i o ho p hp') hin
   have hpt :∀p∈preds o,l.getD p true=true:=fun p hp'=>by rw[getD_lt (by rw[c.lsz];exact hpl p hp') true false];exact hp p hp'
   by_cases hiM:i<M
   ·have hlook :∀t∈o.looksAt ops,a'.tmps[t]?=(putAll ops x (preds o) a).tmps[t]?:=fun t ht'=>by
     rw[c.get t,putAll_get m x t _ a (zS _) hpl]
     cases hw:wr ops t with
     | none=>rfl
     | some k=>
      rcases m.look i o ho t ht' k hw with h|h|⟨ok,hok,h⟩
      ·simp[h,hpt k h]
      ·subst h
       have hni :¬k∈preds o:=fun h=>absurd (m.lt k o ho k h) (zU _)
       simp[hni,hli]
      ·have hkl:l.getD k true=false:=by
        cases hc:l.getD k true with
        | false=>rfl
        | true=>have:=c.shut k ok hok hc i h;rw[hli]at this;cases this
       have hnk :¬k∈preds o:=fun h'=>by have:=hpt k h';rw[hkl]at this;cases this
       simp[hnk,hkl]
    have hex:=exec_of_look (m.sel i o ho) hlook
    have hwa:=wanted_of_look hlook
    have hval :∀k∈preds o,F k (x k) W:=fun k hk=>c.val k (hpl k hk) (hpt k hk)
    have hshut :∀(k:Nat) (o':Oper),ops[k]?=some o'→(l.setIfInBounds i true).getD k true=true →∀p∈preds o',(l.setIfInBounds i true).getD p true=true:=fun k o' ho' hk p hp'=>by
     by_cases e:i=p
     ·subst e;simp[xG,c.lsz,hin]
     ·rw[xG,xI e,←xG]
      by_cases e2:i=k
      ·subst e2;rw[ho]at ho';cases ho';exact hpt p hp'
      ·rw[xG,xI e2,←xG]at hk
       exact c.shut k o' ho' hk p hp'
    have hg:=hops i o ho hiM x W c.ext hval
    have hnext :∀v W',E W W'→F i v W'→Come ops a E F w.drew (l.setIfInBounds i true) (a'.put o.dst v) W' (fun k=>if k=i then v else x k):=fun v W' hE hv=>by
     have hdi:o.dst=dstOf ops i:=by simp[dstOf,ho]
     refine⟨ht c.ext hE,by simp[c.lsz],?_,?_,hshut,fun k hk hlk=>?_,fun t=>?_⟩
     ·rw[←c.dfs];cases o.dst<;>rfl
     ·rw[←c.asz];cases o.dst<;>simp[Act.put]
     ·by_cases e:k=i
      ·subst e;simpa using hv
      ·simp only[e,if_false]
       rw[xG,xI (Ne.symm e),←xG]at hlk
       exact hF (c.val k hk hlk) hE
     ·rw[hdi,put_get m (by rw[c.asz];exact zS _) hin v t,c.get t]
      cases hw:wr ops t with
      | none=>simp
      | some k=>
       by_cases e:k=i
       ·subst e;simp[xG,c.lsz,hin]
       ·simp only[xE,e,if_false]
        rw[xG (i:=k) (xs:=l.setIfInBounds i true),xI (Ne.symm e),←xG]
    have hno' :∀k,M≤k→k<ops.size→(l.setIfInBounds i true).getD k true=false:=fun k hk hk2=>by
     rw[xG,xI (by omega),←xG];exact hno k hk hk2
    unfold wpOp
    rw[ho]
    simp only[]
    rw[hwa]
    split
    ·rename_i hw
     rw[if_pos hw]at hg
     rw[←hex]at hg
     exact .inl (hg.upon fun v W' hv=>.inl ⟨_,hnext v W' hv.1 hv.2,hno'⟩)
    ·rename_i hw
     rw[if_neg hw]at hg
     exact .inl ⟨_,hnext undef W (hr W) hg,hno'⟩
   ·-- the first of the tail
    have hall:=tail_all htl c.shut ho (Nat.le_of_not_lt hiM) hpt
    have hiM2:i=M:=by
     by_cases e:i=M
     ·exact e
     ·have:=hall M (by omega);rw[hno M (zS _) (by omega)]at this;cases this
    subst hiM2
    have ha:=c.first m (zS _) hM hall hno
    have hf:=hfin x W c.ext (fun k hk=>c.val k (by omega) (hall k hk))
    rw[←ha]at hf
    exact htail l a' W i c.lsz (zS _) hin hall hno hf
  ·obtain⟨o,ho,hli,hp⟩:=ready_iff.1 hi
   have hin:=lt_of_some ho
   have hge:i'≤i:=by
    rcases zW i i' with h|h
    ·rw[h1 i h]at hli;cases hli
    ·exact h
   have hii:i=i':=by
    by_cases e:i=i'
    ·exact e
    ·exfalso
     have h3:=zA.1 htl (i-1) (zM.2 (by omega))
     rw[if_neg (by omega),show i-1+1=i by omega,ho]at h3
     have:=hp (i-1) (by simpa using h3)
     rw[getD_lt (by omega) false true,h2 (i-1) (by omega) (by omega)]at this
     cases this
   subst hii
   exact htail l a' W i hsz hMi hin h1 h2 hw
 ·rintro l a' W (⟨x,c,hno⟩|⟨hsz,i',hMi,hi',h1,h2,hw⟩) hn
  ·have hall:=all_of_none m c.lsz hn
   have hMe:M=ops.size:=by
    by_cases e:M=ops.size
    ·exact e
    ·have:=hno M (zS _) (by omega);rw[hall M (by omega)]at this;cases this
   have ha:=c.first m (zS _) hM (fun k hk=>hall k (by omega)) hno
   have hf:=hfin x W c.ext (fun k hk=>c.val k (by omega) (hall k (by omega)))
   rw[←ha,hMe,zY]at hf
   exact hf
  ·have hall:=all_of_none m hsz hn
   have hie:i'=ops.size:=by
    by_cases e:i'=ops.size
    ·exact e
    ·have:=h2 i' (zS _) (by omega);rw[hall i' (by omega)]at this;cases this
   subst hie
   rw[zY]at hw
   exact hw
 ·refine .inl ⟨fun _=>undef,⟨hr _,by simp,rfl,rfl,fun k o ho hk=>?_,fun k hk hlk=>?_,fun t=>?_⟩,fun k _ hk=>?_⟩
  ·simp[xG,lt_of_some ho]at hk
  ·simp[xG,hk]at hlk
  ·cases hw:wr ops t with
   | none=>rfl
   | some k=>simp[xG,(wr_some hw).1]
  ·simp[xG,hk]
def Ext (w w':World):Prop:=Below w.heap.size w w'
theorem Ext.refl (w:World):Ext w w:=Below.refl _ _
theorem Ext.trans {u v w:World}(h:Ext u v) (k:Ext v w):Ext u w:=Below.trans h (Below.mono k (Below.size h))
theorem Ext.below {w w':World}(h:Ext w w'):Below w.heap.size w w':=h
theorem Ext.drew (w:World):Ext w w.drew:=(Below.refl _ _).drew
theorem Ext.alloc (w:World) (o:Obj):Ext w (w.alloc o):=(Below.refl _ _).alloc (zS _) o
theorem Ext.sz {w w':World}(h:Ext w w'):w.heap.size≤w'.heap.size:=Below.size h
theorem Ext.old {w w':World}(h:Ext w w') {p:Addr}(hp:p.block<w.heap.size):w'.cell? p=w.cell? p:=Below.cell h hp
structure SP where
 p:Value→World→Prop
 st :∀ {v W W'},p v W→Ext W W'→p v W'
def eqv (c:Value):SP:=⟨fun v _=>v=c,fun h _=>h⟩
def anyv:SP:=⟨fun _ _=>True,fun _ _=>trivial⟩
def Fof (F:List SP) (k:Nat) (v:Value) (W:World):Prop:=(F.getD k anyv).p v W
def depsOk (ops:Array Oper) (D:List (List Nat)):Bool:=
 (zN ops.size).all fun i=>match ops[i]? with
  | none=>true
  | some o=>((D.getD i []).all fun k=>(preds o).contains k)&&(o.looksAt ops).all fun t=>match wr ops t with
    | none=>true
    | some k => !(preds o).contains k||(D.getD i []).contains k
def putD (ds:List (Option Tmp)) (x:Nat→Value) (ks:List Nat) (a:Act):Act:=ks.foldl (fun a k=>a.put (ds.getD k none) (x k)) a
def yieldD (ds:List (Option Tmp)) (a:Act) (j:Nat):Option Bool:=
 match (ds.getD j none).bind (a.tmps[·]?) with
 | some (.bool b)=>some b
 | _=>none
def Known (F:List SP) (x:Nat→Value) (W:World):List Nat→Prop
 | []=>True
 | k::ks=>(F.getD k anyv).p (x k) W∧Known F x W ks
theorem known_of {F:List SP}{x:Nat→Value}{W:World}:∀ {ks:List Nat},(∀k∈ks,(F.getD k anyv).p (x k) W)→Known F x W ks
 | [],_=>trivial
 | k::_,h=>⟨h k (zJ ..),known_of fun j hj=>h j (zI _ hj)⟩
def KV (dst:Option Tmp) (R:Value→World→Prop) (df:List Deferred) (a:Act) (w:World):Prop:=
 a.defers=df∧match dst with
 | some d=>R (a.tmps.getD d undef) w
 | none =>∀v,R v w
def onNormal (K:Act→World→Prop):Exit→Act→World→Prop
 | .normal,a,w=>K a w
 | _,_,_=>False
def OpGoal (P:Program) (ds:List (Option Tmp)) (o:Oper) (R:Value→World→Prop) (c:Act) (W:World):Prop:=
 match o.guard with
 | none=>wpList P #[] (onNormal (KV o.dst R c.defers)) [{ o with guard:=none }] c W
 | some (j,b)=>if yieldD ds c j=some b then wpList P #[] (onNormal (KV o.dst R c.defers)) [{ o with guard:=none }] c W else R undef W
theorem OpGoal.plain {ds:List (Option Tmp)}{dst:Option Tmp}{op:Op}{type:TypeId}{pos:String}{after:Array Edge}{R:Value→World→Prop}{c:Act}{W:World}
  (h:wpList P #[] (onNormal (KV dst R c.defers)) [⟨dst,op,type,pos,after,none⟩] c W):OpGoal P ds ⟨dst,op,type,pos,after,none⟩ R c W:=h
theorem OpGoal.yes {ds:List (Option Tmp)}{dst:Option Tmp}{op:Op}{type:TypeId}{pos:String}{after:Array Edge}{j:Nat}{b:Bool}{R:Value→World→Prop}{c:Act}{W:World}(hy:yieldD ds c j=some b)
  (h:wpList P #[] (onNormal (KV dst R c.defers)) [⟨dst,op,type,pos,after,none⟩] c W):OpGoal P ds ⟨dst,op,type,pos,after,some (j,b)⟩ R c W:=by
 show if yieldD ds c j=some b then _ else _
 rw[if_pos hy]
 exact h
theorem OpGoal.no {ds:List (Option Tmp)}{dst:Option Tmp}{op:Op}{type:TypeId}{pos:String}{after:Array Edge}{j:Nat}{b:Bool}{R:Value→World→Prop}{c:Act}{W:World}(hy:yieldD ds c j=some (!b)) (h:R undef W) :
  OpGoal P ds ⟨dst,op,type,pos,after,some (j,b)⟩ R c W:=by
 show if yieldD ds c j=some b then _ else _
 rw[hy,if_neg (by cases b<;>simp)]
 exact h
theorem gives_of_list {o:Oper}{R:Value→World→Prop}{c:Act}{W:World}(hd :∀d,o.dst=some d→d<c.tmps.size) (h:wpList P #[] (onNormal (KV o.dst R c.defers)) [{ o with guard:=none }] c W):Gives P R ((execOp c.eval o).run P W):=by
 have hv :∀v w',onNormal (KV o.dst R c.defers) .normal (c.put o.dst v) w'→R v w':=fun v w' hk=>by
  cases e:o.dst with
  | none=>rw[e]at hk;exact hk.2 v
  | some d=>
   rw[e]at hk
   have:R ((c.put (some d) v).tmps.getD d undef) w':=hk.2
   simpa[Act.put,xG,xJ (hd d e)]using this
 unfold wpList at h
 rw[if_pos (by rfl)]at h
 rcases h with h|⟨_,a,w,hf⟩
 ·unfold Oper.wp at h
  have ee:execOp c.eval ({ o with guard:=none }:Oper)=execOp c.eval o:=rfl
  rw[ee]at h
  generalize (execOp c.eval o).run P W=r at h
  cases r with
  | ok n w'=>
   cases n<;>simp only[Oper.upon]at h
   case value v=>exact hv v w' h
   case skip=>exact hv undef w' h
   case defer d=>
    exfalso
    have h1:({ c with defers:=d::c.defers }.put o.dst undef:Act).defers=c.defers:=h.1
    have h2:({ c with defers:=d::c.defers }.put o.dst undef:Act).defers=d::c.defers:=by cases o.dst<;>rfl
    rw[h2]at h1
    have:=congrArg List.length h1
    simp at this
   case enter f args=>
    exact Calls.mono h (fun e w'' he=>by cases e with
     | returned v=>exact hv v w'' he
     | panicked ch=>exact he.elim
     | outgrown=>obtain⟨a,w,hf⟩:=he;exact hf.elim)
   case row row args=>exact Rows.mono h (fun v w'' he=>hv v w'' he)
  | halt x w'=>cases x<;>simp only[Oper.upon]at h<;>exact h.elim
 ·exact hf.elim
def OpsOk (P:Program) (ds:List (Option Tmp)) (a:Act) (w:World) (F:List SP) (D:List (List Nat)):Nat→List Oper→Prop
 | _,[]=>True
 | i,o::l=>(∀(x:Nat→Value) (W:World),Ext w W→Known F x W (D.getD i [])→OpGoal P ds o (fun v W'=>Ext W W'∧(F.getD i anyv).p v W') (putD ds x (D.getD i []) a) W)∧OpsOk P ds a w F D (i+1) l
theorem OpsOk.at_ {ds:List (Option Tmp)}{a:Act}{w:World}{F:List SP}{D:List (List Nat)}:∀ {l:List Oper}{i:Nat},OpsOk P ds a w F D i l →∀(j:Nat) (o:Oper),l[j]?=some o →∀(x:Nat→Value) (W:World),Ext w W→Known F x W (D.getD (i+j) []) →
      OpGoal P ds o (fun v W'=>Ext W W'∧(F.getD (i+j) anyv).p v W') (putD ds x (D.getD (i+j) []) a) W
  | [],_,_,j,o,h=>by simp at h
  | o'::l,i,hk,j,o,h=>by
    cases j with
    | zero=>
      simp only[zG,xE]at h
      subst h
      exact hk.1
    | succ j=>
      have:=OpsOk.at_ hk.2 j o (by simpa using h)
      rw[show i+1+j=i+(j+1) by omega]at this
      exact this
theorem dst_ds {l:List Oper}{ds:List (Option Tmp)}(h:(l.map (·.dst) == ds)=true) (k:Nat):dstOf l.toArray k=ds.getD k none:=by
 have e:l.map (·.dst)=ds:=by simpa using h
 subst e
 unfold dstOf
 simp only[List.getElem?_toArray,List.getD_eq_getElem?_getD,List.getElem?_map]
 cases l[k]?<;>rfl
theorem putD_eq {l:List Oper}{ds:List (Option Tmp)}(h:(l.map (·.dst) == ds)=true) (x:Nat→Value) (ks:List Nat) (a:Act):putAll l.toArray x ks a=putD ds x ks a:=by
 unfold putAll putD
 simp only[dst_ds h]
theorem OpGoal.use {l:List Oper}{ds:List (Option Tmp)}(h:(l.map (·.dst) == ds)=true) {o:Oper}{R:Value→World→Prop}{c:Act}{W:World}(hd :∀d,o.dst=some d→d<c.tmps.size) (hg:OpGoal P ds o R c W) :
  if Region.wanted o (yielded l.toArray c.tmps) then Gives P R ((execOp c.eval o).run P W) else R undef W:=by
 have hy :∀j,yielded l.toArray c.tmps j=yieldD ds c j:=fun j=>by
  have:=dst_ds h j
  unfold dstOf at this
  unfold yielded yieldD
  rw[this]
  rfl
 unfold OpGoal at hg
 unfold Region.wanted
 cases hgd:o.guard with
 | none=>
  rw[hgd]at hg
  have:=gives_of_list hd hg
  simpa using this
 | some gw=>
  obtain⟨j,b⟩:=gw
  rw[hgd]at hg
  simp only[hy,beq_iff_eq]
  have hg:if yieldD ds c j=some b then wpList P #[] (onNormal (KV o.dst R c.defers)) [{ o with guard:=none }] c W else R undef W:=hg
  split
  ·rename_i hw;rw[if_pos hw]at hg;exact gives_of_list hd hg
  ·rename_i hw;rw[if_neg hw]at hg;exact hg
theorem look_same {ops:Array Oper}{N:Nat}(m:Mono ops N) {D:List (List Nat)}(hD:depsOk ops D=true) {a:Act}(hN:N≤a.tmps.size) (x:Nat→Value) {i:Nat}{o:Oper}(ho:ops[i]?=some o) :
  (∀k∈D.getD i [],k∈preds o) ∧∀t∈o.looksAt ops,(putAll ops x (preds o) a).tmps[t]?=(putAll ops x (D.getD i []) a).tmps[t]?:=by
 have hin:=lt_of_some ho
 have h:=zA.1 hD i (zM.2 hin)
 rw[ho]at h
 simp only[xL]at h
 obtain⟨h1,h2⟩:=h
 have hs :∀k∈D.getD i [],k∈preds o:=fun k hk=>by simpa using zA.1 h1 k hk
 refine⟨hs,fun t ht=>?_⟩
 rw[putAll_get m x t _ a hN (fun p hp=>zX (m.lt i o ho p hp) hin),putAll_get m x t _ a hN (fun p hp=>zX (m.lt i o ho p (hs p hp)) hin)]
 cases hw:wr ops t with
 | none=>rfl
 | some k=>
  have:=zA.1 h2 t ht
  rw[hw]at this
  simp only[xM,Bool.not_eq_true',zB]at this
  by_cases hk:k∈preds o
  ·have hkD:k∈D.getD i []:=this.resolve_left (by simp[hk])
   simp only[hk,hkD,if_true]
  ·have hkD :¬k∈D.getD i []:=fun h=>hk (hs k h)
   simp only[hk,hkD,if_false]
theorem wpAny_seq {l t:List Oper}{Q:Exit→Act→World→Prop}{a:Act}{w:World}(ds:List (Option Tmp)) (D:List (List Nat)) (X:List Nat) (F:List SP)
  (hck:(monoOk (l++t).toArray a.tmps.size&&depsOk (l++t).toArray D&&((l++t).map (·.dst) == ds)&&tailOk (l++t).toArray l.length X)=true) (hops:OpsOk P ds a w.drew F D 0 l)
  (hfin :∀(x:Nat→Value) (W:World),Ext w.drew W→Known F x W (zN l.length)→wpList P (l++t).toArray Q t (putD ds x (zN l.length) a) W) :
  wpAny P .any (l++t).toArray Q (l++t).toArray.size (xK (l++t).toArray.size false) a w.drew:=by
 simp only[xL]at hck
 obtain⟨⟨⟨hc1,hc2⟩,hc3⟩,hc4⟩:=hck
 have m:=mono_of hc1
 refine wpAny_mono l.length X hc1 (by simp) hc4 Ext Ext.refl Ext.trans (Fof F) (fun h hE=>(F.getD _ anyv).st h hE) ?_ ?_
 ·intro i o ho hi x W hE hp
  obtain⟨hs,hlk⟩:=look_same m hc2 (zS _) x ho
  have hg:=hops.at_ i o (by simpa[zE hi]using ho) x W hE (known_of fun k hk=>by rw[zZ]at hk;exact hp k (hs k hk))
  rw[zZ]at hg
  have hg:=hg.use hc3 (fun d hd=>by rw[←putD_eq hc3,(putAll_size _ _ _ _).1];exact(m.one i d (lt_of_some ho) (by simp only[dstOf,ho,xB];exact hd)).2)
  rw[←putD_eq hc3]at hg
  rw[←wanted_of_look hlk,←exec_of_look (m.sel i o ho) hlk]at hg
  split
  ·rename_i hw;rw[if_pos hw]at hg;exact hg
  ·rename_i hw;rw[if_neg hw]at hg;exact hg.2
 ·intro x W hE h
  have hf:=hfin x W hE (known_of fun k hk=>h k (zM.1 hk))
  rw[←putD_eq hc3]at hf
  have e:(l++t).toArray.size-l.length=t.length:=by simp
  rw[e,wpOps_eq_wpList t l.length (fun j=>by simp[zF])]
  exact hf
theorem wp_region_seq {l t:List Oper}{Q:Exit→Act→World→Prop}{id:Nat}{a:Act}{w:World}(ds:List (Option Tmp)) (D:List (List Nat)) (X:List Nat) (F:List SP) (hm:P.follows .mixedOrders=true)
  (hck:(monoOk (l++t).toArray a.tmps.size&&depsOk (l++t).toArray D&&((l++t).map (·.dst) == ds)&&tailOk (l++t).toArray l.length X)=true) (hops:OpsOk P ds a w.drew F D 0 l)
  (hfin :∀(x:Nat→Value) (W:World),Ext w.drew W→Known F x W (zN l.length)→wpList P (l++t).toArray Q t (putD ds x (zN l.length) a) W) :
  (Code.region id (l++t).toArray true).wp P Q a w:=wp_region_any hm (wpAny_seq ds D X F hck hops hfin)
end
end Hach
namespace Hach
open Go Go.RowKit
section
variable {P:Program}
structure SPr (E:World→World→Prop) where
 p:Value→World→Prop
 st :∀ {v W W'},p v W→E W W'→p v W'
variable {E:World→World→Prop}
def eqr (c:Value):SPr E:=⟨fun v _=>v=c,fun h _=>h⟩
def anyr:SPr E:=⟨fun _ _=>True,fun _ _=>trivial⟩
def FofR (F:List (SPr E)) (k:Nat) (v:Value) (W:World):Prop:=(F.getD k anyr).p v W
def KnownR (F:List (SPr E)) (x:Nat→Value) (W:World):List Nat→Prop
 | []=>True
 | k::ks=>(F.getD k anyr).p (x k) W∧KnownR F x W ks
theorem knownR_of {F:List (SPr E)}{x:Nat→Value}{W:World}:∀ {ks:List Nat},(∀k∈ks,(F.getD k anyr).p (x k) W)→KnownR F x W ks
 | [],_=>trivial
 | k::_,h=>⟨h k (zJ ..),knownR_of fun j hj=>h j (zI _ hj)⟩
def OpsOkR (P:Program) (ds:List (Option Tmp)) (a:Act) (w:World) (F:List (SPr E)) (D:List (List Nat)):Nat→List Oper→Prop
 | _,[]=>True
 | i,o::l=>(∀(x:Nat→Value) (W:World),E w W→KnownR F x W (D.getD i [])→OpGoal P ds o (fun v W'=>E W W'∧(F.getD i anyr).p v W') (putD ds x (D.getD i []) a) W)∧OpsOkR P ds a w F D (i+1) l
theorem OpsOkR.at_ {ds:List (Option Tmp)}{a:Act}{w:World}{F:List (SPr E)}{D:List (List Nat)}:∀ {l:List Oper}{i:Nat},OpsOkR P ds a w F D i l →∀(j:Nat) (o:Oper),l[j]?=some o →∀(x:Nat→Value) (W:World),E w W→KnownR F x W (D.getD (i+j) []) →
      OpGoal P ds o (fun v W'=>E W W'∧(F.getD (i+j) anyr).p v W') (putD ds x (D.getD (i+j) []) a) W
  | [],_,_,j,o,h=>by simp at h
  | o'::l,i,hk,j,o,h=>by
    cases j with
    | zero=>
      simp only[zG,xE]at h
      subst h
      exact hk.1
    | succ j=>
      have:=OpsOkR.at_ hk.2 j o (by simpa using h)
      rw[show i+1+j=i+(j+1) by omega]at this
      exact this
theorem wpAny_rel (refl :∀w,E w w) (trans :∀ {u v w:World},E u v→E v w→E u w) {l t:List Oper}{Q:Exit→Act→World→Prop}{a:Act}{w:World}(ds:List (Option Tmp)) (D:List (List Nat)) (X:List Nat) (F:List (SPr E))
  (hck:(monoOk (l++t).toArray a.tmps.size&&depsOk (l++t).toArray D&&((l++t).map (·.dst) == ds)&&tailOk (l++t).toArray l.length X)=true) (hops:OpsOkR P ds a w.drew F D 0 l)
  (hfin :∀(x:Nat→Value) (W:World),E w.drew W→KnownR F x W (zN l.length)→wpList P (l++t).toArray Q t (putD ds x (zN l.length) a) W) :
  wpAny P .any (l++t).toArray Q (l++t).toArray.size (xK (l++t).toArray.size false) a w.drew:=by
 simp only[xL]at hck
 obtain⟨⟨⟨hc1,hc2⟩,hc3⟩,hc4⟩:=hck
 have m:=mono_of hc1
 refine wpAny_mono l.length X hc1 (by simp) hc4 E refl (@trans) (FofR F) (fun h hE=>(F.getD _ anyr).st h hE) ?_ ?_
 ·intro i o ho hi x W hE hp
  obtain⟨hs,hlk⟩:=look_same m hc2 (zS _) x ho
  have hg:=hops.at_ i o (by simpa[zE hi]using ho) x W hE (knownR_of fun k hk=>by rw[zZ]at hk;exact hp k (hs k hk))
  rw[zZ]at hg
  have hg:=hg.use hc3 (fun d hd=>by rw[←putD_eq hc3,(putAll_size _ _ _ _).1];exact(m.one i d (lt_of_some ho) (by simp only[dstOf,ho,xB];exact hd)).2)
  rw[←putD_eq hc3]at hg
  rw[←wanted_of_look hlk,←exec_of_look (m.sel i o ho) hlk]at hg
  split
  ·rename_i hw;rw[if_pos hw]at hg;exact hg
  ·rename_i hw;rw[if_neg hw]at hg;exact hg.2
 ·intro x W hE h
  have hf:=hfin x W hE (knownR_of fun k hk=>h k (zM.1 hk))
  rw[←putD_eq hc3]at hf
  have e:(l++t).toArray.size-l.length=t.length:=by simp
  rw[e,wpOps_eq_wpList t l.length (fun j=>by simp[zF])]
  exact hf
theorem wp_region_rel (refl :∀w,E w w) (trans :∀ {u v w:World},E u v→E v w→E u w) {l t:List Oper}{Q:Exit→Act→World→Prop}{id:Nat}{a:Act}{w:World}(ds:List (Option Tmp)) (D:List (List Nat)) (X:List Nat) (F:List (SPr E)) (hm:P.follows .mixedOrders=true)
  (hck:(monoOk (l++t).toArray a.tmps.size&&depsOk (l++t).toArray D&&((l++t).map (·.dst) == ds)&&tailOk (l++t).toArray l.length X)=true) (hops:OpsOkR P ds a w.drew F D 0 l)
  (hfin :∀(x:Nat→Value) (W:World),E w.drew W→KnownR F x W (zN l.length)→wpList P (l++t).toArray Q t (putD ds x (zN l.length) a) W) :
  (Code.region id (l++t).toArray true).wp P Q a w:=wp_region_any hm (wpAny_rel refl trans ds D X F hck hops hfin)
end
end Hach
namespace Hach
open Go Go.RowKit
section
variable {P:Program}
def GivesZ (P:Program) (Z:List PanicEntry→World→Prop) (R:Value→World→Prop):Result Next→Prop
 | .ok (.value v) w'=>R v w'
 | .ok .skip w'=>R undef w'
 | .ok (.enter f args) w'=>Calls P f args w' fun e w''=>match e with
   | .returned v=>R v w''
   | .panicked ch=>Z ch w''
   | _=>False
 | .ok (.row row args) w'=>Rows P row args w' R
 | _=>False
theorem Gives.toZ {Z:List PanicEntry→World→Prop}{R:Value→World→Prop}{r:Result Next}(h:Gives P R r):GivesZ P Z R r:=by
 cases r with
 | ok n w'=>
  cases n<;>simp only[Gives]at h<;>simp only[GivesZ]
  case value v=>exact h
  case skip=>exact h
  case enter f args=>exact Calls.mono h (fun e w'' he=>by cases e<;>first|exact he|exact he.elim)
  case row row args=>exact h
 | halt x w'=>exact(h:False).elim
theorem GivesZ.upon {o:Oper}{a:Act}{Z:List PanicEntry→World→Prop}{R:Value→World→Prop}{K:Act→World→Prop}{Q:Exit→Act→World→Prop}{r:Result Next}(h:GivesZ P Z R r) (hz :∀ch w,Z ch w→Q (.panic ch) a w) (hk :∀v w,R v w→K (a.put o.dst v) w):o.upon P a K Q r:=by
 cases r with
 | ok n w'=>
  cases n<;>simp only[GivesZ]at h<;>simp only[Oper.upon]
  case value v=>exact hk _ _ h
  case skip=>exact hk _ _ h
  case enter f args=>exact Calls.mono h (fun e w'' he=>by cases e<;>first|exact hk _ _ he|exact hz _ _ he|exact he.elim)
  case row row args=>exact Rows.mono h (fun v w'' he=>hk _ _ he)
 | halt x w'=>exact(h:False).elim
theorem wpAny_monoZ (Z:List PanicEntry→World→Prop) {ops:Array Oper}{Q:Exit→Act→World→Prop}{a:Act}{w:World}(M:Nat) (X:List Nat) (hck:monoOk ops a.tmps.size=true) (hM:M≤ops.size) (htl:tailOk ops M X=true)
  (E:World→World→Prop) (hr :∀w,E w w) (ht :∀ {u v w},E u v→E v w→E u w) (F:Nat→Value→World→Prop) (hF :∀ {i v W W'},F i v W→E W W'→F i v W')
  (hops :∀(i:Nat) (o:Oper),ops[i]?=some o→i<M →∀(x:Nat→Value) W,E w.drew W→(∀k∈preds o,F k (x k) W) →
   if Region.wanted o (yielded ops (putAll ops x (preds o) a).tmps) then GivesZ P Z (fun v W'=>E W W'∧F i v W') ((execOp (putAll ops x (preds o) a).eval o).run P W) else F i undef W)
  (hz :∀(a':Act) ch W,a'.defers=a.defers→Z ch W→Q (.panic ch) a' W)
  (hfin :∀(x:Nat→Value) W,E w.drew W→(∀k,k<M→F k (x k) W)→wpOps P ops Q (zO M (ops.size-M)) (putAll ops x (zN M) a) W) :
  wpAny P .any ops Q ops.size (xK ops.size false) a w.drew:=by
 have m:=mono_of hck
 refine wpAny_inv
  (fun l a' W=>(∃x,Come ops a E F w.drew l a' W x ∧∀k,M≤k→k<ops.size→l.getD k true=false) ∨
   (l.size=ops.size ∧∃i,M≤i∧i≤ops.size∧(∀k,k<i→l.getD k true=true)∧(∀k,i≤k→k<ops.size→l.getD k true=false)∧wpOps P ops Q (zO i (ops.size-i)) a' W))
  ?_ ?_ ?_ _ _ _ _ (zT (zD) (by simp)) ?_
 ·rintro l a' W (⟨x,c,_⟩|⟨h,_⟩)
  ·exact c.lsz
  ·exact h
 ·-- a tail operation, walked
  have htail :∀(l:Array Bool) (a':Act) (W:World) (i:Nat),l.size=ops.size→M≤i→i<ops.size→(∀k,k<i→l.getD k true=true)→(∀k,i≤k→k<ops.size→l.getD k true=false) →
    wpOps P ops Q (zO i (ops.size-i)) a' W →
    wpOp P ops Q i (fun a'' W'=>(∃x,Come ops a E F w.drew (l.setIfInBounds i true) a'' W' x ∧∀k,M≤k→k<ops.size→(l.setIfInBounds i true).getD k true=false) ∨
   ((l.setIfInBounds i true).size=ops.size ∧∃i',M≤i'∧i'≤ops.size∧(∀k,k<i'→(l.setIfInBounds i true).getD k true=true)∧(∀k,i'≤k→k<ops.size→(l.setIfInBounds i true).getD k true=false)∧wpOps P ops Q (zO i' (ops.size-i')) a'' W')) a' W:=by
   intro l a' W i hsz hMi hin h1 h2 hw
   rw[show ops.size-i=(ops.size-(i+1))+1 by omega,zP,wpOps_cons]at hw
   refine wpOp_mono (fun a'' W' h=>.inr ⟨by simp[hsz],i+1,by omega,by omega,fun k hk=>?_,fun k hk hk2=>?_,h⟩) hw
   ·by_cases e:i=k
    ·subst e;simp[xG,hsz,hin]
    ·rw[xG,xI e,←xG];exact h1 k (by omega)
   ·rw[xG,xI (by omega),←xG];exact h2 k (by omega) hk2
  rintro l a' W i (⟨x,c,hno⟩|⟨hsz,i',hMi,hi',h1,h2,hw⟩) hi
  ·obtain⟨o,ho,hli,hp⟩:=ready_iff.1 hi
   have hin:=lt_of_some ho
   have hpl :∀p∈preds o,p<ops.size:=fun p hp'=>zX (m.lt i o ho p hp') hin
   have hpt :∀p∈preds o,l.getD p true=true:=fun p hp'=>by rw[getD_lt (by rw[c.lsz];exact hpl p hp') true false];exact hp p hp'
   by_cases hiM:i<M
   ·have hlook :∀t∈o.looksAt ops,a'.tmps[t]?=(putAll ops x (preds o) a).tmps[t]?:=fun t ht'=>by
     rw[c.get t,putAll_get m x t _ a (zS _) hpl]
     cases hw:wr ops t with
     | none=>rfl
     | some k=>
      rcases m.look i o ho t ht' k hw with h|h|⟨ok,hok,h⟩
      ·simp[h,hpt k h]
      ·subst h
       have hni :¬k∈preds o:=fun h=>absurd (m.lt k o ho k h) (zU _)
       simp[hni,hli]
      ·have hkl:l.getD k true=false:=by
        cases hc:l.getD k true with
        | false=>rfl
        | true=>have:=c.shut k ok hok hc i h;rw[hli]at this;cases this
       have hnk :¬k∈preds o:=fun h'=>by have:=hpt k h';rw[hkl]at this;cases this
       simp[hnk,hkl]
    have hex:=exec_of_look (m.sel i o ho) hlook
    have hwa:=wanted_of_look hlook
    have hval :∀k∈preds o,F k (x k) W:=fun k hk=>c.val k (hpl k hk) (hpt k hk)
    have hshut :∀(k:Nat) (o':Oper),ops[k]?=some o'→(l.setIfInBounds i true).getD k true=true →∀p∈preds o',(l.setIfInBounds i true).getD p true=true:=fun k o' ho' hk p hp'=>by
     by_cases e:i=p
     ·subst e;simp[xG,c.lsz,hin]
     ·rw[xG,xI e,←xG]
      by_cases e2:i=k
      ·subst e2;rw[ho]at ho';cases ho';exact hpt p hp'
      ·rw[xG,xI e2,←xG]at hk
       exact c.shut k o' ho' hk p hp'
    have hg:=hops i o ho hiM x W c.ext hval
    have hnext :∀v W',E W W'→F i v W'→Come ops a E F w.drew (l.setIfInBounds i true) (a'.put o.dst v) W' (fun k=>if k=i then v else x k):=fun v W' hE hv=>by
     have hdi:o.dst=dstOf ops i:=by simp[dstOf,ho]
     refine⟨ht c.ext hE,by simp[c.lsz],?_,?_,hshut,fun k hk hlk=>?_,fun t=>?_⟩
     ·rw[←c.dfs];cases o.dst<;>rfl
     ·rw[←c.asz];cases o.dst<;>simp[Act.put]
     ·by_cases e:k=i
      ·subst e;simpa using hv
      ·simp only[e,if_false]
       rw[xG,xI (Ne.symm e),←xG]at hlk
       exact hF (c.val k hk hlk) hE
     ·rw[hdi,put_get m (by rw[c.asz];exact zS _) hin v t,c.get t]
      cases hw:wr ops t with
      | none=>simp
      | some k=>
       by_cases e:k=i
       ·subst e;simp[xG,c.lsz,hin]
       ·simp only[xE,e,if_false]
        rw[xG (i:=k) (xs:=l.setIfInBounds i true),xI (Ne.symm e),←xG]
    have hno' :∀k,M≤k→k<ops.size→(l.setIfInBounds i true).getD k true=false:=fun k hk hk2=>by
     rw[xG,xI (by omega),←xG];exact hno k hk hk2
    unfold wpOp
    rw[ho]
    simp only[]
    rw[hwa]
    split
    ·rename_i hw
     rw[if_pos hw]at hg
     rw[←hex]at hg
     exact .inl (hg.upon (fun ch w' hzz=>hz a' ch w' c.dfs hzz) fun v W' hv=>.inl ⟨_,hnext v W' hv.1 hv.2,hno'⟩)
    ·rename_i hw
     rw[if_neg hw]at hg
     exact .inl ⟨_,hnext undef W (hr W) hg,hno'⟩
   ·-- the first of the tail
    have hall:=tail_all htl c.shut ho (Nat.le_of_not_lt hiM) hpt
    have hiM2:i=M:=by
     by_cases e:i=M
     ·exact e
     ·have:=hall M (by omega);rw[hno M (zS _) (by omega)]at this;cases this
    subst hiM2
    have ha:=c.first m (zS _) hM hall hno
    have hf:=hfin x W c.ext (fun k hk=>c.val k (by omega) (hall k hk))
    rw[←ha]at hf
    exact htail l a' W i c.lsz (zS _) hin hall hno hf
  ·obtain⟨o,ho,hli,hp⟩:=ready_iff.1 hi
   have hin:=lt_of_some ho
   have hge:i'≤i:=by
    rcases zW i i' with h|h
    ·rw[h1 i h]at hli;cases hli
    ·exact h
   have hii:i=i':=by
    by_cases e:i=i'
    ·exact e
    ·exfalso
     have h3:=zA.1 htl (i-1) (zM.2 (by omega))
     rw[if_neg (by omega),show i-1+1=i by omega,ho]at h3
     have:=hp (i-1) (by simpa using h3)
     rw[getD_lt (by omega) false true,h2 (i-1) (by omega) (by omega)]at this
     cases this
   subst hii
   exact htail l a' W i hsz hMi hin h1 h2 hw
 ·rintro l a' W (⟨x,c,hno⟩|⟨hsz,i',hMi,hi',h1,h2,hw⟩) hn
  ·have hall:=all_of_none m c.lsz hn
   have hMe:M=ops.size:=by
    by_cases e:M=ops.size
    ·exact e
    ·have:=hno M (zS _) (by omega);rw[hall M (by omega)]at this;cases this
   have ha:=c.first m (zS _) hM (fun k hk=>hall k (by omega)) hno
   have hf:=hfin x W c.ext (fun k hk=>c.val k (by omega) (hall k (by omega)))
   rw[←ha,hMe,zY]at hf
   exact hf
  ·have hall:=all_of_none m hsz hn
   have hie:i'=ops.size:=by
    by_cases e:i'=ops.size
    ·exact e
    ·have:=h2 i' (zS _) (by omega);rw[hall i' (by omega)]at this;cases this
   subst hie
   rw[zY]at hw
   exact hw
 ·refine .inl ⟨fun _=>undef,⟨hr _,by simp,rfl,rfl,fun k o ho hk=>?_,fun k hk hlk=>?_,fun t=>?_⟩,fun k _ hk=>?_⟩
  ·simp[xG,lt_of_some ho]at hk
  ·simp[xG,hk]at hlk
  ·cases hw:wr ops t with
   | none=>rfl
   | some k=>simp[xG,(wr_some hw).1]
  ·simp[xG,hk]
variable {E:World→World→Prop}
def OpGoalZ (P:Program) (Z:List PanicEntry→World→Prop) (ds:List (Option Tmp)) (o:Oper) (R:Value→World→Prop) (c:Act) (W:World):Prop:=OpGoal P ds o R c W∨(o.guard=none∧GivesZ P Z R ((execOp c.eval o).run P W))
theorem OpGoalZ.use {Z:List PanicEntry→World→Prop}{l:List Oper}{ds:List (Option Tmp)}(h:(l.map (·.dst) == ds)=true) {o:Oper}{R:Value→World→Prop}{c:Act}{W:World}(hd :∀d,o.dst=some d→d<c.tmps.size) (hg:OpGoalZ P Z ds o R c W) :
  if Region.wanted o (yielded l.toArray c.tmps) then GivesZ P Z R ((execOp c.eval o).run P W) else R undef W:=by
 rcases hg with hg|⟨hgd,hg⟩
 ·have h1:=hg.use h hd
  split
  ·rename_i hw;rw[if_pos hw]at h1;exact h1.toZ
  ·rename_i hw;rw[if_neg hw]at h1;exact h1
 ·have hw:Region.wanted o (yielded l.toArray c.tmps)=true:=by unfold Region.wanted;rw[hgd]
  rw[if_pos hw];exact hg
def OpsOkZ (P:Program) (Z:List PanicEntry→World→Prop) (ds:List (Option Tmp)) (a:Act) (w:World) (F:List (SPr E)) (D:List (List Nat)):Nat→List Oper→Prop
 | _,[]=>True
 | i,o::l=>(∀(x:Nat→Value) (W:World),E w W→KnownR F x W (D.getD i [])→OpGoalZ P Z ds o (fun v W'=>E W W'∧(F.getD i anyr).p v W') (putD ds x (D.getD i []) a) W)∧OpsOkZ P Z ds a w F D (i+1) l
theorem OpsOkZ.at_ {Z:List PanicEntry→World→Prop}{ds:List (Option Tmp)}{a:Act}{w:World}{F:List (SPr E)}{D:List (List Nat)}:∀ {l:List Oper}{i:Nat},OpsOkZ P Z ds a w F D i l →∀(j:Nat) (o:Oper),l[j]?=some o →∀(x:Nat→Value) (W:World),E w W→KnownR F x W (D.getD (i+j) []) →
      OpGoalZ P Z ds o (fun v W'=>E W W'∧(F.getD (i+j) anyr).p v W') (putD ds x (D.getD (i+j) []) a) W
  | [],_,_,j,o,h=>by simp at h
  | o'::l,i,hk,j,o,h=>by
    cases j with
    | zero=>
      simp only[zG,xE]at h
      subst h
      exact hk.1
    | succ j=>
      have:=OpsOkZ.at_ hk.2 j o (by simpa using h)
      rw[show i+1+j=i+(j+1) by omega]at this
      exact this
theorem wpAny_relZ (Z:List PanicEntry→World→Prop) (refl :∀w,E w w) (trans :∀ {u v w:World},E u v→E v w→E u w) {l t:List Oper}{Q:Exit→Act→World→Prop}{a:Act}{w:World}(ds:List (Option Tmp)) (D:List (List Nat)) (X:List Nat) (F:List (SPr E))
  (hck:(monoOk (l++t).toArray a.tmps.size&&depsOk (l++t).toArray D&&((l++t).map (·.dst) == ds)&&tailOk (l++t).toArray l.length X)=true) (hops:OpsOkZ P Z ds a w.drew F D 0 l)
  (hz :∀(a':Act) ch W,a'.defers=a.defers→Z ch W→Q (.panic ch) a' W)
  (hfin :∀(x:Nat→Value) (W:World),E w.drew W→KnownR F x W (zN l.length)→wpList P (l++t).toArray Q t (putD ds x (zN l.length) a) W) :
  wpAny P .any (l++t).toArray Q (l++t).toArray.size (xK (l++t).toArray.size false) a w.drew:=by
 simp only[xL]at hck
 obtain⟨⟨⟨hc1,hc2⟩,hc3⟩,hc4⟩:=hck
 have m:=mono_of hc1
 refine wpAny_monoZ Z l.length X hc1 (by simp) hc4 E refl (@trans) (FofR F) (fun h hE=>(F.getD _ anyr).st h hE) ?_ hz ?_
 ·intro i o ho hi x W hE hp
  obtain⟨hs,hlk⟩:=look_same m hc2 (zS _) x ho
  have hg:=hops.at_ i o (by simpa[zE hi]using ho) x W hE (knownR_of fun k hk=>by rw[zZ]at hk;exact hp k (hs k hk))
  rw[zZ]at hg
  have hg:=hg.use hc3 (fun d hd=>by rw[←putD_eq hc3,(putAll_size _ _ _ _).1];exact(m.one i d (lt_of_some ho) (by simp only[dstOf,ho,xB];exact hd)).2)
  rw[←putD_eq hc3]at hg
  rw[←wanted_of_look hlk,←exec_of_look (m.sel i o ho) hlk]at hg
  split
  ·rename_i hw;rw[if_pos hw]at hg;exact hg
  ·rename_i hw;rw[if_neg hw]at hg;exact hg.2
 ·intro x W hE h
  have hf:=hfin x W hE (knownR_of fun k hk=>h k (zM.1 hk))
  rw[←putD_eq hc3]at hf
  have e:(l++t).toArray.size-l.length=t.length:=by simp
  rw[e,wpOps_eq_wpList t l.length (fun j=>by simp[zF])]
  exact hf
theorem wp_region_relZ (Z:List PanicEntry→World→Prop) (refl :∀w,E w w) (trans :∀ {u v w:World},E u v→E v w→E u w) {l t:List Oper}{Q:Exit→Act→World→Prop}{id:Nat}{a:Act}{w:World}(ds:List (Option Tmp)) (D:List (List Nat)) (X:List Nat) (F:List (SPr E)) (hm:P.follows .mixedOrders=true)
  (hck:(monoOk (l++t).toArray a.tmps.size&&depsOk (l++t).toArray D&&((l++t).map (·.dst) == ds)&&tailOk (l++t).toArray l.length X)=true) (hops:OpsOkZ P Z ds a w.drew F D 0 l)
  (hz :∀(a':Act) ch W,a'.defers=a.defers→Z ch W→Q (.panic ch) a' W)
  (hfin :∀(x:Nat→Value) (W:World),E w.drew W→KnownR F x W (zN l.length)→wpList P (l++t).toArray Q t (putD ds x (zN l.length) a) W) :
  (Code.region id (l++t).toArray true).wp P Q a w:=wp_region_any hm (wpAny_relZ Z refl trans ds D X F hck hops hz hfin)
end
end Hach
namespace Go.Proofs.YtmiencglfhpmeaaGreatDoor
open Go.RowKit Hach
inductive Ex where
 | mk (op var ty n:Int) (b:Bool) (s:List UInt8) (l:List Ex)
namespace Ex
def op:Ex→Int|mk op _ _ _ _ _ _=>op
def var:Ex→Int|mk _ var _ _ _ _ _=>var
def ty:Ex→Int|mk _ _ ty _ _ _ _=>ty
def n:Ex→Int|mk _ _ _ n _ _ _=>n
def b:Ex→Bool|mk _ _ _ _ b _ _=>b
def s:Ex→List UInt8|mk _ _ _ _ _ s _=>s
def l:Ex→List Ex|mk _ _ _ _ _ _ l=>l
end Ex
mutual
def Ex.size:Ex→Nat
 | .mk _ _ _ _ _ _ l=>1+Ex.sizes l
def Ex.sizes:List Ex→Nat
 | []=>0
 | e::l=>e.size+Ex.sizes l
end
mutual
def Ex.ok:Ex→Prop
 | .mk op var ty n _ s l=>(-9223372036854775808≤op∧op≤9223372036854775807)∧(-9223372036854775808≤var∧var≤9223372036854775807)∧(-9223372036854775808≤ty∧ty≤9223372036854775807)∧(-9223372036854775808≤n∧n≤9223372036854775807)∧s.length<1048576∧Ex.oks l
def Ex.oks:List Ex→Prop
 | []=>True
 | e::l=>e.ok∧Ex.oks l
end
theorem Ex.size_eq (e:Ex):e.size=1+Ex.sizes e.l:=by cases e;rw[Ex.size];rfl
theorem Ex.size_pos (e:Ex):0<e.size:=by rw[e.size_eq];omega
theorem Ex.sizes_take {l:List Ex}{j:Nat}(h:j<l.length):Ex.sizes (l.take (j+1))=Ex.sizes (l.take j)+(l[j]).size:=by
 induction l generalizing j with
 | nil=>simp at h
 | cons e l ih=>
  cases j with
  | zero=>simp[Ex.sizes]
  | succ j=>
   simp only[zR,Ex.sizes,List.getElem_cons_succ]
   rw[ih (by simpa using h)];omega
theorem Ex.sizes_le {l:List Ex}(j:Nat):Ex.sizes (l.take j)≤Ex.sizes l:=by
 induction l generalizing j with
 | nil=>simp
 | cons e l ih=>
  cases j with
  | zero=>simp[Ex.sizes]
  | succ j=>simp only[zR,Ex.sizes];have:=ih j;omega
theorem Ex.len_le (l:List Ex):l.length≤Ex.sizes l:=by
 induction l with
 | nil=>simp
 | cons e l ih=>simp only[Ex.sizes,List.length_cons];have:=e.size_pos;omega
theorem Ex.size_mem {x:Ex}:∀ {l:List Ex},x∈l→x.size≤Ex.sizes l
 | e::l,h=>by
  simp only[Ex.sizes]
  rcases zH.1 h with rfl|h
  ·omega
  ·have:=Ex.size_mem h;omega
theorem Ex.kids_lt (e:Ex):Ex.sizes e.l<e.size:=by rw[e.size_eq];omega
def Ex.cells (e:Ex) (A:Option Addr) (c:Nat):List Value:=[.int .i64 e.op,.int .i64 e.var,.int .i64 e.ty,.int .i64 e.n,.bool e.b,.string ⟨e.s.toArray⟩,.slice A e.l.length c]
def ExL (w:World) (S:Nat→Prop):Nat→Option Addr→List Ex→Prop
 | 0,_,l=>l=[]
 | d+1,A,l=>l≠[] →∃b o,A=some ⟨b,o,none⟩∧S b ∧∀(j:Nat) (x:Ex),l[j]?=some x →∃A' c',ExL w S d A' x.l ∧∀(i:Nat) (v:Value),(x.cells A' c')[i]?=some v→w.cell? ⟨b,o+j*7+i,none⟩=some v
theorem ExL.keep {w w':World}{S:Nat→Prop}(hw :∀b,S b →∀o,w'.cell? ⟨b,o,none⟩=w.cell? ⟨b,o,none⟩) :∀ {d:Nat}{A:Option Addr}{l:List Ex},ExL w S d A l→ExL w' S d A l
 | 0,_,_,h=>h
 | d+1,A,l,h=>fun hl=>by
  obtain⟨b,o,e,hB,hx⟩:=h hl
  refine⟨b,o,e,hB,fun j x hj=>?_⟩
  obtain⟨A',c',h1,h2⟩:=hx j x hj
  exact⟨A',c',ExL.keep hw h1,fun i v hi=>(hw b hB _).trans (h2 i v hi)⟩
theorem ExL.more {w:World}{S S':Nat→Prop}(hS :∀b,S b→S' b) :∀ {d:Nat}{A:Option Addr}{l:List Ex},ExL w S d A l→ExL w S' d A l
 | 0,_,_,h=>h
 | d+1,A,l,h=>fun hl=>by
  obtain⟨b,o,e,hb,hx⟩:=h hl
  refine⟨b,o,e,hS b hb,fun j x hj=>?_⟩
  obtain⟨A',c',h1,h2⟩:=hx j x hj
  exact⟨A',c',ExL.more hS h1,h2⟩
theorem ExL.deep {w:World}{S:Nat→Prop}:∀ {d d':Nat}{A:Option Addr}{l:List Ex},d≤d'→ExL w S d A l→ExL w S d' A l
 | 0,0,_,_,_,h=>h
 | 0,d'+1,_,_,_,h=>fun hl=>absurd (show _=[] from h) hl
 | d+1,0,_,_,hd,_=>absurd hd (by omega)
 | d+1,d'+1,A,l,hd,h=>fun hl=>by
  obtain⟨b,o,e,hb,hx⟩:=h hl
  refine⟨b,o,e,hb,fun j x hj=>?_⟩
  obtain⟨A',c',h1,h2⟩:=hx j x hj
  exact⟨A',c',ExL.deep (by omega) h1,h2⟩
abbrev ExB (w:World) (B:Nat) (d:Nat) (A:Option Addr) (l:List Ex):Prop:=ExL w (fun b=>b<B) d A l
theorem ExL.below {w w':World}{B:Nat}{d:Nat}{A:Option Addr}{l:List Ex}(h:ExB w B d A l) (hb:Below B w w'):ExB w' B d A l:=h.keep fun b hB o=>hb.cell (p:=⟨b,o,none⟩) hB
theorem ExL.up {w:World}{B B':Nat}{d:Nat}{A:Option Addr}{l:List Ex}(h:ExB w B d A l) (hB:B≤B'):ExB w B' d A l:=h.more fun b hb=>zV hb hB
theorem ExL.ext {w w':World}{d:Nat}{A:Option Addr}{l:List Ex}(h:ExB w w.heap.size d A l) (hE:Ext w w'):ExB w' w'.heap.size d A l:=(h.below hE).up hE.sz
theorem ExL.nil (w:World) (S:Nat→Prop) (d:Nat) (A:Option Addr):ExL w S d A []:=by
 cases d with
 | zero=>exact rfl
 | succ d=>exact fun h=>absurd rfl h
theorem ExL.one {w:World}{S:Nat→Prop}{d:Nat}{A:Option Addr}{l:List Ex}(h:ExL w S d A l) {j:Nat}(hj:j<l.length) :∃b o A' c' d',d=d'+1∧A=some ⟨b,o,none⟩∧S b∧ExL w S d' A' (l[j]).l ∧
  w.cell? ⟨b,o+j*7,none⟩=some (.int .i64 (l[j]).op)∧w.cell? ⟨b,o+j*7+1,none⟩=some (.int .i64 (l[j]).var)∧w.cell? ⟨b,o+j*7+2,none⟩=some (.int .i64 (l[j]).ty)∧w.cell? ⟨b,o+j*7+3,none⟩=some (.int .i64 (l[j]).n) ∧
  w.cell? ⟨b,o+j*7+4,none⟩=some (.bool (l[j]).b)∧w.cell? ⟨b,o+j*7+5,none⟩=some (.string ⟨(l[j]).s.toArray⟩)∧w.cell? ⟨b,o+j*7+6,none⟩=some (.slice A' (l[j]).l.length c'):=by
 cases d with
 | zero=>rw[show l=[] from h]at hj;simp at hj
 | succ d=>
  obtain⟨b,o,e,hb,hx⟩:=h (fun e=>by rw[e]at hj;simp at hj)
  obtain⟨A',c',h1,h2⟩:=hx j l[j] (List.getElem?_eq_getElem hj)
  exact⟨b,o,A',c',d,rfl,e,hb,h1,h2 0 _ rfl,h2 1 _ rfl,h2 2 _ rfl,h2 3 _ rfl,h2 4 _ rfl,h2 5 _ rfl,h2 6 _ rfl⟩
structure One (w:World) (b o:Nat) (x:Ex) (A:Option Addr) (c:Nat):Prop where
 c0:w.cell? ⟨b,o,none⟩=some (.int .i64 x.op)
 c1:w.cell? ⟨b,o+1,none⟩=some (.int .i64 x.var)
 c2:w.cell? ⟨b,o+2,none⟩=some (.int .i64 x.ty)
 c3:w.cell? ⟨b,o+3,none⟩=some (.int .i64 x.n)
 c4:w.cell? ⟨b,o+4,none⟩=some (.bool x.b)
 c5:w.cell? ⟨b,o+5,none⟩=some (.string ⟨x.s.toArray⟩)
 c6:w.cell? ⟨b,o+6,none⟩=some (.slice A x.l.length c)
theorem One.ext {w w':World}{b o:Nat}{x:Ex}{A:Option Addr}{c:Nat}(h:One w b o x A c) (hb:b<w.heap.size) (hE:Ext w w'):One w' b o x A c:=
 ⟨(hE.old (p:=⟨b,o,none⟩) hb).trans h.c0,(hE.old (p:=⟨b,o+1,none⟩) hb).trans h.c1,(hE.old (p:=⟨b,o+2,none⟩) hb).trans h.c2,(hE.old (p:=⟨b,o+3,none⟩) hb).trans h.c3,(hE.old (p:=⟨b,o+4,none⟩) hb).trans h.c4,(hE.old (p:=⟨b,o+5,none⟩) hb).trans h.c5,(hE.old (p:=⟨b,o+6,none⟩) hb).trans h.c6⟩
structure Box (w:World) (b:Nat) (x:Ex) (A:Option Addr) (c:Nat):Prop where
 lt:b<w.heap.size
 c0:w.cell? ⟨b,0,none⟩=some (.int .i64 x.op)
 c1:w.cell? ⟨b,1,none⟩=some (.int .i64 x.var)
 c2:w.cell? ⟨b,2,none⟩=some (.int .i64 x.ty)
 c3:w.cell? ⟨b,3,none⟩=some (.int .i64 x.n)
 c4:w.cell? ⟨b,4,none⟩=some (.bool x.b)
 c5:w.cell? ⟨b,5,none⟩=some (.string ⟨x.s.toArray⟩)
 c6:w.cell? ⟨b,6,none⟩=some (.slice A x.l.length c)
theorem Box.new (w:World) (x:Ex) (A:Option Addr) (c:Nat) (T:TypeId):Box (w.alloc (.cells (x.cells A c).toArray T)) w.heap.size x A c:=by
 refine⟨by simp,?_,?_,?_,?_,?_,?_,?_⟩<;>rw[World.cell?_alloc_new]<;>rfl
theorem Box.ext {w w':World}{b:Nat}{x:Ex}{A:Option Addr}{c:Nat}(h:Box w b x A c) (hE:Ext w w'):Box w' b x A c:=
 ⟨zV h.lt hE.sz,(hE.old (p:=⟨b,0,none⟩) h.lt).trans h.c0,(hE.old (p:=⟨b,1,none⟩) h.lt).trans h.c1,(hE.old (p:=⟨b,2,none⟩) h.lt).trans h.c2,(hE.old (p:=⟨b,3,none⟩) h.lt).trans h.c3,(hE.old (p:=⟨b,4,none⟩) h.lt).trans h.c4,(hE.old (p:=⟨b,5,none⟩) h.lt).trans h.c5,(hE.old (p:=⟨b,6,none⟩) h.lt).trans h.c6⟩
theorem ExL.at_ {w:World}{S:Nat→Prop}{d:Nat}{A:Option Addr}{l:List Ex}(h:ExL w S d A l) {j:Nat}(hj:j<l.length) :∃b o A' c' d',d=d'+1∧A=some ⟨b,o,none⟩∧S b∧ExL w S d' A' (l[j]).l∧One w b (o+j*7) (l[j]) A' c':=by
 obtain⟨b,o,A',c',d',h1,h2,h3,h4,k0,k1,k2,k3,k4,k5,k6⟩:=h.one hj
 exact⟨b,o,A',c',d',h1,h2,h3,h4,⟨k0,k1,k2,k3,k4,k5,k6⟩⟩
end Go.Proofs.YtmiencglfhpmeaaGreatDoor
namespace Go.Proofs.YtmiencglfhpmeaaGreatDoor
open Go.RowKit Hach
set_option maxHeartbeats 1000000 in
theorem Size_any (d:Nat) :∀(e:Ex) (A:Option Addr) (c:Nat) (w:World),ExB w w.heap.size d A e.l→e.size<1099511627776 →
  Calls Tryz.prog 94 #[.agg (e.cells A c).toArray] w fun r w'=>r=.returned (.int .i64 (e.size:Nat))∧Ext w w':=by
 induction d using Nat.strongRecOn with
 | _ d ih=>
  intro e A c w hX hsz
  have hse:=e.size_eq
  have hll:=Ex.len_le e.l
  have hlen:e.l.length<1099511627776:=by omega
  have HSE:=xN hse
  unfold Ex.cells
  generalize e.l=L at *
  clear hse
  go_enter Tryz.func94,Tryz.ntmps94
  go_wp2_with fail
  go_loopw [3,9] (fun nv kv wr =>∃k:Nat,k≤L.length∧kv=.int .i64 k∧nv=.int .i64 (1+Ex.sizes (L.take k):Nat)∧Ext w wr) (fun _ kv _=>L.length-(intOf kv).toNat)
  case atStart=>exact⟨0,xA _,rfl,rfl,Ext.alloc _ _⟩
  case round=>
   obtain⟨k,hk,rfl,rfl,hE⟩:=hrel
   by_cases hlt:k<L.length
   ·obtain⟨b,o,A',c',d',hd,rfl,hb,hX',hO⟩:=hX.at_ hlt
    have ihx:=ih d' (by omega)
    obtain⟨r0,r1,r2,r3,r4,r5,r6⟩:=hO.ext hb hE
    have hts:=Ex.sizes_take hlt
    have hle:=Ex.sizes_le (l:=L) (k+1)
    have hls:=Ex.sizes_le (l:=L) k
    have hXr:=hX'.ext hE
    have hsm:Ex.sizes (L.take k)<1099511627776:=by have:=HSE.out;omega
    have hsx:(L[k]).size<1099511627776:=by have:=HSE.out;omega
    have hsum:1+Ex.sizes (L.take (k+1))<1099511627776:=by have:=HSE.out;omega
    have HTS:=xN hts
    have HTS2:=xN hts
    clear hO hts hX'
    generalize L[k]=x at *
    generalize Ex.sizes (L.take k)=S at *
    generalize Ex.sizes (L.take (k+1))=S' at hle hsum HTS
    go_wp2_with fail
    refine(ihx x A' c' _ (hXr.ext (Ext.alloc _ _)) hsx).mono ?_
    rintro e' w' ⟨rfl,hE'⟩
    have hsm2:S+x.size<1099511627776:=by have:=HTS.out;omega
    go_wp2_with fail
    go_roundw
    case rel=>exact⟨k+1,by omega,by go_num,by rw[HTS2.out];go_num,(hE.trans (Ext.alloc _ _)).trans hE'⟩
    case measure=>simp[intOf];omega
   ·obtain rfl:k=L.length:=by omega
    go_wp2_with fail
    go_ret
    exact⟨by rw[HSE.out,zQ (zS _)];rfl,hE⟩
set_option maxHeartbeats 1000000 in
theorem rSize_any (d:Nat) :∀(e:Ex) (A:Option Addr) (c:Nat) (w:World),ExB w w.heap.size d A e.l→e.size<1099511627776 →
  Calls Tryz.prog 122 #[.agg (e.cells A c).toArray] w fun r w'=>r=.returned (.int .i64 (e.size:Nat))∧Ext w w':=by
 induction d using Nat.strongRecOn with
 | _ d ih=>
  intro e A c w hX hsz
  have hse:=e.size_eq
  have hll:=Ex.len_le e.l
  have hlen:e.l.length<1099511627776:=by omega
  have HSE:=xN hse
  have hBx:=Box.new w e A c 47
  obtain⟨w0,hw0⟩ :∃w0,w.alloc (.cells (e.cells A c).toArray 47)=w0:=⟨_,rfl⟩
  have hE0:Ext w w0:=by rw[←hw0];exact Ext.alloc _ _
  rw[hw0]at hBx
  unfold Ex.cells at hw0 ⊢
  have hb6:=hBx.c6
  have hlt0:=hBx.lt
  generalize e.l=L at *
  clear hse
  go_enter Tryz.func122,Tryz.ntmps122
  go_wp2_with fail
  clear hw0
  go_loopw [3,4] (fun nv kv wr =>∃k:Nat,k≤L.length∧kv=.int .i64 k∧nv=.int .i64 (1+Ex.sizes (L.take k):Nat)∧Ext w0 wr) (fun _ kv _=>L.length-(intOf kv).toNat)
  case atStart=>exact⟨0,xA _,rfl,rfl,Ext.refl _⟩
  case round=>
   obtain⟨k,hk,rfl,rfl,hE⟩:=hrel
   have hb6r:=(hE.old (p:=⟨w.heap.size,6,none⟩) hlt0).trans hb6
   by_cases hlt:k<L.length
   ·obtain⟨b,o,A',c',d',hd,rfl,hb,hX',hO⟩:=hX.at_ hlt
    have ihx:=ih d' (by omega)
    obtain⟨r0,r1,r2,r3,r4,r5,r6⟩:=hO.ext hb (hE0.trans hE)
    have hts:=Ex.sizes_take hlt
    have hle:=Ex.sizes_le (l:=L) (k+1)
    have hls:=Ex.sizes_le (l:=L) k
    have hXr:=hX'.ext (hE0.trans hE)
    have hsm:Ex.sizes (L.take k)<1099511627776:=by have:=HSE.out;omega
    have hsx:(L[k]).size<1099511627776:=by have:=HSE.out;omega
    have hsum:1+Ex.sizes (L.take (k+1))<1099511627776:=by have:=HSE.out;omega
    have HTS:=xN hts
    have HTS2:=xN hts
    clear hO hts hX'
    generalize L[k]=x at *
    generalize Ex.sizes (L.take k)=S at *
    generalize Ex.sizes (L.take (k+1))=S' at hle hsum HTS
    go_wp2_with fail
    refine(ihx x A' c' _ hXr hsx).mono ?_
    rintro e' w' ⟨rfl,hE'⟩
    have hsm2:S+x.size<1099511627776:=by have:=HTS.out;omega
    go_wp2_with fail
    go_roundw
    case rel=>exact⟨k+1,by omega,by go_num,by rw[HTS2.out];go_num,hE.trans hE'⟩
    case measure=>simp[intOf];omega
   ·obtain rfl:k=L.length:=by omega
    go_wp2_with fail
    go_ret
    exact⟨by rw[HSE.out,zQ (zS _)];rfl,hE0.trans hE⟩
end Go.Proofs.YtmiencglfhpmeaaGreatDoor
