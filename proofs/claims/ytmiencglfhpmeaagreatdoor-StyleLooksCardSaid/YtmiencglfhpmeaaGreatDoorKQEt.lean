/- Rows of elements of one cell that a call makes, of any such type; a row whose variable lies in memory. -/
import Derived.Test.YtmiencglfhpmeaaGreatDoorKQXe
import Derived.Deep.CutBlock
import Derived.Deep.QuietTactic
import Derived.BigQuiet
open List renaming getD_cons_succ → zA, getD_cons_zero → zB, getElem_mem → zC, length_eq_one_iff → zD, length_eq_zero_iff → zE, length_map → zF, map_eq_nil_iff → zG, mem_append → zH, mem_map → zI, take_of_length_le → zJ, take_succ_eq_append_getElem → zK
open Nat renaming le_refl → zL, zero_le → zM
open Option renaming some.injEq → zN
open Array renaming getElem?_eq_some_iff → zO
open Bool renaming and_eq_true → zP, or_eq_true → zQ
open Go.Lib renaming hid → zR
set_option linter.unusedSimpArgs false
set_option linter.unusedVariables false
namespace Go.Proofs.YtmiencglfhpmeaaGreatDoor
open Go.RowKit Hach
structure Cty (S T:TypeId) (z:Value) (bytes:Nat):Prop where
 inf:(Tryz.prog.info? T).map (fun i=>(i.zero,i.size,i.bytes))=some (some z,1,bytes)
 und:Tryz.prog.underlying S=some (.slice T)
 one:z.cells.size=1
 small:bytes≤16
theorem ctyI:Cty 22 3 (.int .i64 0) 8:=⟨by kernel_rfl,Tryz.underlying22,rfl,by omega⟩
theorem ctyS:Cty 88 9 (.string ⟨#[]⟩) 16:=⟨by kernel_rfl,Tryz.underlying88,rfl,by omega⟩
theorem ctyA:Cty 143 20 .nilIface 16:=⟨by kernel_rfl,Tryz.underlying143,rfl,by omega⟩
def OwnC (T:TypeId) (w:World) (base:Nat) (v:Value) (us:List Value):Prop:=w.ownsRow base T 1 v us.length us
theorem OwnC.nil (T:TypeId) (w:World) (base:Nat):OwnC T w base (.slice none 0 0) []:=World.ownsRow_nil w base _ 1
theorem OwnC.keep {T:TypeId}{w w':World}{base:Nat}{v:Value}{us:List Value}{row:Option Nat}(h:OwnC T w base v us) (hg:w.grownBy w' row) (hne:v.ownBlock=none∨v.ownBlock≠row):OwnC T w' base v us:=World.ownsRow.kept h hg hne
theorem OwnC.ext {T:TypeId}{w w':World}{base:Nat}{v:Value}{us:List Value}(h:OwnC T w base v us) (hE:Ext w w'):OwnC T w' base v us:=h.keep (grown_of hE none) (by cases v.ownBlock<;>simp)
theorem OwnC.lt {T:TypeId}{w:World}{base:Nat}{v:Value}{us:List Value}(h:OwnC T w base v us) :∀g,v.ownBlock=some g→base≤g∧g<w.heap.size:=World.ownsRow.lt h
def RdC (w:World) (B:Nat) (A:Option Addr) (us:List Value):Prop:=us≠[] →∃b,A=some ⟨b,0,none⟩∧b<B ∧∀(j:Nat) (u:Value),us[j]?=some u→w.cell? ⟨b,j,none⟩=some u
theorem RdC.ext {w w':World}{B:Nat}{A:Option Addr}{us:List Value}(h:RdC w B A us) (hB:B≤w.heap.size) (hE:Ext w w'):RdC w' w'.heap.size A us:=fun hne=>by
 obtain⟨b,e,hb,hc⟩:=h hne
 exact⟨b,e,by have:=hE.sz;omega,fun j u hu=>(hE.old (p:=⟨b,j,none⟩) (by show b<_;omega)).trans (hc j u hu)⟩
theorem OwnC.form {T:TypeId}{w:World}{base:Nat}{v:Value}{us:List Value}(h:OwnC T w base v us) :∃A c,v=.slice A us.length c∧RdC w w.heap.size A us:=by
 rcases h.2 with⟨rfl,hn⟩|⟨g,cap,cur,rfl,hb,hg,r⟩
 ·exact⟨none,0,by rw[hn],fun h0=>absurd (zE.1 hn) h0⟩
 ·refine⟨_,_,rfl,fun _=>⟨g,rfl,(zO.1 hg).1,fun j u hj=>?_⟩⟩
  have:=World.ownsRow.cells h (g:=g) rfl j u hj
  simpa[Addr.add_lit]using this
theorem app_C {S T:TypeId}{z:Value}{bytes:Nat}(ct:Cty S T z bytes) {ops:Array Oper}{rest:List Oper}{o:Oper}{a:Act}{w:World}{Q:Exit→Act→World→Prop}(hgd:o.guard=none) (s x:Tmp)
  (ho:o.op=.call { callee:=.builtin .append,args:=#[.tmp s,.tmp x],argTypes:=#[S,S] }) (base:Nat) (v:Value) (us:List Value) (hs:a.eval (.tmp s)=v) (hown:OwnC T w base v us)
  (g:Nat) (t:Value) (hx:a.eval (.tmp x)=.slice (some ⟨g,0,none⟩) 1 1) (hc:w.cell? ⟨g,0,none⟩=some t) (h1:t.oneCell'=true) (hl:us.length<4294967296) (hbase:base≤w.heap.size)
  (h :∀v' w',OwnC T w' base v' (us++[t])→w.grownBy w' v.ownBlock→wpList Tryz.prog ops Q rest (a.put o.dst v') w'):wpList Tryz.prog ops Q (o::rest) a w:=by
 obtain⟨i0,hi,hz0,hz1,hz2⟩:=info_parts ct.inf
 have hsm:=ct.small
 refine wpList_append_own w hgd _ _ _ ho base T i0 z 1 bytes ct.und hi hz0 hz1 hz2 ct.one (by decide) v us.length us hs hown ⟨g,0,none⟩ 1 1 [t] hx rfl ?_ ?_ ?_ ?_ hbase ?_
 ·intro j u hu
  match j,hu with
  | 0,hu=>simp at hu;subst hu;simpa[Addr.add]using hc
  | j+1,hu=>simp at hu
 ·intro u hu;simp at hu;subst hu;exact h1
 ·simp only[maxLen];omega
 ·have:(us.length+1)*bytes≤(us.length+1)*16:=Nat.mul_le_mul_left _ hsm
  omega
 ·intro v' w' h2 h3 _
  refine h v' w' ?_ h3
  unfold OwnC
  simpa using h2
def VarAt (T:TypeId) (w:World) (b:Nat) (v:Value):Prop:=w.heap[b]?=some (.cells #[v] T (0,0))
theorem VarAt.lt {T:TypeId}{w:World}{b:Nat}{v:Value}(h:VarAt T w b v):b<w.heap.size:=(zO.1 h).1
theorem VarAt.ext {T:TypeId}{w w':World}{b:Nat}{v:Value}(h:VarAt T w b v) (hE:Ext w w'):VarAt T w' b v:=(hE.below.block b h.lt).trans h
theorem VarAt.own {T:TypeId}{w w':World}{b:Nat}{v:Value}{r:Option Nat}(h:VarAt T w b v) (hg:w.grownBy w' r) (hb:some b≠r):VarAt T w' b v:=(hg.block b h.lt hb).trans h
theorem VarAt.cell {T:TypeId}{w:World}{b:Nat}{v:Value}(h:VarAt T w b v):w.cell? ⟨b,0,none⟩=some v∧w.frozen? ⟨b,0,none⟩=false:=by
 have h':w.heap[b]?=_:=h
 constructor<;>simp[World.cell?,World.frozen?,h']
theorem VarAt.new (T:TypeId) (w:World) (v:Value):VarAt T (w.alloc (.cells #[v] T)) w.heap.size v:=Go.heap_alloc_new _ _
theorem VarAt.set {T:TypeId}{w:World}{b:Nat}{v:Value}(h:VarAt T w b v) (u:Value):VarAt T (w.setCell ⟨b,0,none⟩ u) b u:=by
 have h':w.heap[b]?=_:=h
 simp[VarAt,World.setCell,Array.getElem?_modify,h']
theorem vrow_step {S T:TypeId}{w wb:World}{L base:Nat}{v v1:Value}{us us1:List Value}(hv:VarAt S w L v) (hO:OwnC T w base v us) (hL:L<base) (hs:base≤w.heap.size) (hg:w.grownBy wb v.ownBlock) (hO1:OwnC T wb base v1 us1) :
  VarAt S (wb.setCell ⟨L,0,none⟩ v1) L v1∧OwnC T (wb.setCell ⟨L,0,none⟩ v1) base v1 us1∧base≤(wb.setCell ⟨L,0,none⟩ v1).heap.size∧Below L w (wb.setCell ⟨L,0,none⟩ v1):=by
 have hvb:some L≠v.ownBlock:=fun e=>by have:=(hO.lt L e.symm).1;omega
 have h1:VarAt S wb L v:=hv.own hg hvb
 have hz:=set_size wb ⟨L,0,none⟩ v1
 have hgs:=hg.size
 refine⟨h1.set v1,hO1.keep (grown_set wb L 0 v1) ?_,by omega,?_⟩
 ·cases hq:v1.ownBlock with
  | none=>exact .inl rfl
  | some g=>exact .inr fun e=>by have:=(hO1.lt g hq).1;simp only[zN]at e;omega
 ·exact Below.trans (below_row' hg (by omega) (fun g e=>by have:=(hO.lt g e).1;omega)) (below_row' (grown_set wb L 0 v1) (by omega) (fun g e=>by simp only[zN]at e;omega))
theorem ext_dn (w:World) (k:Nat):Ext w (w.drewN k):=⟨rfl,rfl,rfl,zL _,fun _ _=>rfl⟩
@[go_sem] theorem fld_ty (x:Int) (b c d:Value) (w:World):(Instr.field 44 (.agg #[.int .i64 x,b,c,d]) 0).run Tryz.prog w=.ok (.int .i64 x) w:=by kernel_rfl
end Go.Proofs.YtmiencglfhpmeaaGreatDoor
namespace Go.Proofs.YtmiencglfhpmeaaGreatDoor
open Go.RowKit Hach
inductive Rt:Ex→Int→Prop
 | con (x:Vl) (h:vlRight x=true):Rt (.mk 1 0 x.ty x.n x.b x.s []) x.ty
 | var (v:Int) (h:1≤v∧v≤9):Rt (.mk 2 v 0 0 false [] []) (varTy v)
 | not (a:Ex) (ha:Rt a 2):Rt (.mk 3 0 0 0 false [] [a]) 2
 | log (op:Int) (h:op=4∨op=5) (a b:Ex) (ha:Rt a 2) (hb:Rt b 2):Rt (.mk op 0 0 0 false [] [a,b]) 2
 | eq (t:Int) (a b:Ex) (ha:Rt a t) (hb:Rt b t):Rt (.mk 6 0 0 0 false [] [a,b]) 2
 | less (a b:Ex) (ha:Rt a 1) (hb:Rt b 1):Rt (.mk 7 0 0 0 false [] [a,b]) 2
 | sum (op:Int) (h:8≤op∧op≤12) (a b:Ex) (ha:Rt a 1) (hb:Rt b 1):Rt (.mk op 0 0 0 false [] [a,b]) 1
 | ite (t:Int) (a b c:Ex) (ha:Rt a 2) (hb:Rt b t) (hc:Rt c t):Rt (.mk 13 0 0 0 false [] [a,b,c]) t
theorem right_ty {x:Vl}(h:vlRight x=true):1≤x.ty∧x.ty≤3:=by
 unfold vlRight at h
 by_cases h1:x.ty=1
 ·omega
 ·by_cases h2:x.ty=2
  ·omega
  ·by_cases h3:x.ty=3
   ·omega
   ·simp[h1,h2,h3]at h
theorem varTy_pos {v:Int}(h:1≤v∧v≤9):1≤varTy v:=by
 unfold varTy;repeat' split
 all_goals omega
theorem Rt.pos {e:Ex}{t:Int}(h:Rt e t):1≤t∧t≤3:=by
 induction h with
 | con x h=>exact right_ty h
 | var v h=>exact⟨varTy_pos h,(varTy_bd v).2⟩
 | ite t a b c _ _ _ _ hb _=>exact hb
 | _=>omega
theorem vl_zero {ty n:Int}{b:Bool}{s:List UInt8}(h:Vl.eq ⟨ty,n,b,s⟩ ⟨0,0,false,[]⟩=true):ty=0∧n=0∧b=false∧s=[]:=by
 unfold Vl.eq valB at h
 simpa using h
theorem len2 {α:Type}{l:List α}(h:l.length=2) :∃a b,l=[a,b]:=by
 match l,h with
 | [a,b],_=>exact⟨a,b,rfl⟩
theorem len3 {α:Type}{l:List α}(h:l.length=3) :∃a b c,l=[a,b,c]:=by
 match l,h with
 | [a,b,c],_=>exact⟨a,b,c,rfl⟩
theorem Rt.of (m:Nat) :∀e:Ex,e.size≤m→e.typed≠0→Rt e e.typed:=by
 induction m with
 | zero=>intro e h;have:=e.size_pos;omega
 | succ m ih=>
  intro e hs h
  have hse:=e.size_eq
  obtain⟨op,var,ty,n,b,s,l⟩:=e
  rw[Ex.typed]at h ⊢
  simp only[Ex.l]at hse
  by_cases hg:good op var ⟨ty,n,b,s⟩ l.length=true
  ·rw[if_pos hg]at h ⊢
   by_cases hm:(0:Int)∈Ex.typeds l
   ·rw[if_pos hm]at h;exact absurd rfl h
   ·rw[if_neg hm]at h ⊢
    have hkt :∀x∈l,Rt x x.typed:=fun x hx=>ih x (by have:=Ex.size_mem hx;omega) fun e0=>hm (by rw[Ex.typeds_map];exact zI.2 ⟨x,hx,e0⟩)
    obtain⟨hlen,_⟩:=good_len hg
    have hv:op=1∨(ty=0∧n=0∧b=false∧s=[]):=by
     unfold good at hg
     simp only[zP,zQ,decide_eq_true_eq]at hg
     rcases hg.1.2 with h|h
     ·exact .inl h
     ·exact .inr (vl_zero h)
    have hvr:op=2∨var=0:=by
     unfold good at hg
     simp only[zP,zQ,decide_eq_true_eq]at hg
     exact hg.2
    have hop:1≤op∧op≤13:=by unfold manyOf at hlen;omega
    have l0:manyOf op=0→l=[]:=fun e=>zE.1 (by omega)
    have l1:manyOf op=1 →∃a,l=[a]:=fun e=>zD.1 (by omega)
    have l2:manyOf op=2 →∃a b,l=[a,b]:=fun e=>len2 (by omega)
    have l3:manyOf op=3 →∃a b c,l=[a,b,c]:=fun e=>len3 (by omega)
    clear hs ih hse hg hlen
    by_cases h1:op=1
    ·subst h1
     obtain rfl:=l0 rfl
     obtain rfl:var=0:=hvr.resolve_left (by omega)
     simp only[rule,if_pos]at h ⊢
     by_cases hr:vlRight ⟨ty,n,b,s⟩=true
     ·rw[if_pos hr];exact Rt.con ⟨ty,n,b,s⟩ hr
     ·rw[if_neg hr]at h;exact absurd rfl h
    ·obtain⟨rfl,rfl,rfl,rfl⟩:=hv.resolve_left h1
     by_cases h2:op=2
     ·subst h2
      obtain rfl:=l0 rfl
      simp only[rule,if_pos,if_neg,h1]at h ⊢
      refine Rt.var var ?_
      by_cases hb:1≤var∧var≤9
      ·exact hb
      ·have h0:varTy var=0:=by unfold varTy;rw[if_neg (by omega),if_neg (by omega),if_neg (by omega)]
       exact absurd (by rw[h0];simp) h
     ·obtain rfl:=hvr.resolve_left h2
      by_cases h3:op=3
      ·subst h3
       obtain⟨a,rfl⟩:=l1 rfl
       have ha:=hkt a (by simp)
       simp only[rule,Ex.typeds,zB,if_neg h1,if_neg h2,if_pos]at h ⊢
       by_cases q:a.typed=2
       ·rw[if_pos q];rw[q]at ha;exact Rt.not a ha
       ·rw[if_neg q]at h;exact absurd rfl h
      ·by_cases h4:op=4∨op=5
       ·obtain⟨a,b,rfl⟩:=l2 (by rcases h4 with rfl|rfl<;>rfl)
        have ha:=hkt a (by simp)
        have hb:=hkt b (by simp)
        simp only[rule,Ex.typeds,zB,zA,if_neg h1,if_neg h2,if_neg h3,if_pos h4]at h ⊢
        by_cases q:a.typed=2∧b.typed=2
        ·rw[if_pos q];rw[q.1]at ha;rw[q.2]at hb;exact Rt.log op h4 a b ha hb
        ·rw[if_neg q]at h;exact absurd rfl h
       ·by_cases h6:op=6
        ·subst h6
         obtain⟨a,b,rfl⟩:=l2 rfl
         have ha:=hkt a (by simp)
         have hb:=hkt b (by simp)
         simp only[rule,Ex.typeds,zB,zA,if_neg h1,if_neg h2,if_neg h3,if_neg h4,if_pos]at h ⊢
         by_cases q:a.typed=b.typed
         ·rw[if_pos q];rw[q]at ha;exact Rt.eq _ a b ha hb
         ·rw[if_neg q]at h;exact absurd rfl h
        ·by_cases h7:op=7
         ·subst h7
          obtain⟨a,b,rfl⟩:=l2 rfl
          have ha:=hkt a (by simp)
          have hb:=hkt b (by simp)
          simp only[rule,Ex.typeds,zB,zA,if_neg h1,if_neg h2,if_neg h3,if_neg h4,if_neg h6,if_pos]at h ⊢
          by_cases q:a.typed=1∧b.typed=1
          ·rw[if_pos q];rw[q.1]at ha;rw[q.2]at hb;exact Rt.less a b ha hb
          ·rw[if_neg q]at h;exact absurd rfl h
         ·by_cases h13:op=13
          ·subst h13
           obtain⟨a,b,c,rfl⟩:=l3 rfl
           have ha:=hkt a (by simp)
           have hb:=hkt b (by simp)
           have hc:=hkt c (by simp)
           simp only[rule,Ex.typeds,zB,zA,if_neg h1,if_neg h2,if_neg h3,if_neg h4,if_neg h6,if_neg h7,if_pos]at h ⊢
           by_cases q:a.typed=2∧b.typed=c.typed
           ·rw[if_pos q];rw[q.1]at ha;rw[←q.2]at hc;exact Rt.ite _ a b c ha hb hc
           ·rw[if_neg q]at h;exact absurd rfl h
          ·have h8:8≤op∧op≤12:=by omega
           obtain⟨a,b,rfl⟩:=l2 (by unfold manyOf;rw[if_neg (by omega),if_neg (by omega),if_pos (by omega)])
           have ha:=hkt a (by simp)
           have hb:=hkt b (by simp)
           simp only[rule,Ex.typeds,zB,zA,if_neg h1,if_neg h2,if_neg h3,if_neg h4,if_neg h6,if_neg h7,if_neg h13]at h ⊢
           by_cases q:a.typed=1∧b.typed=1
           ·rw[if_pos q];rw[q.1]at ha;rw[q.2]at hb;exact Rt.sum op h8 a b ha hb
           ·rw[if_neg q]at h;exact absurd rfl h
  ·rw[if_neg hg]at h;exact absurd rfl h
theorem Rt.typed {e:Ex}{t:Int}(h:Rt e t):e.typed=t:=by
 induction h with
 | con x h=>rw[Ex.typed];simp[good,manyOf,Ex.typeds,rule,h]
 | var v h=>rw[Ex.typed];simp[good,manyOf,Ex.typeds,rule,Vl.eq,valB]
 | not a ha iha=>rw[Ex.typed];simp[good,manyOf,Ex.typeds,rule,Vl.eq,valB,iha]
 | log op h a b ha hb iha ihb=>rw[Ex.typed];rcases h with rfl|rfl<;>simp[good,manyOf,Ex.typeds,rule,Vl.eq,valB,iha,ihb]
 | eq t a b ha hb iha ihb=>
  have:=ha.pos
  have h0 :¬(0=t):=by omega
  rw[Ex.typed];simp[good,manyOf,Ex.typeds,rule,Vl.eq,valB,iha,ihb,h0]
 | less a b ha hb iha ihb=>rw[Ex.typed];simp[good,manyOf,Ex.typeds,rule,Vl.eq,valB,iha,ihb]
 | sum op h a b ha hb iha ihb=>
  rw[Ex.typed]
  have e1 :¬op=1:=by omega
  have e2 :¬op=2:=by omega
  have e3 :¬op=3:=by omega
  have e4 :¬op=4:=by omega
  have e5 :¬op=5:=by omega
  have e6 :¬op=6:=by omega
  have e7 :¬op=7:=by omega
  have e13 :¬op=13:=by omega
  have e14:4≤op∧op≤12:=by omega
  simp[good,manyOf,Ex.typeds,rule,Vl.eq,valB,iha,ihb,e1,e2,e3,e4,e5,e6,e7,e13,e14]
 | ite t a b c ha hb hc iha ihb ihc=>
  have:=hb.pos
  have h0 :¬(0=t):=by omega
  rw[Ex.typed];simp[good,manyOf,Ex.typeds,rule,Vl.eq,valB,iha,ihb,ihc,h0]
theorem rt_of {e:Ex}(h:e.typed≠0):Rt e e.typed:=Rt.of e.size e (zL _) h
def Va.isB:Va→Bool
 | .bool b=>b
 | _=>false
def Va.isN:Va→Int
 | .int n=>n
 | _=>0
def vrule (op var:Int) (x:Vl) (env:En) (vs:List Va):Va:=
 if op=1 then unw x
 else if op=2 then env.var var
 else if op=3 then .bool (!(vs.getD 0 .nil).isB)
 else if op=4 then .bool ((vs.getD 0 .nil).isB&&(vs.getD 1 .nil).isB)
 else if op=5 then .bool ((vs.getD 0 .nil).isB||(vs.getD 1 .nil).isB)
 else if op=6 then .bool (Vl.eq (vs.getD 0 .nil).vl (vs.getD 1 .nil).vl)
 else if op=7 then .bool (decide ((vs.getD 0 .nil).isN<(vs.getD 1 .nil).isN))
 else if op=8 then .int (lim ((vs.getD 0 .nil).isN+(vs.getD 1 .nil).isN))
 else if op=9 then .int (lim ((vs.getD 0 .nil).isN-(vs.getD 1 .nil).isN))
 else if op=10 then .int (lim ((vs.getD 0 .nil).isN*(vs.getD 1 .nil).isN))
 else if op=11 then .int (min (vs.getD 0 .nil).isN (vs.getD 1 .nil).isN)
 else if op=12 then .int (max (vs.getD 0 .nil).isN (vs.getD 1 .nil).isN)
 else if (vs.getD 0 .nil).isB then vs.getD 1 .nil else vs.getD 2 .nil
mutual
def Ex.val (x:En):Ex→Va
 | .mk op var ty n b s l=>vrule op var ⟨ty,n,b,s⟩ x (Ex.vals x l)
def Ex.vals (x:En):List Ex→List Va
 | []=>[]
 | e::l=>e.val x::Ex.vals x l
end
inductive Has (B:Nat):Va→Int→Prop
 | int (n:Int) (h1 : -1073741824≤n) (h2:n≤1073741824):Has B (.int n) 1
 | bool (b:Bool):Has B (.bool b) 2
 | txt (s:List UInt8) (h:s.length≤B):Has B (.txt s) 3
def En.fits (x:En) (B:Nat):Prop:=x.cls.length≤B∧x.name.length≤B∧24≤B
theorem Has.i {B:Nat}{v:Va}(h:Has B v 1) :∃n,v=.int n ∧ -1073741824≤n∧n≤1073741824:=by cases h with|int n h1 h2=>exact⟨n,rfl,h1,h2⟩
theorem Has.b {B:Nat}{v:Va}(h:Has B v 2) :∃b,v=.bool b:=by cases h with|bool b=>exact⟨b,rfl⟩
theorem unw_has {B:Nat}(hB:24≤B) {x:Vl}(h:vlRight x=true):Has B (unw x) x.ty:=by
 obtain⟨ty,n,b,s⟩:=x
 unfold unw
 rw[if_pos h]
 unfold vlRight at h
 by_cases h1:ty=1
 ·subst h1
  simp at h
  exact Has.int n h.1.1.1 h.1.1.2
 ·by_cases h2:ty=2
  ·subst h2
   exact Has.bool b
  ·by_cases h3:ty=3
   ·subst h3
    simp at h
    exact Has.txt s (by omega)
   ·simp[h1,h2,h3]at h
theorem var_has {B:Nat}(x:En) (hx:x.fits B) {v:Int}(h:1≤v∧v≤9):Has B (x.var v) (varTy v):=by
 rcases vars_all h with rfl|rfl|rfl|rfl|rfl|rfl|rfl|rfl|rfl
 all_goals simp only[En.var,varTy,Int.reduceEq,if_true,if_false,or_true,true_or,or_false,false_or,Int.reduceLE,and_true,and_self]
 all_goals first|exact Has.int _ (lim_bd _).1 (lim_bd _).2|exact Has.bool _|exact Has.txt _ hx.1|exact Has.txt _ hx.2.1
theorem val_has {B:Nat}(x:En) (hx:x.fits B) {e:Ex}{t:Int}(h:Rt e t):Has B (e.val x) t:=by
 induction h with
 | con y h=>
  rw[Ex.val];simp only[vrule,if_pos]
  exact unw_has hx.2.2 h
 | var v h=>
  rw[Ex.val]
  simpa[vrule]using var_has x hx h
 | not a ha iha=>rw[Ex.val];exact Has.bool _
 | log op h a b ha hb iha ihb=>rw[Ex.val];rcases h with rfl|rfl<;>exact Has.bool _
 | eq t a b ha hb iha ihb=>rw[Ex.val];exact Has.bool _
 | less a b ha hb iha ihb=>rw[Ex.val];exact Has.bool _
 | sum op h a b ha hb iha ihb=>
  rw[Ex.val]
  obtain⟨n,hn,n1,n2⟩:=iha.i
  obtain⟨m,hm,m1,m2⟩:=ihb.i
  simp only[Ex.vals,hn,hm]
  rcases(by omega:op=8∨op=9∨op=10∨op=11∨op=12) with rfl|rfl|rfl|rfl|rfl
  ·exact Has.int _ (lim_bd _).1 (lim_bd _).2
  ·exact Has.int _ (lim_bd _).1 (lim_bd _).2
  ·exact Has.int _ (lim_bd _).1 (lim_bd _).2
  ·exact Has.int (min n m) (by omega) (by omega)
  ·exact Has.int (max n m) (by omega) (by omega)
 | ite t a b c ha hb hc iha ihb ihc=>
  rw[Ex.val]
  obtain⟨q,hq⟩:=iha.b
  simp only[Ex.vals,hq]
  cases q
  ·exact ihc
  ·exact ihb
theorem unw_vl {x:Vl}(h:vlRight x=true):(unw x).vl=x:=by
 have h1:=unw_pre x
 by_cases hq:(pre x).vl.eq x=true
 ·rw[if_pos hq]at h1
  rw[h1]
  unfold Vl.eq valB at hq
  simp only[decide_eq_true_eq]at hq
  obtain⟨a,b,c,d⟩:=hq
  cases hp:(pre x).vl
  cases x
  simp_all
 ·rw[if_neg hq]at h1
  unfold unw at h1
  rw[if_pos h]at h1
  exfalso
  split at h1
  ·cases h1
  ·split at h1<;>cases h1
end Go.Proofs.YtmiencglfhpmeaaGreatDoor
namespace Go.Proofs.YtmiencglfhpmeaaGreatDoor
open Go.RowKit Hach
theorem allf_any (u t:Int) (g:Nat) (w:World) (hc:w.cell? ⟨g,0,none⟩=some (.int .i64 t)) :
  Calls Tryz.prog 118 #[.int .i64 u,.pointer (some ⟨g,0,none⟩)] w fun e w'=>e=.returned (.bool (u != t))∧w'=w:=by
 go_enter Tryz.func118,Tryz.ntmps118
 go_wp2_with fail
 go_ret
 exact⟨rfl,rfl⟩
def iv (n:Int):Value:=.int .i64 n
def IdxP (ts:List Int) (t:Int) (w:World) (e:Ending) (w':World):Prop :=∃i:Int,e=.returned (.int .i64 i)∧decide (0≤i)=ts.any (· != t)∧w'=w
set_option maxHeartbeats 1000000 in
theorem idxI_any (ts:List Int) (t:Int) (A:Option Addr) (c g:Nat) (w:World) (hR:RdC w w.heap.size A (ts.map iv)) (hlen:ts.length<4294967296) (hc:w.cell? ⟨g,0,none⟩=some (.int .i64 t)) :
  Calls Tryz.prog 145 #[.slice A ts.length c,.func (.func 118) #[] #[.pointer (some ⟨g,0,none⟩)]] w (IdxP ts t w):=by
 go_enter Tryz.func145,Tryz.ntmps145
 go_wp2_with fail
 go_loop [8] (fun kv =>∃k:Nat,k≤ts.length∧kv=.int .i64 k∧Hid (∀x∈ts.take k,x=t)) (fun kv=>ts.length-(intOf kv).toNat)
 case atStart=>exact⟨0,zM _,rfl,zR (fun x hx=>by simp at hx)⟩
 case round=>
  obtain⟨k,hk,rfl,HA⟩:=hrel
  by_cases hlt:k<ts.length
  ·obtain⟨b,rfl,hb,hcell⟩:=hR (by intro e;rw[zG]at e;subst e;simp at hlt)
   have hck:=hcell k (.int .i64 ts[k]) (by rw[List.getElem?_map,List.getElem?_eq_getElem hlt];rfl)
   have hall:ts[k]=t →∀x∈ts.take (k+1),x=t:=fun he x hx=>by
    rw[zK hlt,zH]at hx
    rcases hx with hx|hx
    ·exact HA.out x hx
    ·simp at hx;rw[hx,he]
   have hany:ts[k]≠t→ts.any (· != t)=true:=fun he=>List.any_eq_true.2 ⟨ts[k],zC hlt,by simpa using he⟩
   have HALL:=zR hall
   have HANY:=zR hany
   have tk:decide (k<ts.length)=true:=by simp;omega
   clear hall hany hcell
   generalize hx:ts[k]=x at *
   clear hx
   by_cases he:x=t
   ·have te:(x != t)=false:=by simpa using he
    have HN:=zR (HALL.out he)
    clear he
    go_wp2_with fail
    refine(allf_any x t g _ hc).mono ?_
    rintro e w' ⟨rfl,rfl⟩
    go_wp2_with fail
    go_round
    case rel=>exact⟨k+1,by omega,by go_num,HN⟩
    case measure=>simp[intOf];omega
   ·have te:(x != t)=true:=by simpa using he
    have HN:=zR (HANY.out he)
    clear he
    go_wp2_with fail
    refine(allf_any x t g _ hc).mono ?_
    rintro e w' ⟨rfl,rfl⟩
    go_wp2_with fail
    go_ret
    exact⟨k,rfl,by rw[HN.out];simp,rfl⟩
  ·have hn:ts.any (· != t)=false:=by
    rw[List.any_eq_false]
    intro x hx
    rw[zJ (by omega)]at HA
    simp[HA.out x hx]
   have HN:=zR hn
   have tk:decide (k<ts.length)=false:=by simp;omega
   clear hn
   go_wp2_with fail
   go_ret
   exact⟨-1,rfl,by rw[HN.out];rfl,rfl⟩
theorem conI_any (ts:List Int) (t:Int) (A:Option Addr) (c g:Nat) (w:World) (hR:RdC w w.heap.size A (ts.map iv)) (hlen:ts.length<4294967296) (hc:w.cell? ⟨g,0,none⟩=some (.int .i64 t)) :
  Calls Tryz.prog 117 #[.slice A ts.length c,.func (.func 118) #[] #[.pointer (some ⟨g,0,none⟩)]] w fun e w'=>e=.returned (.bool (ts.any (· != t)))∧w'=w:=by
 have HI:=zR (idxI_any ts t A c g w hR hlen hc)
 clear hR
 go_enter Tryz.func117,Tryz.ntmps117
 go_wp2_with fail
 refine HI.out.mono ?_
 rintro e w' ⟨i,rfl,hi,rfl⟩
 have HH:=zR hi
 clear hi
 go_wp2_with fail
 go_ret
 exact⟨by rw[HH.out];rfl,rfl⟩
theorem all_not (ts:List Int) (t:Int):(!ts.any (· != t))=ts.all (· == t):=by
 induction ts with
 | nil=>rfl
 | cons a ts ih=>rw[List.any_cons,List.all_cons,Bool.not_or,ih];cases hh:(a == t)<;>simp[bne,hh]
theorem allC_any (ts:List Int) (t:Int) (A:Option Addr) (c L:Nat) (w:World) (hL:L<w.heap.size) (hv:w.cell? ⟨L,0,none⟩=some (.slice A ts.length c)) (hR:RdC w w.heap.size A (ts.map iv)) (hlen:ts.length<4294967296) :
  Calls Tryz.prog 116 #[.int .i64 t,.pointer (some ⟨L,0,none⟩)] w fun e w'=>e=.returned (.bool (ts.all (· == t)))∧Ext w w':=by
 have HC:=zR (fun W (h:Ext w W) (hc:W.cell? ⟨w.heap.size,0,none⟩=some (.int .i64 t))=>conI_any ts t A c w.heap.size W (hR.ext (zL _) h) hlen hc)
 have HN:=zR (all_not ts t)
 clear hR
 go_enter Tryz.func116,Tryz.ntmps116
 go_wp2_with fail
 refine(HC.out _ (Ext.alloc _ _) (by rw[World.cell?_alloc_new];rfl)).mono ?_
 rintro e w' ⟨rfl,rfl⟩
 go_wp2_with fail
 go_ret
 exact⟨by rw[HN.out];rfl,Ext.alloc _ _⟩
def En.zero:En:=⟨0,[],[],0,0,false,0,0,0⟩
theorem zero_ty (v:Int):(En.zero.var v).vl.ty=varTy v:=by
 by_cases h:1≤v∧v≤9
 ·rcases vars_all h with rfl|rfl|rfl|rfl|rfl|rfl|rfl|rfl|rfl<;>rfl
 ·unfold En.var varTy
  rw[if_neg (by omega),if_neg (by omega),if_neg (by omega),if_neg (by omega),if_neg (by omega),if_neg (by omega),if_neg (by omega),if_neg (by omega),if_neg (by omega),if_neg (by omega),if_neg (by omega),if_neg (by omega)]
  rfl
theorem unw_ty (x:Vl):(unw x).vl.ty=if vlRight x=true then x.ty else 0:=by
 by_cases h:vlRight x=true
 ·rw[if_pos h,unw_vl h]
 ·rw[if_neg h];unfold unw;rw[if_neg h];rfl
end Go.Proofs.YtmiencglfhpmeaaGreatDoor
namespace Go.Proofs.YtmiencglfhpmeaaGreatDoor
open Go.RowKit Hach
theorem rule_log {op var:Int}{x:Vl}{ts:List Int}(h:op=3∧ts.length=1∨(op=4∨op=5)∧ts.length=2):rule op var x ts=if ts.all (· == 2)=true then 2 else 0:=by
 rcases h with⟨rfl,h⟩|⟨rfl|rfl,h⟩
 ·obtain⟨a,rfl⟩:=zD.1 h
  simp[rule]
 all_goals
  obtain⟨a,b,rfl⟩:=len2 h
  simp[rule]
theorem rule_less {var:Int}{x:Vl}{ts:List Int}(h:ts.length=2):rule 7 var x ts=if ts.all (· == 1)=true then 2 else 0:=by
 obtain⟨a,b,rfl⟩:=len2 h
 simp[rule]
theorem rule_sum {op var:Int}{x:Vl}{ts:List Int}(ho:8≤op∧op≤12) (h:ts.length=2):rule op var x ts=if ts.all (· == 1)=true then 1 else 0:=by
 obtain⟨a,b,rfl⟩:=len2 h
 unfold rule
 rw[if_neg (by omega),if_neg (by omega),if_neg (by omega),if_neg (by omega),if_neg (by omega),if_neg (by omega),if_neg (by omega)]
 simp
set_option maxRecDepth 100000 in
set_option maxHeartbeats 8000000 in
theorem typed_any (d:Nat) :∀(e:Ex) (A:Option Addr) (c:Nat) (w:World),ExB w w.heap.size d A e.l→e.size<1099511627776→e.ok →
  Calls Tryz.prog 95 #[.agg (e.cells A c).toArray] w fun r w'=>r=.returned (.int .i64 e.typed)∧Ext w w':=by
 induction d using Nat.strongRecOn with
 | _ d ih=>
  intro e A c w hX hsz hok
  have HOK:=zR hok
  have HSZ:=zR hsz
  have hse:=e.size_eq
  have hll:=Ex.len_le e.l
  have hlen:e.l.length<1099511627776:=by omega
  have HTY:=zR e.typed_eq
  have HSE:=zR hse
  have hBx:=Box.new w e A c 47
  obtain⟨w0,hw0⟩ :∃w0,w.alloc (.cells (e.cells A c).toArray 47)=w0:=⟨_,rfl⟩
  have hE0:Ext w w0:=by rw[←hw0];exact Ext.alloc _ _
  rw[hw0]at hBx
  have HW:=zR hw0
  have hlt0:=hBx.lt
  have HBx:=zR hBx
  have y0:=hBx.c0
  have y1:=hBx.c1
  have y2:=hBx.c2
  have y3:=hBx.c3
  have y4:=hBx.c4
  have y5:=hBx.c5
  have y6:=hBx.c6
  unfold Ex.cells
  unfold Ex.cells at HW
  clear hse hw0 hBx hok hsz
  go_enter Tryz.func95,Tryz.ntmps95
  go_upto_region 1 with fail
  rw[HW.out]
  go_wp2_with fail
  refine(class_any e.op _).mono ?_
  rintro r w' ⟨rfl,rfl⟩
  obtain⟨K,hK⟩ :∃K,kindOf e.op=K:=⟨_,rfl⟩
  rw[hK]
  have HK:=zR hK
  clear hK
  go_upto_region 2 with fail
  go_cut [41] from 10 (fun gv wx=>gv=.bool (!good e.op e.var e.vl e.l.length)∧wx=w')
  case first=>
   have hv :∀w,(binOp .neq 44 (.agg #[.int .i64 e.ty,.int .i64 e.n,.bool e.b,.string ⟨e.s.toArray⟩]) (.agg #[.int .i64 0,.int .i64 0,.bool false,.string ⟨([]:List UInt8).toArray⟩])).run Tryz.prog w=.ok (.bool (!(valB e.ty e.n e.b e.s 0 0 false []))) w:=fun w=>val_neq ..
   by_cases h1:manyOf e.op=(e.l.length:Int)
   ·have t1:(manyOf e.op != (e.l.length:Int))=false:=by simpa using h1
    by_cases h2:e.op=1
    ·have t2:(e.op != 1)=false:=by simpa using h2
     have t4:(e.op != 2)=true:=by simp[h2]
     by_cases h5:e.var=0
     ·have t5:(e.var != 0)=false:=by simpa using h5
      have HG:Hid (good e.op e.var e.vl e.l.length=true):=zR (by unfold good;rw[decide_eq_true h1,decide_eq_true h2,decide_eq_true h5];simp)
      clear h1 h2 h5
      go_wp2_with fail
      go_meet
      case rel=>exact⟨by rw[HG.out];rfl,rfl⟩
     ·have t5:(e.var != 0)=true:=by simpa using h5
      have HG:Hid (good e.op e.var e.vl e.l.length=false):=zR (by unfold good;rw[decide_eq_false h5,decide_eq_false (show ¬e.op=2 by omega)];simp)
      clear h1 h2 h5
      go_wp2_with fail
      go_meet
      case rel=>exact⟨by rw[HG.out];rfl,rfl⟩
    ·have t2:(e.op != 1)=true:=by simpa using h2
     have hvl:Vl.eq e.vl ⟨0,0,false,[]⟩=valB e.ty e.n e.b e.s 0 0 false []:=rfl
     cases hvb:valB e.ty e.n e.b e.s 0 0 false [] with
     | false=>
      rw[hvb]at hv
      have HG:Hid (good e.op e.var e.vl e.l.length=false):=zR (by unfold good;rw[hvl,hvb,decide_eq_false h2];simp)
      clear h1 h2 hvl hvb
      go_wp2_with fail
      go_meet
      case rel=>exact⟨by rw[HG.out];rfl,rfl⟩
     | true=>
      rw[hvb]at hv
      by_cases h4:e.op=2
      ·have t4:(e.op != 2)=false:=by simpa using h4
       have HG:Hid (good e.op e.var e.vl e.l.length=true):=zR (by unfold good;rw[hvl,hvb,decide_eq_true h1,decide_eq_true h4];simp)
       clear h1 h2 h4 hvl hvb
       go_wp2_with fail
       go_meet
       case rel=>exact⟨by rw[HG.out];rfl,rfl⟩
      ·have t4:(e.op != 2)=true:=by simpa using h4
       by_cases h5:e.var=0
       ·have t5:(e.var != 0)=false:=by simpa using h5
        have HG:Hid (good e.op e.var e.vl e.l.length=true):=zR (by unfold good;rw[hvl,hvb,decide_eq_true h1,decide_eq_true h5];simp)
        clear h1 h2 h4 h5 hvl hvb
        go_wp2_with fail
        go_meet
        case rel=>exact⟨by rw[HG.out];rfl,rfl⟩
       ·have t5:(e.var != 0)=true:=by simpa using h5
        have HG:Hid (good e.op e.var e.vl e.l.length=false):=zR (by unfold good;rw[decide_eq_false h4,decide_eq_false h5];simp)
        clear h1 h2 h4 h5 hvl hvb
        go_wp2_with fail
        go_meet
        case rel=>exact⟨by rw[HG.out];rfl,rfl⟩
   ·have t1:(manyOf e.op != (e.l.length:Int))=true:=by simpa using h1
    have HG:Hid (good e.op e.var e.vl e.l.length=false):=zR (by simp[good,h1])
    clear h1
    go_wp2_with fail
    go_meet
    case rel=>exact⟨by rw[HG.out];rfl,rfl⟩
  case rest=>
   obtain⟨rfl,rfl⟩:=hcut
   cases hg:good e.op e.var e.vl e.l.length with
   | false=>
    have HT:Hid (e.typed=0):=zR (by rw[HTY.out,hg];rfl)
    clear hg ih hX
    rw[Bool.not_false]
    go_wp2_with fail
    go_ret
    exact⟨by rw[HT.out];rfl,hE0⟩
   | true=>
    have HG:=zR hg
    clear hg
    rw[Bool.not_true]
    go_wp2_with fail
    go_loopw [45] (fun kv wr =>∃k:Nat,k≤e.l.length∧kv=.int .i64 k∧(∃v,VarAt 22 wr wc.heap.size v∧OwnC 3 wr (wc.heap.size+1) v (((Ex.typeds e.l).take k).map iv))∧Hid (¬(0:Int)∈(Ex.typeds e.l).take k)∧Ext wc wr∧wc.heap.size+1≤wr.heap.size) (fun kv _=>e.l.length-(intOf kv).toNat)
    case atStart=>exact⟨0,zM _,rfl,⟨_,VarAt.new _ _ _,OwnC.nil _ _ _⟩,zR (by simp),Ext.alloc _ _,by simp⟩
    case round=>
     obtain⟨k,hk,rfl,⟨v,hV,hO⟩,HNZ,hE,hzs⟩:=hrel
     have htl:(Ex.typeds e.l).length=e.l.length:=by rw[Ex.typeds_map];simp
     by_cases hlt:k<e.l.length
     ·obtain⟨b,o,A',c',d',hd,rfl,hb,hX',hOne⟩:=hX.at_ hlt
      have ihx:=ih d' (by omega)
      have hokx:=HOK.out.at_ hlt
      have hEa:Ext w wr:=hE0.trans hE
      obtain⟨r0,r1,r2,r3,r4,r5,r6⟩:=hOne.ext hb hEa
      have hXr:=hX'.ext hEa
      have hsx:(e.l[k]).size<1099511627776:=by have h2:=Ex.size_mem (zC hlt);have:=HSZ.out;have:=e.kids_lt;omega
      have htk:(Ex.typeds e.l).take (k+1)=(Ex.typeds e.l).take k++[(e.l[k]).typed]:=by
       rw[zK (by omega)]
       congr 2
       simp[Ex.typeds_map]
      have hmem:(e.l[k]).typed=0→e.typed=0:=fun h0=>by
       rw[HTY.out,HG.out,if_pos rfl,if_pos (by rw[Ex.typeds_map];exact zI.2 ⟨_,zC hlt,h0⟩)]
      have tk:decide (k<e.l.length)=true:=by simp;omega
      have HD:=zR hd
      have hus:((((Ex.typeds e.l).take k).map iv)).length<4294967296:=by rw[zF,List.length_take];have:=e.size_eq;have:=(good_len HG.out).2;omega
      obtain⟨us,hus2⟩ :∃us,((Ex.typeds e.l).take k).map iv=us:=⟨_,rfl⟩
      rw[hus2]at hO hus
      have HUS:=zR hus2
      clear hus2
      obtain⟨A0,c0,hv0,hf0⟩:=hO.form
      subst hv0
      obtain⟨hcL,hfL⟩:=hV.cell
      clear hOne hX' hX hd hf0
      generalize e.l[k]=x at *
      obtain⟨T,hT0⟩ :∃T,x.typed=T:=⟨_,rfl⟩
      have IH0:=fun(W:World) (h:Ext wr W)=>ihx x A' c' W (hXr.ext h) hsx hokx
      rw[hT0]at IH0 hmem htk
      simp only[Ex.cells]at IH0
      have IH:=zR IH0
      have HTK:=zR htk
      clear IH0 hT0 ihx hsx hokx htk
      go_wp2_with fail
      refine(IH.out _ (Ext.alloc _ _)).mono ?_
      rintro r' w1 ⟨rfl,hEt⟩
      by_cases hT:T=0
      ·have HT:Hid (e.typed=0):=zR (hmem hT)
       have t1:(T == 0)=true:=by simp[hT]
       clear hmem hT
       go_wp2_with fail
       go_ret
       exact⟨by rw[HT.out];rfl,((hE0.trans hE).trans (Ext.alloc _ _)).trans hEt⟩
      ·have t1:(T == 0)=false:=by simpa using hT
       have hE1:Ext wr w1:=(Ext.alloc _ _).trans hEt
       have hV1:=hV.ext hE1
       have hO1:=hO.ext hE1
       obtain⟨hcL1,hfL1⟩:=hV1.cell
       have HNZ2:Hid (¬(0:Int)∈(Ex.typeds e.l).take (k+1)):=zR (by
        rw[HTK.out,zH]
        rintro(h|h)
        ·exact HNZ.out h
        ·simp at h;exact hT h.symm)
       have hbase:wc.heap.size+1≤w1.heap.size:=by have:=hE1.sz;omega
       have HCG:=zR (show(w1.alloc (.cells #[.int .i64 T] 3)).cell? ⟨w1.heap.size,0,none⟩=some (.int .i64 T) by rw[World.cell?_alloc_new];rfl)
       have hEa1:Ext w1 (w1.alloc (.cells #[.int .i64 T] 3)):=Ext.alloc _ _
       have hVa:=hV1.ext hEa1
       have hOa:=hO1.ext hEa1
       have hne:some wc.heap.size≠(Value.slice A0 us.length c0).ownBlock:=fun e=>by have:=(hO.lt _ e.symm).1;omega
       have hba:wc.heap.size+1≤(w1.alloc (.cells #[.int .i64 T] 3)).heap.size:=by have:=hEa1.sz;omega
       have HNE:=zR hne
       clear hmem hT r0 r1 r2 r3 r4 r5 r6 y0 y1 y2 y3 y4 y5 y6 hcL hfL hne
       go_wp2_with (at_builtin;refine app_C ctyI rfl 53 55 rfl (wc.heap.size+1) (.slice A0 us.length c0) us rfl hOa w1.heap.size (.int .i64 T) rfl HCG.out rfl hus hba ?_;intro v1 wb hO2 hg2;obtain⟨A1,c1,hv1,hf1⟩:=hO2.form;subst hv1;clear hf1;obtain⟨hcb,hfb⟩:=(hVa.own hg2 HNE.out).cell)
       obtain⟨s1,s2,s3,s4⟩:=vrow_step hVa hOa (Nat.lt_succ_self _) hba hg2 hO2
       have hln:(us++[(Value.int .i64 T)]).length=us.length+1:=by simp
       rw[hln]at s1 s2 s3 s4
       go_roundw
       case rel=>exact⟨k+1,by omega,by go_num,⟨_,s1,by rw[HTK.out,List.map_append,HUS.out];exact s2⟩,HNZ2,Below.trans ((hE.trans hE1).trans hEa1) s4,s3⟩
       case measure=>simp[intOf];omega
     ·obtain rfl:k=e.l.length:=by omega
      rw[zJ (by omega)]at hO HNZ
      have hEr:Ext w wr:=hE0.trans hE
      have y0:=(hE.old (p:=⟨w.heap.size,0,none⟩) hlt0).trans y0
      have y1:=(hE.old (p:=⟨w.heap.size,1,none⟩) hlt0).trans y1
      have y2:=(hE.old (p:=⟨w.heap.size,2,none⟩) hlt0).trans y2
      have y3:=(hE.old (p:=⟨w.heap.size,3,none⟩) hlt0).trans y3
      have y4:=(hE.old (p:=⟨w.heap.size,4,none⟩) hlt0).trans y4
      have y5:=(hE.old (p:=⟨w.heap.size,5,none⟩) hlt0).trans y5
      obtain⟨A1,c1,hv1,hR⟩:=hO.form
      rw[zF]at hv1
      subst hv1
      obtain⟨hcL,_⟩:=hV.cell
      have hLs:wc.heap.size<wr.heap.size:=by omega
      have HT:Hid (e.typed=rule e.op e.var e.vl (Ex.typeds e.l)):=zR (by rw[HTY.out,HG.out,if_pos rfl,if_neg HNZ.out])
      have hop:1≤e.op∧e.op≤13:=by
       have:=(good_len HG.out).1
       unfold manyOf at this
       omega
      have HM:=zR (good_len HG.out).1
      have ht3:(Ex.typeds e.l).length<4294967296:=by have:=(good_len HG.out).2;omega
      have tk:decide (e.l.length<e.l.length)=false:=by simp
      clear ih hX hO HTY HG
      generalize Ex.typeds e.l=ts at *
      by_cases hlog:e.op=3∨e.op=4∨e.op=5
      ·rcases hlog with h6|h6|h6
       ·have hl1:ts.length=1:=by have:=HM.out;rw[h6]at this;have h3:manyOf 3=1:=rfl;omega
        obtain rfl:K=1:=by rw[←HK.out,h6];rfl
        obtain⟨q,hq⟩ :∃q,ts.all (· == 2)=q:=⟨_,rfl⟩
        have AC :∀W,Ext wr W→Calls Tryz.prog 116 #[.int .i64 2,.pointer (some ⟨wc.heap.size,0,none⟩)] W fun r w'=>r=.returned (.bool q)∧Ext W w':=fun W h=>by
         rw[←hq]
         exact allC_any ts 2 A1 c1 wc.heap.size W (by have:=h.sz;omega) ((h.old (p:=⟨wc.heap.size,0,none⟩) hLs).trans hcL) (hR.ext (zL _) h) ht3
        have HT2:Hid (e.typed=if q=true then 2 else 0):=zR (by rw[HT.out,←hq,h6];exact rule_log (.inl ⟨rfl,hl1⟩))
        have HAC:=zR AC
        rw[h6]at y0
        clear AC hq hR HT HM h6
        cases q with
        | true=>
         go_wp2_with fail
         refine(HAC.out _ (Ext.refl _)).mono ?_
         rintro r w1 ⟨rfl,hE2⟩
         go_wp2_with fail
         go_ret
         exact⟨by rw[HT2.out];rfl,hEr.trans hE2⟩
        | false=>
         go_wp2_with fail
         refine(HAC.out _ (Ext.refl _)).mono ?_
         rintro r w1 ⟨rfl,hE2⟩
         go_wp2_with fail
         go_quiet (fail)
         go_wp2_with fail
         go_quiet (fail)
         go_wp2_with fail
         go_ret
         exact⟨by rw[HT2.out];rfl,(hEr.trans hE2).trans ((ext_dn _ _).trans (ext_dn _ _))⟩
       ·have hl1:ts.length=2:=by have:=HM.out;rw[h6]at this;have h3:manyOf 4=2:=rfl;omega
        obtain rfl:K=1:=by rw[←HK.out,h6];rfl
        obtain⟨q,hq⟩ :∃q,ts.all (· == 2)=q:=⟨_,rfl⟩
        have AC :∀W,Ext wr W→Calls Tryz.prog 116 #[.int .i64 2,.pointer (some ⟨wc.heap.size,0,none⟩)] W fun r w'=>r=.returned (.bool q)∧Ext W w':=fun W h=>by
         rw[←hq]
         exact allC_any ts 2 A1 c1 wc.heap.size W (by have:=h.sz;omega) ((h.old (p:=⟨wc.heap.size,0,none⟩) hLs).trans hcL) (hR.ext (zL _) h) ht3
        have HT2:Hid (e.typed=if q=true then 2 else 0):=zR (by rw[HT.out,←hq,h6];exact rule_log (.inr ⟨.inl rfl,hl1⟩))
        have HAC:=zR AC
        rw[h6]at y0
        clear AC hq hR HT HM h6
        cases q with
        | true=>
         go_wp2_with fail
         refine(HAC.out _ (Ext.refl _)).mono ?_
         rintro r w1 ⟨rfl,hE2⟩
         go_wp2_with fail
         go_ret
         exact⟨by rw[HT2.out];rfl,hEr.trans hE2⟩
        | false=>
         go_wp2_with fail
         refine(HAC.out _ (Ext.refl _)).mono ?_
         rintro r w1 ⟨rfl,hE2⟩
         go_wp2_with fail
         go_quiet (fail)
         go_wp2_with fail
         go_quiet (fail)
         go_wp2_with fail
         go_ret
         exact⟨by rw[HT2.out];rfl,(hEr.trans hE2).trans ((ext_dn _ _).trans (ext_dn _ _))⟩
       ·have hl1:ts.length=2:=by have:=HM.out;rw[h6]at this;have h3:manyOf 5=2:=rfl;omega
        obtain rfl:K=1:=by rw[←HK.out,h6];rfl
        obtain⟨q,hq⟩ :∃q,ts.all (· == 2)=q:=⟨_,rfl⟩
        have AC :∀W,Ext wr W→Calls Tryz.prog 116 #[.int .i64 2,.pointer (some ⟨wc.heap.size,0,none⟩)] W fun r w'=>r=.returned (.bool q)∧Ext W w':=fun W h=>by
         rw[←hq]
         exact allC_any ts 2 A1 c1 wc.heap.size W (by have:=h.sz;omega) ((h.old (p:=⟨wc.heap.size,0,none⟩) hLs).trans hcL) (hR.ext (zL _) h) ht3
        have HT2:Hid (e.typed=if q=true then 2 else 0):=zR (by rw[HT.out,←hq,h6];exact rule_log (.inr ⟨.inr rfl,hl1⟩))
        have HAC:=zR AC
        rw[h6]at y0
        clear AC hq hR HT HM h6
        cases q with
        | true=>
         go_wp2_with fail
         refine(HAC.out _ (Ext.refl _)).mono ?_
         rintro r w1 ⟨rfl,hE2⟩
         go_wp2_with fail
         go_ret
         exact⟨by rw[HT2.out];rfl,hEr.trans hE2⟩
        | false=>
         go_wp2_with fail
         refine(HAC.out _ (Ext.refl _)).mono ?_
         rintro r w1 ⟨rfl,hE2⟩
         go_wp2_with fail
         go_quiet (fail)
         go_wp2_with fail
         go_quiet (fail)
         go_wp2_with fail
         go_ret
         exact⟨by rw[HT2.out];rfl,(hEr.trans hE2).trans ((ext_dn _ _).trans (ext_dn _ _))⟩
      ·by_cases h6:e.op=6
       ·have hl1:ts.length=2:=by have:=HM.out;rw[h6]at this;have h3:manyOf 6=2:=rfl;omega
        obtain rfl:K=2:=by rw[←HK.out,h6];rfl
        obtain⟨bb,hA1,hbb,hcell⟩:=hR (by intro e0;rw[zG]at e0;rw[e0]at hl1;simp at hl1)
        subst hA1
        obtain⟨T0,T1,rfl⟩:=len2 hl1
        have z0:=hcell 0 _ rfl
        have z1:=hcell 1 _ rfl
        unfold iv at z0 z1
        rw[h6]at y0 HT
        clear hcell hR HM h6 hV
        by_cases q:T0=T1
        ·have tq:(T0 == T1)=true:=by simp[q]
         have HT2:Hid (e.typed=2):=zR (by rw[HT.out];simp[rule,q])
         clear q HT
         go_wp2_with fail
         go_quiet (fail)
         go_wp2_with fail
         go_ret
         exact⟨by rw[HT2.out];rfl,hEr.trans (ext_dn _ _)⟩
        ·have tq:(T0 == T1)=false:=by simpa using q
         have HT2:Hid (e.typed=0):=zR (by rw[HT.out];simp[rule,q])
         clear q HT
         go_wp2_with fail
         go_quiet (fail)
         go_wp2_with fail
         go_quiet (fail)
         go_wp2_with fail
         go_ret
         exact⟨by rw[HT2.out];rfl,(by first|exact hEr.trans (ext_dn _ _)|exact hEr.trans ((ext_dn _ _).trans (ext_dn _ _)))⟩
       ·by_cases h67:e.op=7
        ·have h6:=h67
         have hl1:ts.length=2:=by have:=HM.out;rw[h6]at this;have h3:manyOf 7=2:=rfl;omega
         obtain rfl:K=3:=by rw[←HK.out,h6];rfl
         obtain⟨q,hq⟩ :∃q,ts.all (· == 1)=q:=⟨_,rfl⟩
         have AC :∀W,Ext wr W→Calls Tryz.prog 116 #[.int .i64 1,.pointer (some ⟨wc.heap.size,0,none⟩)] W fun r w'=>r=.returned (.bool q)∧Ext W w':=fun W h=>by
          rw[←hq]
          exact allC_any ts 1 A1 c1 wc.heap.size W (by have:=h.sz;omega) ((h.old (p:=⟨wc.heap.size,0,none⟩) hLs).trans hcL) (hR.ext (zL _) h) ht3
         have HT2:Hid (e.typed=if q=true then 2 else 0):=zR (by rw[HT.out,←hq,h6];exact rule_less hl1)
         have HAC:=zR AC
         rw[h6]at y0
         clear AC hq hR HT HM h6
         cases q with
         | true=>
          go_wp2_with fail
          go_quiet (fail)
          go_wp2_with fail
          refine(HAC.out _ (ext_dn _ _)).mono ?_
          rintro r w1 ⟨rfl,hE2⟩
          go_wp2_with fail
          go_ret
          exact⟨by rw[HT2.out];rfl,(hEr.trans (ext_dn _ _)).trans hE2⟩
         | false=>
          go_wp2_with fail
          go_quiet (fail)
          go_wp2_with fail
          refine(HAC.out _ (ext_dn _ _)).mono ?_
          rintro r w1 ⟨rfl,hE2⟩
          go_wp2_with fail
          go_quiet (fail)
          go_wp2_with fail
          go_ret
          exact⟨by rw[HT2.out];rfl,((hEr.trans (ext_dn _ _)).trans hE2).trans (ext_dn _ _)⟩
        ·by_cases h68:8≤e.op∧e.op≤12
         ·rcases(by omega:e.op=8∨e.op=9∨e.op=10∨e.op=11∨e.op=12) with h6|h6|h6|h6|h6
          all_goals
           have hl1:ts.length=2:=by
            have:=HM.out
            rw[h6]at this
            unfold manyOf at this
            omega
           obtain rfl:K=4:=by rw[←HK.out,h6];rfl
           obtain⟨q,hq⟩ :∃q,ts.all (· == 1)=q:=⟨_,rfl⟩
           have AC :∀W,Ext wr W→Calls Tryz.prog 116 #[.int .i64 1,.pointer (some ⟨wc.heap.size,0,none⟩)] W fun r w'=>r=.returned (.bool q)∧Ext W w':=fun W h=>by
            rw[←hq]
            exact allC_any ts 1 A1 c1 wc.heap.size W (by have:=h.sz;omega) ((h.old (p:=⟨wc.heap.size,0,none⟩) hLs).trans hcL) (hR.ext (zL _) h) ht3
           have HT2:Hid (e.typed=if q=true then 1 else 0):=zR (by rw[HT.out,←hq,h6];exact rule_sum (by omega) hl1)
           have HAC:=zR AC
           rw[h6]at y0
           clear AC hq hR HT HM h6
           cases q with
           | true=>
            go_wp2_with fail
            go_quiet (fail)
            go_wp2_with fail
            refine(HAC.out _ (ext_dn _ _)).mono ?_
            rintro r w1 ⟨rfl,hE2⟩
            go_wp2_with fail
            go_ret
            exact⟨by rw[HT2.out];rfl,(hEr.trans (ext_dn _ _)).trans hE2⟩
           | false=>
            go_wp2_with fail
            go_quiet (fail)
            go_wp2_with fail
            refine(HAC.out _ (ext_dn _ _)).mono ?_
            rintro r w1 ⟨rfl,hE2⟩
            go_wp2_with fail
            go_quiet (fail)
            go_wp2_with fail
            go_ret
            exact⟨by rw[HT2.out];rfl,((hEr.trans (ext_dn _ _)).trans hE2).trans (ext_dn _ _)⟩
         ·by_cases h613:e.op=13
          ·have h6:=h613
           have hl1:ts.length=3:=by have:=HM.out;rw[h6]at this;have h3:manyOf 13=3:=rfl;omega
           obtain rfl:K=5:=by rw[←HK.out,h6];rfl
           obtain⟨bb,hA1,hbb,hcell⟩:=hR (by intro e0;rw[zG]at e0;rw[e0]at hl1;simp at hl1)
           subst hA1
           obtain⟨T0,T1,T2,rfl⟩:=len3 hl1
           have z0:=hcell 0 _ rfl
           have z1:=hcell 1 _ rfl
           have z2:=hcell 2 _ rfl
           unfold iv at z0 z1 z2
           rw[h6]at y0 HT
           clear hcell hR HM h6 hV
           by_cases q0:T0=2
           ·have tq0:(T0 == 2)=true:=by simp[q0]
            by_cases q:T1=T2
            ·have tq:(T1 == T2)=true:=by simp[q]
             have HT2:Hid (e.typed=T1):=zR (by rw[HT.out];simp[rule,q0,q])
             clear q q0 HT
             go_wp2_with fail
             go_quiet (fail)
             go_wp2_with fail
             go_quiet (fail)
             go_wp2_with fail
             go_ret
             exact⟨by rw[HT2.out];rfl,(by first|exact hEr.trans (ext_dn _ _)|exact hEr.trans ((ext_dn _ _).trans (ext_dn _ _)))⟩
            ·have tq:(T1 == T2)=false:=by simpa using q
             have HT2:Hid (e.typed=0):=zR (by rw[HT.out];simp[rule,q0,q])
             clear q q0 HT
             go_wp2_with fail
             go_quiet (fail)
             go_wp2_with fail
             go_quiet (fail)
             go_wp2_with fail
             go_ret
             exact⟨by rw[HT2.out];rfl,(by first|exact hEr.trans (ext_dn _ _)|exact hEr.trans ((ext_dn _ _).trans (ext_dn _ _)))⟩
           ·have tq0:(T0 == 2)=false:=by simpa using q0
            have HT2:Hid (e.typed=0):=zR (by rw[HT.out];simp[rule,q0])
            clear q0 HT
            go_wp2_with fail
            go_quiet (fail)
            go_wp2_with fail
            go_quiet (fail)
            go_wp2_with fail
            go_ret
            exact⟨by rw[HT2.out];rfl,(by first|exact hEr.trans (ext_dn _ _)|exact hEr.trans ((ext_dn _ _).trans (ext_dn _ _)))⟩
          ·rcases(by omega:e.op=1∨e.op=2) with h6|h6
           ·rw[h6]at y0
            have HT2:Hid (e.typed=(unw e.vl).vl.ty):=zR (by rw[HT.out,h6,unw_ty];rfl)
            have hsl:e.vl.s.length<9223372036854775808:=by
             have h1:=HOK.out.s
             show e.s.length<_
             omega
            have UW :∀W,Calls Tryz.prog 97 #[.agg #[.int .i64 e.ty,.int .i64 e.n,.bool e.b,.string ⟨e.s.toArray⟩]] W fun r w'=>r=.returned (unw e.vl).v∧Ext W w':=fun W=>unwrap_any e.vl hsl W
            have HUW:=zR UW
            clear UW hsl HT HM h6 hR hV
            generalize unw e.vl=u at *
            go_wp2_with fail
            refine(HUW.out _).mono ?_
            rintro r w1 ⟨rfl,hE2⟩
            go_wp2_with fail
            refine(wrap_any u _).mono ?_
            rintro r w2 ⟨rfl,hE3⟩
            generalize u.vl=y at *
            unfold Vl.v
            go_wp2_with fail
            go_ret
            exact⟨by rw[HT2.out];rfl,(hEr.trans hE2).trans hE3⟩
           ·rw[h6]at y0
            have HT2:Hid (e.typed=(En.zero.var e.var).vl.ty):=zR (by rw[HT.out,h6,zero_ty];rfl)
            have VA :∀W,Calls Tryz.prog 96 #[.agg #[.int .i64 0,.string ⟨#[]⟩,.string ⟨#[]⟩,.int .i64 0,.int .i64 0,.bool false,.int .i64 0,.int .i64 0,.int .i64 0],.int .i64 e.var] W fun r w'=>r=.returned (En.zero.var e.var).v∧Ext W w':=fun W=>variable_any En.zero e.var W
            have HVA:=zR VA
            clear VA HT HM h6 hR hV
            generalize En.zero.var e.var=u at *
            go_wp2_with fail
            refine(HVA.out _).mono ?_
            rintro r w1 ⟨rfl,hE2⟩
            go_wp2_with fail
            refine(wrap_any u _).mono ?_
            rintro r w2 ⟨rfl,hE3⟩
            generalize u.vl=y at *
            unfold Vl.v
            go_wp2_with fail
            go_ret
            exact⟨by rw[HT2.out];rfl,(hEr.trans hE2).trans hE3⟩
end Go.Proofs.YtmiencglfhpmeaaGreatDoor
