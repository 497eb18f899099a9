/- The contracts of expr.Same and of the reference's. -/
import Derived.Test.YtmiencglfhpmeaaGreatDoorKQXa
import Derived.Laws.StructEq
import Derived.Maps.AppendAt
open List renaming foldl_cons → zA, foldl_nil → zB, getD_cons_succ → zC, getD_cons_zero → zD, getElem?_eq_some_iff → zE, getElem_mem → zF, setIfInBounds_toArray → zG, set_cons_succ → zH, set_cons_zero → zI, take_of_length_le → zJ
open Nat renaming lt_of_le_of_lt → zK, lt_of_lt_of_le → zL, lt_trans → zM, not_lt_zero → zN, zero_le → zO
open Option renaming some.injEq → zP
open Array renaming getElem?_eq_some_iff → zQ, getElem?_modify → zR
open Bool renaming and_eq_true → zS, not_eq_true → zT
open Go.Lib renaming hid → zU
set_option linter.unusedSimpArgs false
set_option linter.unusedVariables false
namespace Go.Proofs.YtmiencglfhpmeaaGreatDoor
open Go.RowKit Hach
mutual
def Ex.same:Ex→Ex→Bool
 | .mk o v t n b s l,.mk o' v' t' n' b' s' l'=>decide (o=o')&&decide (v=v')&&(decide (t=t')&&decide (n=n')&&decide (b=b')&&decide (s=s'))&&Ex.sames l l'
def Ex.sames:List Ex→List Ex→Bool
 | [],[]=>true
 | e::l,e'::l'=>e.same e'&&Ex.sames l l'
 | [],_::_=>false
 | _::_,[]=>false
end
mutual
theorem Ex.same_iff :∀e e':Ex,e.same e'=true↔e=e'
 | .mk o v t n b s l,.mk o' v' t' n' b' s' l'=>by
  have:=Ex.sames_iff l l'
  simp only[Ex.same,zS,decide_eq_true_eq,this,Ex.mk.injEq]
  constructor
  ·rintro⟨⟨⟨h1,h2⟩,⟨h3,h4⟩,h5⟩,h6⟩
   exact⟨h1,h2,h3.1,h3.2,h4,h5,h6⟩
  ·rintro⟨h1,h2,h3,h4,h5,h6,h7⟩
   exact⟨⟨⟨h1,h2⟩,⟨⟨h3,h4⟩,h5⟩,h6⟩,h7⟩
theorem Ex.sames_iff :∀l l':List Ex,Ex.sames l l'=true↔l=l'
 | [],[]=>by simp[Ex.sames]
 | e::l,e'::l'=>by
  have h1:=Ex.same_iff e e'
  have h2:=Ex.sames_iff l l'
  simp only[Ex.sames,zS,h1,h2,List.cons.injEq]
 | [],_::_=>by simp[Ex.sames]
 | _::_,[]=>by simp[Ex.sames]
end
theorem Ex.sames_at {l l':List Ex}(h:l.length=l'.length):Ex.sames l l'=true ↔∀(j:Nat) (h1:j<l.length) (h2:j<l'.length),(l[j]).same (l'[j])=true:=by
 rw[Ex.sames_iff]
 constructor
 ·rintro rfl j h1 h2;exact(Ex.same_iff _ _).2 rfl
 ·intro hj;exact List.ext_getElem h fun j h1 h2=>(Ex.same_iff _ _).1 (hj j h1 h2)
theorem bytes_beq (s s':List UInt8):((⟨s.toArray⟩:ByteArray).toList == (⟨s'.toArray⟩:ByteArray).toList)=decide (s=s'):=by
 rw[ByteArray.toList_eq,ByteArray.toList_eq]
 show(s == s')=_
 by_cases h:s=s'
 ·subst h;simp
 ·rw[decide_eq_false h];simpa using h
def valB (t n:Int) (b:Bool) (s:List UInt8) (t' n':Int) (b':Bool) (s':List UInt8):Bool:=decide (t=t'∧n=n'∧b=b'∧s=s')
theorem val_eql (t n t' n':Int) (b b':Bool) (s s':List UInt8) (w:World):(binOp .eql 44 (.agg #[.int .i64 t,.int .i64 n,.bool b,.string ⟨s.toArray⟩]) (.agg #[.int .i64 t',.int .i64 n',.bool b',.string ⟨s'.toArray⟩])).run Tryz.prog w=.ok (.bool (valB t n b s t' n' b' s')) w:=by
 have hb:=bytes_beq s s'
 unfold valB
 by_cases h1:t=t'
 ·by_cases h2:n=n'
  ·by_cases h3:b=b'
   ·subst h1;subst h2;subst h3
    go_simp
    by_cases h4:s=s'
    ·subst h4;simp
    ·simp[h4]
   ·subst h1;subst h2
    have:(b == b')=false:=by simpa using h3
    rw[decide_eq_false (fun h=>h3 h.2.2.1)]
    go_simp
  ·subst h1
   have:(n == n')=false:=by simpa using h2
   rw[decide_eq_false (fun h=>h2 h.2.1)]
   go_simp
 ·have:(t == t')=false:=by simpa using h1
  rw[decide_eq_false (fun h=>h1 h.1)]
  go_simp
theorem val_neq (t n t' n':Int) (b b':Bool) (s s':List UInt8) (w:World):(binOp .neq 44 (.agg #[.int .i64 t,.int .i64 n,.bool b,.string ⟨s.toArray⟩]) (.agg #[.int .i64 t',.int .i64 n',.bool b',.string ⟨s'.toArray⟩])).run Tryz.prog w=.ok (.bool (!valB t n b s t' n' b' s')) w:=by
 have hb:=bytes_beq s s'
 unfold valB
 by_cases h1:t=t'
 ·by_cases h2:n=n'
  ·by_cases h3:b=b'
   ·subst h1;subst h2;subst h3
    go_simp
    by_cases h4:s=s'
    ·subst h4;simp
    ·simp[h4]
   ·subst h1;subst h2
    have:(b == b')=false:=by simpa using h3
    rw[decide_eq_false (fun h=>h3 h.2.2.1)]
    go_simp
  ·subst h1
   have:(n == n')=false:=by simpa using h2
   rw[decide_eq_false (fun h=>h2 h.2.1)]
   go_simp
 ·have:(t == t')=false:=by simpa using h1
  rw[decide_eq_false (fun h=>h1 h.1)]
  go_simp
def Ex.valB (e e':Ex):Bool:=Go.Proofs.YtmiencglfhpmeaaGreatDoor.valB e.ty e.n e.b e.s e'.ty e'.n e'.b e'.s
theorem Ex.same_eq (e e':Ex):e.same e'=(decide (e.op=e'.op)&&decide (e.var=e'.var)&&e.valB e'&&Ex.sames e.l e'.l):=by
 obtain⟨o,v,t,n,b,s,l⟩:=e
 obtain⟨o',v',t',n',b',s',l'⟩:=e'
 show Ex.same _ _=(decide (o=o')&&decide (v=v')&&Go.Proofs.YtmiencglfhpmeaaGreatDoor.valB t n b s t' n' b' s'&&Ex.sames l l')
 rw[Bool.eq_iff_iff]
 simp[Ex.same,Go.Proofs.YtmiencglfhpmeaaGreatDoor.valB,and_assoc]
def SameC (d:Nat):Prop :=∀(e e':Ex) (A A':Option Addr) (c c':Nat) (w:World),ExB w w.heap.size d A e.l→ExB w w.heap.size d A' e'.l→e.size<1099511627776→e'.size<1099511627776 →
  Calls Tryz.prog 44 #[.agg (e.cells A c).toArray,.agg (e'.cells A' c').toArray] w fun r w'=>r=.returned (.bool (e.same e'))∧Ext w w'
set_option maxHeartbeats 2000000 in
theorem eqf_any (d:Nat) (ih :∀d',d'<d→SameC d') (l l':List Ex) (A A':Option Addr) (c c':Nat) (w:World) (hX:ExB w w.heap.size d A l) (hX':ExB w w.heap.size d A' l') (hsz:Ex.sizes l<1099511627776) (hsz':Ex.sizes l'<1099511627776) :
  Calls Tryz.prog 82 #[.slice A l.length c,.slice A' l'.length c',.func (.func 44) #[] #[]] w fun r w'=>r=.returned (.bool (Ex.sames l l'))∧Ext w w':=by
 have hl:=zK (Ex.len_le l) hsz
 have hl':=zK (Ex.len_le l') hsz'
 by_cases hne:l.length=l'.length
 ·have hat:=Ex.sames_at hne
  have HAT:=zU hat
  have HNE:=zU hne
  have tne:decide (l.length=l'.length)=true:=by simpa using hne
  have tn2:((l.length:Int) != (l'.length:Int))=false:=by simp[hne]
  clear hat hne
  go_enter Tryz.func82,Tryz.ntmps82
  go_wp2_with fail
  go_loopw [17] (fun kv wr =>∃k:Nat,k≤l.length∧kv=.int .i64 k∧Hid (∀j (h1:j<l.length) (h2:j<l'.length),j<k→(l[j]).same (l'[j])=true)∧Ext w wr) (fun kv _=>l.length-(intOf kv).toNat)
  case atStart=>exact⟨0,zO _,rfl,zU (fun j _ _ h=>absurd h (zN _)),Ext.refl _⟩
  case round=>
   obtain⟨k,hk1,rfl,HS,hE⟩:=hrel
   by_cases hlt:k<l.length
   ·have hlt':k<l'.length:=by have:=HNE.out;omega
    obtain⟨b,o,B,q,d1,hd,rfl,hb,hX1,hO⟩:=hX.at_ hlt
    obtain⟨b',o',B',q',d1',hd',rfl,hb',hX1',hO'⟩:=hX'.at_ hlt'
    have hkx:=zK (Ex.size_mem (zF hlt)) hsz
    have hkx':=zK (Ex.size_mem (zF hlt')) hsz'
    have ihx:=ih d1 (by omega)
    obtain rfl:d1'=d1:=by omega
    obtain⟨r0,r1,r2,r3,r4,r5,r6⟩:=hO.ext hb hE
    obtain⟨p0,p1,p2,p3,p4,p5,p6⟩:=hO'.ext hb' hE
    have hXr:=hX1.ext hE
    have hXr':=hX1'.ext hE
    have hst :∀r,(l[k]).same (l'[k])=r→Hid (r=true →∀j (h1:j<l.length) (h2:j<l'.length),j<k+1→(l[j]).same (l'[j])=true):=fun r hr=>zU fun ht j h1 h2 hj=>by
     by_cases e:j=k
     ·subst e;rw[hr,ht]
     ·exact HS.out j h1 h2 (by omega)
    have hno :∀r,(l[k]).same (l'[k])=r→Hid (r=false→Ex.sames l l'=false):=fun r hr=>zU fun hf=>by
     rw[←zT,HAT.out]
     intro hall
     have:=hall k hlt hlt'
     rw[hr,hf]at this;cases this
    have hlX:b<wr.heap.size:=by have:=hE.sz;omega
    have hlX':b'<wr.heap.size:=by have:=hE.sz;omega
    clear hO hO' hX1 hX1' HS
    generalize hx:l[k]=x at *
    generalize hx':l'[k]=x' at *
    obtain⟨res,hres⟩ :∃res,x.same x'=res:=⟨_,rfl⟩
    have HST:=hst res hres
    have HNO:=hno res hres
    have IH:=fun W (h1:ExB W W.heap.size d1' B x.l) (h2:ExB W W.heap.size d1' B' x'.l)=>ihx x x' B B' q q' W h1 h2 hkx hkx'
    rw[hres]at IH
    have HIH:=zU IH
    clear hst hno ihx IH hx hx' hres
    go_wp2_with fail
    refine(HIH.out _ ((hXr.ext (Ext.alloc _ _)).ext (Ext.alloc _ _)) ((hXr'.ext (Ext.alloc _ _)).ext (Ext.alloc _ _))).mono ?_
    rintro e w' ⟨rfl,hE'⟩
    cases res with
    | true=>
     go_wp2_with fail
     go_roundw
     case rel=>exact⟨k+1,by omega,by go_num,zU (HST.out (by simp)),((hE.trans (Ext.alloc _ _)).trans (Ext.alloc _ _)).trans hE'⟩
     case measure=>simp[intOf];omega
    | false=>
     go_wp2_with fail
     go_ret
     exact⟨by rw[HNO.out (by simp)];rfl,((hE.trans (Ext.alloc _ _)).trans (Ext.alloc _ _)).trans hE'⟩
   ·have hz:Ex.sames l l'=true:=HAT.out.2 fun j h1 h2=>HS.out j h1 h2 (by omega)
    have HZ:=zU hz
    have tlt:decide (k<l.length)=false:=by simp;omega
    clear hz
    go_wp2_with fail
    go_ret
    exact⟨by rw[HZ.out];rfl,hE⟩
 ·have hz:Ex.sames l l'=false:=by
   rw[←zT,Ex.sames_iff]
   intro e;exact hne (by rw[e])
  have HZ:=zU hz
  have tn2:((l.length:Int) != (l'.length:Int))=true:=by simp;omega
  clear hz
  go_enter Tryz.func82,Tryz.ntmps82
  go_wp2_with fail
  go_ret
  exact⟨by rw[HZ.out];rfl,Ext.refl _⟩
set_option maxHeartbeats 2000000 in
theorem Same_any (d:Nat):SameC d:=by
 induction d using Nat.strongRecOn with
 | _ d ih=>
  intro e e' A A' c c' w hX hX' hsz hsz'
  have hk:=zM e.kids_lt hsz
  have hk':=zM e'.kids_lt hsz'
  have hv :∀w,(binOp .eql 44 (.agg #[.int .i64 e.ty,.int .i64 e.n,.bool e.b,.string ⟨e.s.toArray⟩]) (.agg #[.int .i64 e'.ty,.int .i64 e'.n,.bool e'.b,.string ⟨e'.s.toArray⟩])).run Tryz.prog w=.ok (.bool (e.valB e')) w:=fun w=>val_eql ..
  have hs:=Ex.same_eq e e'
  have HSE:=zU hs
  clear hs
  have EQF:=fun W (h:Ext w W)=>eqf_any d ih e.l e'.l A A' c c' W (hX.ext h) (hX'.ext h) hk hk'
  have HEQF:=zU EQF
  clear EQF ih
  unfold Ex.cells
  by_cases h1:e.op=e'.op
  ·by_cases h2:e.var=e'.var
   ·have t1:(e.op == e'.op)=true:=by simpa using h1
    have t2:(e.var == e'.var)=true:=by simpa using h2
    have HSE2:Hid (e.same e'=(e.valB e'&&Ex.sames e.l e'.l)):=zU (by rw[HSE.out];simp[h1,h2])
    clear h1 h2 HSE
    cases hvb:e.valB e' with
    | true=>
     rw[hvb]at hv HSE2
     clear hvb
     go_enter Tryz.func44,Tryz.ntmps44
     go_wp2_with fail
     refine(HEQF.out _ ((Ext.alloc _ _).trans (Ext.alloc _ _))).mono ?_
     rintro r w' ⟨rfl,hE'⟩
     go_wp2_with fail
     go_ret
     exact⟨by rw[HSE2.out];rfl,((Ext.alloc _ _).trans (Ext.alloc _ _)).trans hE'⟩
    | false=>
     rw[hvb]at hv HSE2
     clear hvb
     go_enter Tryz.func44,Tryz.ntmps44
     go_wp2_with fail
     go_ret
     exact⟨by rw[HSE2.out];rfl,(Ext.alloc _ _).trans (Ext.alloc _ _)⟩
   ·have t1:(e.op == e'.op)=true:=by simpa using h1
    have t2:(e.var == e'.var)=false:=by simpa using h2
    have HSE2:Hid (e.same e'=false):=zU (by rw[HSE.out];simp[h2])
    clear h1 h2 HSE hv
    go_enter Tryz.func44,Tryz.ntmps44
    go_wp2_with fail
    go_ret
    exact⟨by rw[HSE2.out];rfl,(Ext.alloc _ _).trans (Ext.alloc _ _)⟩
  ·have t1:(e.op == e'.op)=false:=by simpa using h1
   have HSE2:Hid (e.same e'=false):=zU (by rw[HSE.out];simp[h1])
   clear h1 HSE hv
   go_enter Tryz.func44,Tryz.ntmps44
   go_wp2_with fail
   go_ret
   exact⟨by rw[HSE2.out];rfl,(Ext.alloc _ _).trans (Ext.alloc _ _)⟩
end Go.Proofs.YtmiencglfhpmeaaGreatDoor
namespace Go.Proofs.YtmiencglfhpmeaaGreatDoor
open Go.RowKit Hach
theorem grown_of {w w':World}(h:Ext w w') (r:Option Nat):w.grownBy w' r:=⟨Below.os h,Below.tape h,Below.output h,Below.size h,fun k hk _=>Below.block h k hk⟩
structure Nd where
 x:Ex
 A:Option Addr
 c:Nat
def Nd.cells (u:Nd):List Value:=u.x.cells u.A u.c
theorem infoE:(Tryz.prog.info? 47).map (fun i=>(i.zero,i.size,i.bytes))=some (some (.agg #[.int .i64 0,.int .i64 0,.int .i64 0,.int .i64 0,.bool false,.string ⟨#[]⟩,.slice none 0 0]),7,80):=by kernel_rfl
def OwnN (w:World) (base:Nat) (v:Value) (us:List Nd):Prop:=w.ownsRow base 47 7 v us.length (us.map Nd.cells).flatten
theorem OwnN.nil (w:World) (base:Nat):OwnN w base (.slice none 0 0) []:=World.ownsRow_nil w base _ 7
theorem OwnN.keep {w w':World}{base:Nat}{v:Value}{us:List Nd}{row:Option Nat}(h:OwnN w base v us) (hg:w.grownBy w' row) (hne:v.ownBlock=none∨v.ownBlock≠row):OwnN w' base v us:=World.ownsRow.kept h hg hne
theorem OwnN.ext {w w':World}{base:Nat}{v:Value}{us:List Nd}(h:OwnN w base v us) (hE:Ext w w'):OwnN w' base v us:=h.keep (grown_of hE none) (by cases v.ownBlock<;>simp)
theorem OwnN.lt {w:World}{base:Nat}{v:Value}{us:List Nd}(h:OwnN w base v us) :∀g,v.ownBlock=some g→base≤g∧g<w.heap.size:=World.ownsRow.lt h
theorem nds_at (us:List Nd) (j:Nat) (hj:j<us.length) (i:Nat) (hi:i<7):(us.map Nd.cells).flatten[j*7+i]?=(us[j].cells)[i]?:=by
 induction us generalizing j with
 | nil=>simp at hj
 | cons u us ih=>
  have hc:u.cells.length=7:=rfl
  simp only[List.map_cons,List.flatten_cons]
  cases j with
  | zero=>rw[List.getElem?_append_left (by omega)];simp
  | succ j=>
   rw[List.getElem?_append_right (by omega),show(j+1)*7+i-u.cells.length=j*7+i by omega]
   exact ih j (by simpa using hj)
theorem OwnN.form {w:World}{base:Nat}{v:Value}{us:List Nd}(h:OwnN w base v us) :∃A c,v=.slice A us.length c∧(0<us.length →∃b,A=some ⟨b,0,none⟩∧base≤b∧b<w.heap.size∧v.ownBlock=some b ∧∀(j:Nat) (u:Nd),us[j]?=some u →∀i v,(u.cells)[i]?=some v→w.cell? ⟨b,j*7+i,none⟩=some v):=by
 rcases h.2 with⟨rfl,hn⟩|⟨g,cap,cur,rfl,hb,hg,r⟩
 ·exact⟨none,0,by rw[hn],fun h0=>absurd h0 (by omega)⟩
 ·refine⟨_,_,rfl,fun _=>⟨g,rfl,hb,(zQ.1 hg).1,rfl,fun j u hj i v hu=>?_⟩⟩
  obtain⟨hjl,rfl⟩:=zE.1 hj
  have hi:i<7:=(zE.1 hu).1
  have:=World.ownsRow.cells h (g:=g) rfl (j*7+i) v ((nds_at us j hjl i hi).trans hu)
  simpa[Addr.add_lit]using this
theorem app_N {ops:Array Oper}{rest:List Oper}{o:Oper}{a:Act}{w:World}{Q:Exit→Act→World→Prop}(hgd:o.guard=none) (s x:Tmp)
  (ho:o.op=.call { callee:=.builtin .append,args:=#[.tmp s,.tmp x],argTypes:=#[45,45] }) (base:Nat) (v:Value) (us:List Nd) (hs:a.eval (.tmp s)=v) (hown:OwnN w base v us)
  (g:Nat) (t:Nd) (hx:a.eval (.tmp x)=.slice (some ⟨g,0,none⟩) 1 1) (hc :∀i u,t.cells[i]?=some u→w.cell? ⟨g,i,none⟩=some u) (hl:us.length<4294967296) (hbase:base≤w.heap.size)
  (h :∀v' w',OwnN w' base v' (us++[t])→w.grownBy w' v.ownBlock→(v'.ownBlock=v.ownBlock∨v'.ownBlock=some w.heap.size)→wpList Tryz.prog ops Q rest (a.put o.dst v') w'):wpList Tryz.prog ops Q (o::rest) a w:=by
 obtain⟨i0,hi,hz0,hz1,hz2⟩:=info_parts infoE
 refine wpList_append_own_at w hgd _ _ _ ho base 47 i0 _ 7 80 Tryz.underlying45 hi hz0 hz1 hz2 rfl (by decide) v us.length (us.map Nd.cells).flatten hs hown ⟨g,0,none⟩ 1 1 t.cells hx rfl ?_ ?_ ?_ ?_ hbase ?_
 ·intro j u hu
  have e:(⟨g,0,none⟩:Addr).add j=⟨g,j,none⟩:=by cases j<;>simp[Addr.add]
  rw[e]
  exact hc j u hu
 ·intro u hu;simp[Nd.cells,Ex.cells]at hu;rcases hu with rfl|rfl|rfl|rfl|rfl|rfl|rfl<;>rfl
 ·simp only[maxLen];omega
 ·omega
 ·intro v' w' h2 h3 _ h5
  refine h v' w' ?_ h3 h5
  unfold OwnN
  simpa using h2
def Kids (w:World) (S:Nat→Prop) (d:Nat) (us:List Nd):Prop :=∀u∈us,ExL w S d u.A u.x.l
theorem Kids.nil (w:World) (S:Nat→Prop) (d:Nat):Kids w S d []:=fun u h=>by cases h
theorem Kids.keep {w w':World}{S:Nat→Prop}{d:Nat}{us:List Nd}(h:Kids w S d us) (hw :∀b,S b →∀o,w'.cell? ⟨b,o,none⟩=w.cell? ⟨b,o,none⟩):Kids w' S d us:=fun u hu=>(h u hu).keep hw
theorem Kids.more {w:World}{S S':Nat→Prop}{d:Nat}{us:List Nd}(h:Kids w S d us) (hS :∀b,S b→S' b):Kids w S' d us:=fun u hu=>(h u hu).more hS
theorem Kids.snoc {w:World}{S:Nat→Prop}{d:Nat}{us:List Nd}{u:Nd}(h:Kids w S d us) (hu:ExL w S d u.A u.x.l):Kids w S d (us++[u]):=fun y hy=>by
 rcases List.mem_append.1 hy with hy|hy
 ·exact h y hy
 ·simp at hy;subst hy;exact hu
theorem OwnN.list {w:World}{base:Nat}{A:Option Addr}{n c:Nat}{us:List Nd}{S:Nat→Prop}{d:Nat}(h:OwnN w base (.slice A n c) us) (hk:Kids w S d us) (hS :∀b,base≤b→b<w.heap.size→S b):ExL w S (d+1) A (us.map (·.x))∧n=us.length:=by
 obtain⟨A',c',e,hf⟩:=h.form
 simp only[Value.slice.injEq]at e
 obtain⟨rfl,rfl,rfl⟩:=e
 refine⟨fun hne=>?_,rfl⟩
 have hpos:0<us.length:=by
  cases us with
  | nil=>simp at hne
  | cons u us=>simp
 obtain⟨b,rfl,hb1,hb2,_,hcell⟩:=hf hpos
 refine⟨b,0,rfl,hS b hb1 hb2,fun j x hj=>?_⟩
 rw[List.getElem?_map]at hj
 cases hu:us[j]? with
 | none=>rw[hu]at hj;cases hj
 | some u=>
  rw[hu]at hj
  simp only[Option.map_some,zP]at hj
  subst hj
  refine⟨u.A,u.c,hk u (List.mem_of_getElem? hu),fun i v hi=>?_⟩
  rw[Nat.zero_add]
  exact hcell j u hu i v hi
theorem grown_cell {w w':World}{r:Option Nat}(h:w.grownBy w' r) {b:Nat}(hb:b<w.heap.size) (hne:r≠some b) (o:Nat):w'.cell? ⟨b,o,none⟩=w.cell? ⟨b,o,none⟩:=
 World.cell?_of_block (a:=⟨b,o,none⟩) (h.block b hb (fun e=>hne e.symm))
end Go.Proofs.YtmiencglfhpmeaaGreatDoor
namespace Go.Proofs.YtmiencglfhpmeaaGreatDoor
open Go.RowKit Hach
def cell7 (x:Ex) (v:Value):Array Value:=#[.int .i64 x.op,.int .i64 x.var,.int .i64 x.ty,.int .i64 x.n,.bool x.b,.string ⟨x.s.toArray⟩,v]
def zero7:Array Value:=#[.int .i64 0,.int .i64 0,.int .i64 0,.int .i64 0,.bool false,.string ⟨#[]⟩,.slice none 0 0]
def InBlk (w:World) (b:Nat) (x:Ex) (v:Value):Prop:=w.heap[b]?=some (.cells (cell7 x v) 47 (0,0))
theorem InBlk.lt {w:World}{b:Nat}{x:Ex}{v:Value}(h:InBlk w b x v):b<w.heap.size:=(zQ.1 h).1
theorem InBlk.free {w:World}{b:Nat}{x:Ex}{v:Value}(h:InBlk w b x v) (o:Nat):w.frozen? ⟨b,o,none⟩=false:=by simp[World.frozen?,show w.heap[b]?=_ from h]
theorem InBlk.ext {w w':World}{b:Nat}{x:Ex}{v:Value}(h:InBlk w b x v) (hE:Ext w w'):InBlk w' b x v:=(hE.below.block b h.lt).trans h
theorem InBlk.own {w w':World}{b:Nat}{x:Ex}{v:Value}{r:Option Nat}(h:InBlk w b x v) (hg:w.grownBy w' r) (hb:some b≠r):InBlk w' b x v:=(hg.block b h.lt hb).trans h
theorem InBlk.cells {w:World}{b:Nat}{x:Ex}{v:Value}(h:InBlk w b x v):w.cell? ⟨b,0,none⟩=some (.int .i64 x.op)∧w.cell? ⟨b,1,none⟩=some (.int .i64 x.var)∧w.cell? ⟨b,2,none⟩=some (.int .i64 x.ty)∧w.cell? ⟨b,3,none⟩=some (.int .i64 x.n)∧w.cell? ⟨b,4,none⟩=some (.bool x.b)∧w.cell? ⟨b,5,none⟩=some (.string ⟨x.s.toArray⟩)∧w.cell? ⟨b,6,none⟩=some v:=by
 have h':w.heap[b]?=_:=h
 refine⟨?_,?_,?_,?_,?_,?_,?_⟩<;>simp[World.cell?,h',cell7]
theorem InBlk.new (w:World) (x:Ex) (v:Value):InBlk (w.alloc (.cells (cell7 x v) 47)) w.heap.size x v:=Go.heap_alloc_new _ _
theorem InBlk.set {w:World}{b:Nat}{x:Ex}{v:Value}(h:InBlk w b x v) (u:Value):InBlk (w.setCell ⟨b,6,none⟩ u) b x u:=by
 have h':w.heap[b]?=_:=h
 simp[InBlk,World.setCell,zR,h',cell7]
theorem grown_set (w:World) (b o:Nat) (v:Value):w.grownBy (w.setCell ⟨b,o,none⟩ v) (some b):=
 ⟨rfl,rfl,rfl,by simp[World.setCell],fun k _ hk=>by
  have:b≠k:=fun e=>hk (by rw[e])
  simp[World.setCell,zR,this]⟩
def set7 (w:World) (b:Nat) (x:Ex) (v:Value):World:=((((((w.setCell ⟨b,0,none⟩ (.int .i64 x.op)).setCell ⟨b,1,none⟩ (.int .i64 x.var)).setCell ⟨b,2,none⟩ (.int .i64 x.ty)).setCell ⟨b,3,none⟩ (.int .i64 x.n)).setCell ⟨b,4,none⟩ (.bool x.b)).setCell ⟨b,5,none⟩ (.string ⟨x.s.toArray⟩)).setCell ⟨b,6,none⟩ v
theorem set7_in {w:World}{b:Nat}(h:w.heap[b]?=some (.cells zero7 47 (0,0))) (x:Ex) (v:Value):InBlk (set7 w b x v) b x v:=by
 simp[InBlk,set7,World.setCell,zR,h,zero7,cell7]
theorem grown_trans {u v w:World}{r:Option Nat}(h:u.grownBy v r) (k:v.grownBy w r):u.grownBy w r:=
 ⟨k.os.trans h.os,k.tape.trans h.tape,k.output.trans h.output,Nat.le_trans h.size k.size,fun b hb hne=>(k.block b (zL hb h.size) hne).trans (h.block b hb hne)⟩
theorem set7_grown (w:World) (b:Nat) (x:Ex) (v:Value):w.grownBy (set7 w b x v) (some b):=
 grown_trans (grown_trans (grown_trans (grown_trans (grown_trans (grown_trans (grown_set _ _ _ _) (grown_set _ _ _ _)) (grown_set _ _ _ _)) (grown_set _ _ _ _)) (grown_set _ _ _ _)) (grown_set _ _ _ _)) (grown_set _ _ _ _)
theorem set7_size (w:World) (b:Nat) (x:Ex) (v:Value):(set7 w b x v).heap.size=w.heap.size:=by
 have h:=(set7_grown w b x v).size
 simp only[set7,World.setCell,Array.size_modify]
theorem results_blk {fn:Func}{t:Tmp}(hr:fn.results=#[.cell t 47]) {w:World}{b:Nat}{x:Ex}{A:Option Addr}{n c:Nat}(h:InBlk w b x (.slice A n c)) (tmps:Array Value) (ht:tmps.getD t undef=.pointer (some ⟨b,0,none⟩)) :
  (results fn tmps).run Tryz.prog w=.ok (.agg #[.int .i64 x.op,.int .i64 x.var,.int .i64 x.ty,.int .i64 x.n,.bool x.b,.string ⟨x.s.toArray⟩,.slice A n c]) w:=by
 obtain⟨p0,p1,p2,p3,p4,p5,p6⟩:=h.cells
 clear h
 rw[Array.getD_eq_getD_getElem?]at ht
 simp only[results,hr]
 go_simp
def SO (B:Nat) (w:World) (v:Value):Nat→Prop:=fun b=>B≤b∧b<w.heap.size∧v.ownBlock≠some b
theorem below_row' {w w':World}{B:Nat}{r:Option Nat}(h:w.grownBy w' r) (hB:B≤w.heap.size) (hv :∀g,r=some g→B≤g):Below B w w':=
 ⟨h.os,h.tape,h.output,h.size,fun k hk=>h.block k (by omega) fun e=>by have:=hv k e.symm;omega⟩
theorem set_cell_other {w:World}{r o b o':Nat}{u:Value}(h:b≠r):(w.setCell ⟨r,o,none⟩ u).cell? ⟨b,o',none⟩=w.cell? ⟨b,o',none⟩:=
 World.cell?_of_block (a:=⟨b,o',none⟩) (heap_setCell_other w ⟨r,o,none⟩ b u h)
theorem set_size (w:World) (a:Addr) (u:Value):(w.setCell a u).heap.size=w.heap.size:=by simp[World.setCell]
theorem Kids.step {W wb:World}{B:Nat}{v v1:Value}{d:Nat}{us:List Nd}{nd:Nd}{lo r o:Nat}{u:Value}(hK:Kids W (SO B W v) d us) (hk:ExL W (fun b=>lo≤b∧b<W.heap.size) d nd.A nd.x.l) (hlo:B≤lo) (hv :∀b,v.ownBlock=some b→b<lo) (hg:W.grownBy wb v.ownBlock) (hn:v1.ownBlock=v.ownBlock∨v1.ownBlock=some W.heap.size) (hr:r<B) :
  Kids (wb.setCell ⟨r,o,none⟩ u) (SO B (wb.setCell ⟨r,o,none⟩ u) v1) d (us++[nd]):=by
 have hsz:=hg.size
 have hz:=set_size wb ⟨r,o,none⟩ u
 have key :∀b,B≤b→b<W.heap.size→v.ownBlock≠some b→(∀o',(wb.setCell ⟨r,o,none⟩ u).cell? ⟨b,o',none⟩=W.cell? ⟨b,o',none⟩)∧SO B (wb.setCell ⟨r,o,none⟩ u) v1 b:=fun b h1 h2 h3=>⟨fun o'=>(set_cell_other (by omega)).trans (grown_cell hg h2 h3 o'),h1,by omega,fun e=>by
  rcases hn with h|h
  ·exact h3 (h▸e)
  ·rw[h]at e;simp only[zP]at e;omega⟩
 refine Kids.snoc (Kids.more (Kids.keep hK fun b hb o'=>(key b hb.1 hb.2.1 hb.2.2).1 o') fun b hb=>(key b hb.1 hb.2.1 hb.2.2).2) ?_
 have h4 :∀b,lo≤b→v.ownBlock≠some b:=fun b h e=>by have:=hv b e;omega
 exact(hk.keep fun b hb o'=>(key b (by omega) hb.2 (h4 b hb.1)).1 o').more fun b hb=>(key b (by omega) hb.2 (h4 b hb.1)).2
end Go.Proofs.YtmiencglfhpmeaaGreatDoor
namespace Go.Proofs.YtmiencglfhpmeaaGreatDoor
open Go.RowKit Hach
def rSameC (d:Nat):Prop :=∀(e e':Ex) (A A':Option Addr) (c c':Nat) (w:World),ExB w w.heap.size d A e.l→ExB w w.heap.size d A' e'.l→e.size<1099511627776→e'.size<1099511627776 →
  Calls Tryz.prog 45 #[.agg (e.cells A c).toArray,.agg (e'.cells A' c').toArray] w fun r w'=>r=.returned (.bool (e.same e'))∧Ext w w'
theorem Box.at2 {w:World}{x y:Ex}{A B:Option Addr}{c d:Nat}:Box ((w.alloc (.cells (x.cells A c).toArray 47)).alloc (.cells (y.cells B d).toArray 47)) (w.heap.size+1) y B d:=by
 have:=Box.new (w.alloc (.cells (x.cells A c).toArray 47)) y B d 47
 rw[World.size_alloc]at this
 exact this
set_option maxRecDepth 100000 in
set_option maxHeartbeats 4000000 in
theorem rSame_any (d:Nat):rSameC d:=by
 induction d using Nat.strongRecOn with
 | _ d ih=>
  intro e e' A A' c c' w hX hX' hsz hsz'
  have hk:=zM e.kids_lt hsz
  have hk':=zM e'.kids_lt hsz'
  have hl:=zK (Ex.len_le e.l) hk
  have hl':=zK (Ex.len_le e'.l) hk'
  have hv :∀w,(binOp .neq 44 (.agg #[.int .i64 e.ty,.int .i64 e.n,.bool e.b,.string ⟨e.s.toArray⟩]) (.agg #[.int .i64 e'.ty,.int .i64 e'.n,.bool e'.b,.string ⟨e'.s.toArray⟩])).run Tryz.prog w=.ok (.bool (!e.valB e')) w:=fun w=>val_neq ..
  have hs:=Ex.same_eq e e'
  have HSE:=zU hs
  obtain⟨w2,hw2⟩ :∃w2,(w.alloc (.cells (e.cells A c).toArray 47)).alloc (.cells (e'.cells A' c').toArray 47)=w2:=⟨_,rfl⟩
  have hE2:Ext w w2:=by rw[←hw2];exact(Ext.alloc _ _).trans (Ext.alloc _ _)
  have hb1:Box w2 w.heap.size e A c:=by rw[←hw2];exact(Box.new w e A c _).ext (Ext.alloc _ _)
  have hb2:Box w2 (w.heap.size+1) e' A' c':=by rw[←hw2];exact Box.at2
  unfold Ex.cells at hw2 ⊢
  have HW2:=zU hw2
  clear hs hw2
  by_cases h1:e.op=e'.op
  ·by_cases h2:e.var=e'.var
   ·have t1:(e.op != e'.op)=false:=by simpa using h1
    have t2:(e.var != e'.var)=false:=by simpa using h2
    have HSE2:Hid (e.same e'=(e.valB e'&&Ex.sames e.l e'.l)):=zU (by rw[HSE.out];simp[h1,h2])
    clear h1 h2 HSE
    cases hvb:e.valB e' with
    | true=>
     rw[hvb]at hv HSE2
     clear hvb
     by_cases hne:e.l.length=e'.l.length
     ·have hat:=Ex.sames_at hne
      have HAT:=zU hat
      have HNE:=zU hne
      have tn2:((e.l.length:Int) != (e'.l.length:Int))=false:=by simp[hne]
      clear hat hne
      go_enter Tryz.func45,Tryz.ntmps45
      go_wp2_with fail
      rw[HW2.out]
      go_loopw [5] (fun kv wr =>∃k:Nat,k≤e.l.length∧kv=.int .i64 k∧Hid (∀j (h1:j<e.l.length) (h2:j<e'.l.length),j<k→(e.l[j]).same (e'.l[j])=true)∧Ext w2 wr) (fun kv _=>e.l.length-(intOf kv).toNat)
      case atStart=>exact⟨0,zO _,rfl,zU (fun j _ _ h=>absurd h (zN _)),Ext.refl _⟩
      case round=>
       obtain⟨k,hk1,rfl,HS,hE⟩:=hrel
       have b6:=(hb1.ext hE).c6
       have b6':=(hb2.ext hE).c6
       by_cases hlt:k<e.l.length
       ·have hlt':k<e'.l.length:=by have:=HNE.out;omega
        obtain⟨b,o,B,q,d1,hd,rfl,hb,hX1,hO⟩:=hX.at_ hlt
        obtain⟨b',o',B',q',d1',hd',rfl,hb',hX1',hO'⟩:=hX'.at_ hlt'
        have hkx:=zK (Ex.size_mem (zF hlt)) hk
        have hkx':=zK (Ex.size_mem (zF hlt')) hk'
        have ihx:=ih d1 (by omega)
        obtain rfl:d1'=d1:=by omega
        have hE':=hE2.trans hE
        have hO1:=hO.ext hb hE'
        have hO1':=hO'.ext hb' hE'
        have hbw:b<wr.heap.size:=zL hb hE'.sz
        have hbw':b'<wr.heap.size:=zL hb' hE'.sz
        have hXr:=hX1.ext hE'
        have hXr':=hX1'.ext hE'
        have hst :∀r,(e.l[k]).same (e'.l[k])=r→Hid (r=true →∀j (h1:j<e.l.length) (h2:j<e'.l.length),j<k+1→(e.l[j]).same (e'.l[j])=true):=fun r hr=>zU fun ht j h1 h2 hj=>by
         by_cases ej:j=k
         ·subst ej;rw[hr,ht]
         ·exact HS.out j h1 h2 (by omega)
        have hno :∀r,(e.l[k]).same (e'.l[k])=r→Hid (r=false→Ex.sames e.l e'.l=false):=fun r hr=>zU fun hf=>by
         rw[←zT,HAT.out]
         intro hall
         have:=hall k hlt hlt'
         rw[hr,hf]at this;cases this
        obtain⟨x,hx⟩ :∃x,e.l[k]=x:=⟨_,rfl⟩
        obtain⟨x',hx'⟩ :∃x',e'.l[k]=x':=⟨_,rfl⟩
        rw[hx]at hO1 hXr hkx hst hno
        rw[hx']at hO1' hXr' hkx' hst hno
        obtain⟨res,hres⟩ :∃res,x.same x'=res:=⟨_,rfl⟩
        have HST:=hst res hres
        have HNO:=hno res hres
        have IH:=fun W (h1:ExB W W.heap.size d1' B x.l) (h2:ExB W W.heap.size d1' B' x'.l)=>ihx x x' B B' q q' W h1 h2 hkx hkx'
        rw[hres]at IH
        have HIH:=zU IH
        have hk1l:w.heap.size+1<wr.heap.size:=zL hb2.lt hE.sz
        have tk:decide (k<e.l.length)=true:=by simp;omega
        have HE3:=zU hE
        clear hst hno ihx IH hx hx' hres hO hO' hX1 hX1' HS
        go_wp2_with fail
        apply wp_region_seq (l:=[_,_,_,_,_,_,_,_,_,_]) (t:=[_,_]) [some 41,some 42,some 43,some 44,some 45,some 46,some 47,some 48,some 49,some 50,some 51,some 52] [[],[0],[],[1,2],[3],[],[5],[],[6,7],[8],[4,9],[10]] [1,3,3,4,10,6,8,8,9,10] [eqv _,eqv _,eqv _,eqv _,eqv _,eqv _,eqv _,eqv _,eqv _,eqv _] (by kernel_rfl) (by kernel_rfl) ⟨?o0,?o1,?o2,?o3,?o4,?o5,?o6,?o7,?o8,?o9,trivial⟩ ?last
        case o0|o2|o5|o7=>
         intro xv W hE hp
         try have q0:xv _=_:=hp.1
         try have q1:xv _=_:=hp.2.1
         clear hp
         simp only[putD,zB,zA,zD,zC,Act.put,zG,zI,zH]
         refine OpGoal.plain ?_
         go_wp2_with fail
         exact⟨rfl,Ext.refl _,rfl⟩
        case o1|o6=>
         intro xv W hE hp
         try have q0:xv _=_:=hp.1
         try have q1:xv _=_:=hp.2.1
         clear hp
         have l6:W.cell? ⟨w.heap.size,6,none⟩=some (.slice (some ⟨b,o,none⟩) e.l.length c):=(((Ext.drew wr).trans hE).old (p:=⟨w.heap.size,6,none⟩) (show w.heap.size<wr.heap.size by omega)).trans b6
         have m6:W.cell? ⟨w.heap.size+1,6,none⟩=some (.slice (some ⟨b',o',none⟩) e'.l.length c'):=(((Ext.drew wr).trans hE).old (p:=⟨w.heap.size+1,6,none⟩) hk1l).trans b6'
         obtain⟨y0,y1,y2,y3,y4,y5,y6⟩:=hO1.ext hbw ((Ext.drew wr).trans hE)
         obtain⟨z0,z1,z2,z3,z4,z5,z6⟩:=hO1'.ext hbw' ((Ext.drew wr).trans hE)
         simp only[putD,zB,zA,zD,zC,Act.put,zG,zI,zH]
         refine OpGoal.plain ?_
         go_wp2_with fail
         exact⟨rfl,Ext.refl _,rfl⟩
        case o3|o8=>
         intro xv W hE hp
         try have q0:xv _=_:=hp.1
         try have q1:xv _=_:=hp.2.1
         clear hp
         simp only[putD,zB,zA,zD,zC,Act.put,zG,zI,zH]
         refine OpGoal.plain ?_
         go_wp2_with fail
         exact⟨rfl,Ext.refl _,rfl⟩
        case o4|o9=>
         intro xv W hE hp
         try have q0:xv _=_:=hp.1
         try have q1:xv _=_:=hp.2.1
         clear hp
         have l6:W.cell? ⟨w.heap.size,6,none⟩=some (.slice (some ⟨b,o,none⟩) e.l.length c):=(((Ext.drew wr).trans hE).old (p:=⟨w.heap.size,6,none⟩) (show w.heap.size<wr.heap.size by omega)).trans b6
         have m6:W.cell? ⟨w.heap.size+1,6,none⟩=some (.slice (some ⟨b',o',none⟩) e'.l.length c'):=(((Ext.drew wr).trans hE).old (p:=⟨w.heap.size+1,6,none⟩) hk1l).trans b6'
         obtain⟨y0,y1,y2,y3,y4,y5,y6⟩:=hO1.ext hbw ((Ext.drew wr).trans hE)
         obtain⟨z0,z1,z2,z3,z4,z5,z6⟩:=hO1'.ext hbw' ((Ext.drew wr).trans hE)
         simp only[putD,zB,zA,zD,zC,Act.put,zG,zI,zH]
         refine OpGoal.plain ?_
         go_wp2_with fail
         exact⟨rfl,Ext.refl _,rfl⟩
        case last=>
         intro xv W hE hp
         have r0:xv 0=_:=hp.1
         have r1:xv 1=_:=hp.2.1
         have r2:xv 2=_:=hp.2.2.1
         have r3:xv 3=_:=hp.2.2.2.1
         have r4:xv 4=_:=hp.2.2.2.2.1
         have r5:xv 5=_:=hp.2.2.2.2.2.1
         have r6:xv 6=_:=hp.2.2.2.2.2.2.1
         have r7:xv 7=_:=hp.2.2.2.2.2.2.2.1
         have r8:xv 8=_:=hp.2.2.2.2.2.2.2.2.1
         have r9:xv 9=_:=hp.2.2.2.2.2.2.2.2.2.1
         clear hp
         simp only[putD,zB,zA,zD,zC,Act.put,List.length_cons,List.length_nil,List.range_succ,List.range_zero,List.nil_append,List.cons_append,zG,zI,zH]
         have hEw:Ext wr W:=(Ext.drew wr).trans hE
         have e4:xv 4=.agg #[.int .i64 x.op,.int .i64 x.var,.int .i64 x.ty,.int .i64 x.n,.bool x.b,.string ⟨x.s.toArray⟩,.slice B x.l.length q]:=r4
         have e9:xv 9=.agg #[.int .i64 x'.op,.int .i64 x'.var,.int .i64 x'.ty,.int .i64 x'.n,.bool x'.b,.string ⟨x'.s.toArray⟩,.slice B' x'.l.length q']:=r9
         rw[e4,e9]
         clear r0 r1 r2 r3 r4 r5 r6 r7 r8 r9 e4 e9 hO1 hO1' b6 b6'
         go_wp2_with fail
         refine(HIH.out _ (hXr.ext hEw) (hXr'.ext hEw)).mono ?_
         rintro r w' ⟨rfl,hEt⟩
         cases res with
         | true=>
          go_wp2_with fail
          go_roundw
          case rel=>exact⟨k+1,by omega,by go_num,zU (HST.out (by simp)),(HE3.out.trans hEw).trans hEt⟩
          case measure=>simp[intOf];omega
         | false=>
          go_wp2_with fail
          go_ret
          exact⟨by rw[HSE2.out,HNO.out (by simp)];simp,(hE'.trans hEw).trans hEt⟩
       ·have hz:Ex.sames e.l e'.l=true:=HAT.out.2 fun j h1 h2=>HS.out j h1 h2 (by omega)
        have HZ:=zU hz
        have tlt:decide (k<e.l.length)=false:=by simp;omega
        clear hz
        go_wp2_with fail
        go_ret
        exact⟨by rw[HSE2.out,HZ.out];rfl,hE2.trans hE⟩
     ·have hz:Ex.sames e.l e'.l=false:=by
       rw[←zT,Ex.sames_iff]
       intro e;exact hne (by rw[e])
      have HZ:=zU hz
      have tn2:((e.l.length:Int) != (e'.l.length:Int))=true:=by simp;omega
      clear hz
      go_enter Tryz.func45,Tryz.ntmps45
      go_wp2_with fail
      rw[HW2.out]
      go_ret
      exact⟨by rw[HSE2.out,HZ.out];rfl,hE2⟩
    | false=>
     rw[hvb]at hv HSE2
     clear hvb
     go_enter Tryz.func45,Tryz.ntmps45
     go_wp2_with fail
     rw[HW2.out]
     go_ret
     exact⟨by rw[HSE2.out];rfl,hE2⟩
   ·have t1:(e.op != e'.op)=false:=by simpa using h1
    have t2:(e.var != e'.var)=true:=by simpa using h2
    have HSE2:Hid (e.same e'=false):=zU (by rw[HSE.out];simp[h2])
    clear h1 h2 HSE hv
    go_enter Tryz.func45,Tryz.ntmps45
    go_wp2_with fail
    rw[HW2.out]
    go_ret
    exact⟨by rw[HSE2.out];rfl,hE2⟩
  ·have t1:(e.op != e'.op)=true:=by simpa using h1
   have HSE2:Hid (e.same e'=false):=zU (by rw[HSE.out];simp[h1])
   clear h1 HSE hv
   go_enter Tryz.func45,Tryz.ntmps45
   go_wp2_with fail
   rw[HW2.out]
   go_ret
   exact⟨by rw[HSE2.out];rfl,hE2⟩
end Go.Proofs.YtmiencglfhpmeaaGreatDoor
namespace Go.Proofs.YtmiencglfhpmeaaGreatDoor
open Go.RowKit Hach
def InI (n:Int):Prop := -9223372036854775808≤n∧n≤9223372036854775807
mutual
def Ex.raw:Ex→Prop
 | .mk op var ty n _ s l=>InI op∧InI var∧InI ty∧InI n∧s.length<9223372036854775808∧l.length<9223372036854775808∧Ex.raws l
def Ex.raws:List Ex→Prop
 | []=>True
 | e::l=>e.raw∧Ex.raws l
end
mutual
def Ex.fit:Ex→Prop
 | .mk op var ty n _ s l=>InI op∧InI var∧InI ty∧InI n∧s.length≤30∧Ex.fits l
def Ex.fits:List Ex→Prop
 | []=>True
 | e::l=>e.fit∧Ex.fits l
end
theorem take_cut (s:List UInt8) (k:Nat):(⟨s.toArray⟩:ByteArray).extract 0 (min (⟨s.toArray⟩:ByteArray).size k)=⟨(s.take k).toArray⟩:=by
 have hs:(⟨s.toArray⟩:ByteArray).size=s.length:=by show s.toArray.size=_;simp
 rw[hs]
 have e :∀m,(⟨s.toArray⟩:ByteArray).extract 0 m=⟨(s.take m).toArray⟩:=fun m=>by
  have:((⟨s.toArray⟩:ByteArray).extract 0 m).data=(s.take m).toArray:=by rw[ByteArray.data_extract];simp
  rw[←this]
 rw[e]
 congr 2
 rcases Nat.le_total s.length k with h|h
 ·rw[Nat.min_eq_left h,zJ (Nat.le_refl _),zJ h]
 ·rw[Nat.min_eq_right h]
theorem Kids.app {W wb:World}{B:Nat}{v v1:Value}{d:Nat}{us:List Nd}{nd:Nd}{lo:Nat}(hK:Kids W (SO B W v) d us) (hk:ExL W (fun b=>lo≤b∧b<W.heap.size) d nd.A nd.x.l) (hlo:B≤lo) (hv :∀b,v.ownBlock=some b→b<lo) (hg:W.grownBy wb v.ownBlock) (hn:v1.ownBlock=v.ownBlock∨v1.ownBlock=some W.heap.size) :
  Kids wb (SO B wb v1) d (us++[nd]):=by
 have hsz:=hg.size
 have key :∀b,B≤b→b<W.heap.size→v.ownBlock≠some b→(∀o',wb.cell? ⟨b,o',none⟩=W.cell? ⟨b,o',none⟩)∧SO B wb v1 b:=fun b h1 h2 h3=>⟨fun o'=>grown_cell hg h2 h3 o',h1,by omega,fun e=>by
  rcases hn with h|h
  ·exact h3 (h▸e)
  ·rw[h]at e;simp only[zP]at e;omega⟩
 refine Kids.snoc (Kids.more (Kids.keep hK fun b hb o'=>(key b hb.1 hb.2.1 hb.2.2).1 o') fun b hb=>(key b hb.1 hb.2.1 hb.2.2).2) ?_
 have h4 :∀b,lo≤b→v.ownBlock≠some b:=fun b h e=>by have:=hv b e;omega
 exact(hk.keep fun b hb o'=>(key b (by omega) hb.2 (h4 b hb.1)).1 o').more fun b hb=>(key b (by omega) hb.2 (h4 b hb.1)).2
theorem Kids.ext {w w':World}{B d:Nat}{v:Value}{us:List Nd}(h:Kids w (SO B w v) d us) (hE:Ext w w'):Kids w' (SO B w' v) d us:=
 (h.keep fun b hb o=>hE.old (p:=⟨b,o,none⟩) hb.2.1).more fun b hb=>⟨hb.1,zL hb.2.1 hE.sz,hb.2.2⟩
theorem fresh_ext {w w':World}{lo d:Nat}{A:Option Addr}{l:List Ex}(h:ExL w (fun b=>lo≤b∧b<w.heap.size) d A l) (hE:Ext w w'):ExL w' (fun b=>lo≤b∧b<w'.heap.size) d A l:=
 (h.keep fun b hb o=>hE.old (p:=⟨b,o,none⟩) hb.2).more fun b hb=>⟨hb.1,zL hb.2 hE.sz⟩
theorem InBlk.new2 (w:World) (x:Ex) (A:Option Addr) (c:Nat):InBlk (w.alloc (.cells (x.cells A c).toArray 47)) w.heap.size x (.slice A x.l.length c):=InBlk.new w x _
end Go.Proofs.YtmiencglfhpmeaaGreatDoor
namespace Go.Proofs.YtmiencglfhpmeaaGreatDoor
open Go.RowKit Hach
def lim (n:Int):Int:=max (-1073741824) (min n 1073741824)
theorem lim_bd (n:Int) : -1073741824≤lim n∧lim n≤1073741824:=by unfold lim;omega
def manyOf (op:Int):Int:=if op=1∨op=2 then 0 else if op=3 then 1 else if 4≤op∧op≤12 then 2 else if op=13 then 3 else -1
def kindOf (op:Int):Int:=if op=3∨op=4∨op=5 then 1 else if op=6 then 2 else if op=7 then 3 else if 8≤op∧op≤12 then 4 else if op=13 then 5 else 0
def varTy (n:Int):Int:=if n=2∨n=3 then 3 else if n=6 then 2 else if 1≤n∧n≤9 then 1 else 0
theorem ret_i {a b:Int}(h:a=b):Ending.returned (Value.int .i64 a)=.returned (.int .i64 b):=by rw[h]
theorem limit_any (n:Int) (w:World):Calls Tryz.prog 98 #[.int .i64 n] w fun e w'=>e=.returned (.int .i64 (lim n))∧w'=w:=by
 go_enter Tryz.func98,Tryz.ntmps98
 go_wp2_with fail
 all_goals
  go_ret
  exact⟨ret_i (by unfold lim;omega),rfl⟩
theorem rLimit_any (n:Int) (w:World):Calls Tryz.prog 127 #[.int .i64 n] w fun e w'=>e=.returned (.int .i64 (lim n))∧w'=w:=by
 go_enter Tryz.func127,Tryz.ntmps127
 go_wp2_with fail
 all_goals
  go_ret
  exact⟨ret_i (by unfold lim;omega),rfl⟩
theorem ops_all {op:Int}(h:1≤op∧op≤13):op=1∨op=2∨op=3∨op=4∨op=5∨op=6∨op=7∨op=8∨op=9∨op=10∨op=11∨op=12∨op=13:=by omega
theorem int_ne {a b:Int}(h:a≠b):(a == b)=false:=by simpa using h
set_option maxHeartbeats 1000000 in
theorem class_any (op:Int) (w:World):Calls Tryz.prog 115 #[.int .i64 op] w fun e w'=>e=.returned (.tuple #[.int .i64 (kindOf op),.int .i64 (manyOf op)])∧w'=w:=by
 by_cases h:1≤op∧op≤13
 ·rcases ops_all h with rfl|rfl|rfl|rfl|rfl|rfl|rfl|rfl|rfl|rfl|rfl|rfl|rfl
  all_goals
   clear h
   go_enter Tryz.func115,Tryz.ntmps115
   go_wp2_with fail
   go_ret2
   exact⟨rfl,rfl⟩
 ·have hk:kindOf op=0:=by unfold kindOf;repeat' split<;>omega
  have hm:manyOf op = -1:=by unfold manyOf;repeat' split<;>omega
  have e1:(op == 1)=false:=int_ne (by omega)
  have e2:(op == 2)=false:=int_ne (by omega)
  have e3:(op == 3)=false:=int_ne (by omega)
  have e4:(op == 4)=false:=int_ne (by omega)
  have e5:(op == 5)=false:=int_ne (by omega)
  have e6:(op == 6)=false:=int_ne (by omega)
  have e7:(op == 7)=false:=int_ne (by omega)
  have e13:(op == 13)=false:=int_ne (by omega)
  have HK:=zU hk
  have HM:=zU hm
  clear hk hm
  by_cases h8:8≤op
  ·have t8:decide (8≤op)=true:=by simpa using h8
   have t12:decide (op≤12)=false:=by simp;omega
   clear h h8
   go_enter Tryz.func115,Tryz.ntmps115
   go_wp2_with fail
   go_ret2
   exact⟨by rw[HK.out,HM.out];rfl,rfl⟩
  ·have t8:decide (8≤op)=false:=by simpa using h8
   clear h h8
   go_enter Tryz.func115,Tryz.ntmps115
   go_wp2_with fail
   go_ret2
   exact⟨by rw[HK.out,HM.out];rfl,rfl⟩
set_option maxHeartbeats 1000000 in
theorem many_any (op:Int) (w:World):Calls Tryz.prog 147 #[.int .i64 op] w fun e w'=>e=.returned (.int .i64 (manyOf op))∧w'=w:=by
 by_cases h:1≤op∧op≤13
 ·rcases ops_all h with rfl|rfl|rfl|rfl|rfl|rfl|rfl|rfl|rfl|rfl|rfl|rfl|rfl
  all_goals
   clear h
   go_enter Tryz.func147,Tryz.ntmps147
   go_wp2_with fail
   go_ret
   exact⟨rfl,rfl⟩
 ·have hm:manyOf op = -1:=by unfold manyOf;repeat' split<;>omega
  have e1:(op == 1)=false:=int_ne (by omega)
  have e2:(op == 2)=false:=int_ne (by omega)
  have e3:(op == 3)=false:=int_ne (by omega)
  have e13:(op == 13)=false:=int_ne (by omega)
  have HM:=zU hm
  clear hm
  by_cases h4:4≤op
  ·have t4:decide (4≤op)=true:=by simpa using h4
   have t12:decide (op≤12)=false:=by simp;omega
   clear h h4
   go_enter Tryz.func147,Tryz.ntmps147
   go_wp2_with fail
   go_ret
   exact⟨by rw[HM.out];rfl,rfl⟩
  ·have t4:decide (4≤op)=false:=by simpa using h4
   clear h h4
   go_enter Tryz.func147,Tryz.ntmps147
   go_wp2_with fail
   go_ret
   exact⟨by rw[HM.out];rfl,rfl⟩
end Go.Proofs.YtmiencglfhpmeaaGreatDoor
