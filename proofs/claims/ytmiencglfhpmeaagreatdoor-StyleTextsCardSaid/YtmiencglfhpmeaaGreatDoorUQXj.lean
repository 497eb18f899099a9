/- Texts of expressions: plain; the lists of names and words, numerals. -/
import Derived.Test.YtmiencglfhpmeaaGreatDoorUQXh
import Derived.Lib.SmallJoins
import Derived.Lib.ItoaLen
import Derived.Lib.ItoaMem
import Derived.Lib.AppendIntMem
open List renaming getElem?_eq_none → zA
open Nat renaming le_refl → zB
open Int renaming toNat_natCast → zC
open Go.Lib renaming decDigits_one → zD, hid → zE, itoa → zF, itoa_length_le → zG
set_option linter.unusedSimpArgs false
set_option linter.unusedVariables false
namespace Go.Proofs.YtmiencglfhpmeaaGreatDoor
open Go.RowKit Hach
def nmL:List (List UInt8):=[[107,105,110,100],[99,108,97,115,115],[110,97,109,101],[119,101,105,103,104,116],[108,101,118,101,108],[115,116,97,105,114,115],[115,99,97,108,101],[104,111,117,114],[114,101,97,100,101,114]]
def wdL:List (List UInt8):=[[97,110,100],[111,114],[61],[60],[43],[45],[42],[109,105,110],[109,97,120]]
def tTrue:List UInt8:=[116,114,117,101]
def tFalse:List UInt8:=[102,97,108,115,101]
def tNot:List UInt8:=[110,111,116]
def tIf:List UInt8:=[105,102]
def tThen:List UInt8:=[116,104,101,110]
def tElse:List UInt8:=[101,108,115,101]
def tx (op var:Int) (x:Vl) (ps:List (List UInt8)):List UInt8:=
 if op=1 then(if x.ty=1 then zF x.n else if x.ty=2 then(if x.b then tTrue else tFalse) else 34::(x.s++[34]))
 else if op=2 then nmL.getD (var-1).toNat []
 else if op=3 then tNot++(32::ps.getD 0 [])
 else if op=13 then tIf++(32::(ps.getD 0 []++(32::(tThen++(32::(ps.getD 1 []++(32::(tElse++(32::ps.getD 2 []))))))))) 
 else ps.getD 0 []++(32::(wdL.getD (op-4).toNat []++(32::ps.getD 1 [])))
mutual
def Ex.text:Ex→List UInt8
 | .mk op var ty n b s l=>tx op var ⟨ty,n,b,s⟩ (Ex.pieces l)
def Ex.pieces:List Ex→List (List UInt8)
 | []=>[]
 | e::l=>(if e.l.isEmpty then e.text else 40::(e.text++[41]))::Ex.pieces l
end
def Ex.piece (e:Ex):List UInt8:=if e.l.isEmpty then e.text else 40::(e.text++[41])
theorem Ex.text_eq (e:Ex):e.text=tx e.op e.var e.vl (Ex.pieces e.l):=by cases e;rw[Ex.text];rfl
theorem Ex.pieces_map :∀l:List Ex,Ex.pieces l=l.map Ex.piece
 | []=>by simp[Ex.pieces]
 | e::l=>by simp[Ex.pieces,Ex.pieces_map l,Ex.piece]
theorem Ex.pieces_take (l:List Ex) {k:Nat}(hk:k<l.length):(Ex.pieces l).take (k+1)=(Ex.pieces l).take k++[(l[k]).piece]:=by
 rw[Ex.pieces_map,List.take_succ_eq_append_getElem (by rw[List.length_map];exact hk)]
 simp
theorem nm_len (j:Nat):(nmL.getD j []).length≤6:=by
 by_cases h:j<9
 ·rcases(by omega:j=0∨j=1∨j=2∨j=3∨j=4∨j=5∨j=6∨j=7∨j=8) with rfl|rfl|rfl|rfl|rfl|rfl|rfl|rfl|rfl<;>decide
 ·rw[List.getD,zA (show nmL.length≤j by have:nmL.length=9:=rfl;omega)];simp
theorem wd_len (j:Nat):(wdL.getD j []).length≤3:=by
 by_cases h:j<9
 ·rcases(by omega:j=0∨j=1∨j=2∨j=3∨j=4∨j=5∨j=6∨j=7∨j=8) with rfl|rfl|rfl|rfl|rfl|rfl|rfl|rfl|rfl<;>decide
 ·rw[List.getD,zA (show wdL.length≤j by have:wdL.length=9:=rfl;omega)];simp
theorem right_int {x:Vl}(h:vlRight x=true) (h1:x.ty=1) : -1073741824≤x.n∧x.n≤1073741824:=by
 simp[vlRight,h1]at h;omega
theorem right_txt {x:Vl}(h:vlRight x=true) (h1:x.ty=3):x.s.length≤24∧x.s.all okB=true:=by
 simp[vlRight,h1]at h;exact⟨h.2,by simpa using h.1.1.1⟩
theorem text_con {x:Vl}(h:vlRight x=true):(tx 1 0 x []).length≤26:=by
 simp only[tx,if_true]
 by_cases h1:x.ty=1
 ·rw[if_pos h1]
  have:=right_int h h1
  have h2:=zG x.n (by omega) (by omega)
  omega
 ·rw[if_neg h1]
  by_cases h2:x.ty=2
  ·rw[if_pos h2]
   cases x.b<;>decide
  ·rw[if_neg h2]
   have h3:x.ty=3:=by have:=right_ty h;omega
   have:=(right_txt h h3).1
   simp;omega
theorem piece_len (e:Ex):e.piece.length≤e.text.length+2:=by
 unfold Ex.piece
 split<;>simp
theorem text_len {e:Ex}{t:Int}(h:Rt e t):e.text.length≤32*e.size:=by
 induction h with
 | con x h=>
  have:=text_con h
  rw[Ex.text,Ex.size]
  exact Nat.le_trans this (by omega)
 | var v h=>
  rw[Ex.text,Ex.size]
  have:=nm_len (v-1).toNat
  simp only[tx,Int.reduceEq,if_true,if_false]
  omega
 | not a ha iha=>
  have:=piece_len a
  rw[Ex.text,Ex.size]
  simp[tx,Ex.pieces_map,Ex.sizes,tNot]
  omega
 | log op h a b ha hb iha ihb=>
  have:=piece_len a
  have:=piece_len b
  have:=wd_len (op-4).toNat
  rw[Ex.text,Ex.size]
  rcases h with rfl|rfl<;>simp[tx,Ex.pieces_map,Ex.sizes]<;>simp at this<;>omega
 | eq t a b ha hb iha ihb=>
  have:=piece_len a
  have:=piece_len b
  rw[Ex.text,Ex.size]
  simp[tx,Ex.pieces_map,Ex.sizes,wdL]
  omega
 | less a b ha hb iha ihb=>
  have:=piece_len a
  have:=piece_len b
  rw[Ex.text,Ex.size]
  simp[tx,Ex.pieces_map,Ex.sizes,wdL]
  omega
 | sum op h a b ha hb iha ihb=>
  have:=piece_len a
  have:=piece_len b
  have:=wd_len (op-4).toNat
  rw[Ex.text,Ex.size]
  unfold tx
  rw[if_neg (by omega),if_neg (by omega),if_neg (by omega),if_neg (by omega)]
  simp[Ex.pieces_map,Ex.sizes]
  simp at this
  omega
 | ite t a b c ha hb hc iha ihb ihc=>
  have:=piece_len a
  have:=piece_len b
  have:=piece_len c
  rw[Ex.text,Ex.size]
  simp[tx,Ex.pieces_map,Ex.sizes,tIf,tThen,tElse]
  omega
theorem ba_append (a b:List UInt8):(⟨a.toArray⟩:ByteArray)++⟨b.toArray⟩=⟨(a++b).toArray⟩:=by
 have:((⟨a.toArray⟩:ByteArray)++⟨b.toArray⟩).data=(a++b).toArray:=by rw[ByteArray.data_append];simp
 rw[←this]
def Tabs (w:World):Prop:=
 Lib.TabIs Tryz.prog w "internal/strconv.uint64pow10" .u64 Lib.pow10Tab∧4≤w.heap.size ∧
  (∃ev,w.cell? ⟨2,0,none⟩=some ev∧(ev=.nilIface ∨∃te pe,ev=.iface te pe))∧(∃ev,w.cell? ⟨3,0,none⟩=some ev∧(ev=.nilIface ∨∃te pe,ev=.iface te pe))
theorem Tabs.keep {w w':World}(h:Tabs w) (hz:w.heap.size≤w'.heap.size) (hk :∀k,k<4→w'.heap[k]?=w.heap[k]?):Tabs w':=by
 obtain⟨h0,hs,h2,h3⟩:=h
 refine⟨?_,by omega,?_,?_⟩
 ·have hg:Tryz.prog.globalNamed "internal/strconv.uint64pow10" = some 0:=by kernel_rfl
  unfold Lib.TabIs World.var? at h0 ⊢
  rw[hg]at h0 ⊢
  simp only[Option.bind_some]at h0 ⊢
  rw[hk 0 (by omega)]
  exact h0
 ·obtain⟨m,h,r⟩:=h2
  exact⟨m,(World.cell?_of_block (a:=⟨2,0,none⟩) (hk 2 (by omega))).trans h,r⟩
 ·obtain⟨m,h,r⟩:=h3
  exact⟨m,(World.cell?_of_block (a:=⟨3,0,none⟩) (hk 3 (by omega))).trans h,r⟩
theorem Tabs.sz {w:World}(h:Tabs w):4≤w.heap.size:=h.2.1
theorem Tabs.ext {w w':World}(h:Tabs w) (hE:Ext w w'):Tabs w':=h.keep hE.sz fun k hk=>hE.below.block k (by have:=h.sz;omega)
theorem ext_grow (w:World) (k:Nat) (os:Array Obj):Ext w (Sort.grow (w.drewN k) os):=Lib.below_grow _ w (zB _) k os
theorem itoa_any (n:Int) (hn:InI n) (w:World) (ht:Tabs w) :
  Calls Tryz.prog 84 #[.int .i64 n] w fun e w'=>e=.returned (.string ⟨(zF n).toArray⟩)∧Ext w w':=by
 refine(Tryz.strconv_Itoa n hn.1 hn.2 w ht.1).mono ?_
 rintro e w' ⟨rfl,k,os,rfl⟩
 exact⟨rfl,ext_grow w k os⟩
def RowS (w:World) (g:Nat) (ss:List (List UInt8)):Prop:=g<w.heap.size ∧∀j,j<ss.length→w.cell? ⟨g,j,none⟩=some (.string ⟨(ss.getD j []).toArray⟩)
theorem RowS.ext {w w':World}{g:Nat}{ss:List (List UInt8)}(h:RowS w g ss) (hE:Ext w w'):RowS w' g ss:=
 ⟨Nat.lt_of_lt_of_le h.1 hE.sz,fun j hj=>(hE.old (p:=⟨g,j,none⟩) h.1).trans (h.2 j hj)⟩
def slS (lo:Nat) (ss:List (List UInt8)):SP:=⟨fun v W =>∃g,v=.slice (some ⟨g,0,none⟩) ss.length ss.length∧lo≤g∧RowS W g ss,fun h hE=>by
 obtain⟨g,e,h1,h2⟩:=h
 exact⟨g,e,h1,h2.ext hE⟩⟩
def Lists (ss:List (List UInt8)) (w:World) (e:Ending) (w':World):Prop:=e=.returned (.slice (some ⟨w.heap.size,0,none⟩) ss.length ss.length)∧RowS w' w.heap.size ss∧Ext w w'
theorem names_any (w:World):Calls Tryz.prog 107 #[] w (Lists nmL w):=by
 go_enter Tryz.func107,Tryz.ntmps107
 go_wp2_with fail
 go_ret
 refine⟨rfl,⟨by simp,fun j hj=>?_⟩,Ext.alloc _ _⟩
 have hj':j<9:=hj
 rw[World.cell?_alloc_new]
 rcases(by omega:j=0∨j=1∨j=2∨j=3∨j=4∨j=5∨j=6∨j=7∨j=8) with rfl|rfl|rfl|rfl|rfl|rfl|rfl|rfl|rfl<;>rfl
theorem rNames_any (w:World):Calls Tryz.prog 131 #[] w (Lists nmL w):=by
 go_enter Tryz.func131,Tryz.ntmps131
 go_wp2_with fail
 go_ret
 refine⟨rfl,⟨by simp,fun j hj=>?_⟩,Ext.alloc _ _⟩
 have hj':j<9:=hj
 rw[World.cell?_alloc_new]
 rcases(by omega:j=0∨j=1∨j=2∨j=3∨j=4∨j=5∨j=6∨j=7∨j=8) with rfl|rfl|rfl|rfl|rfl|rfl|rfl|rfl|rfl<;>rfl
theorem words_any (w:World):Calls Tryz.prog 108 #[] w (Lists wdL w):=by
 go_enter Tryz.func108,Tryz.ntmps108
 go_wp2_with fail
 go_ret
 refine⟨rfl,⟨by simp,fun j hj=>?_⟩,Ext.alloc _ _⟩
 have hj':j<9:=hj
 rw[World.cell?_alloc_new]
 rcases(by omega:j=0∨j=1∨j=2∨j=3∨j=4∨j=5∨j=6∨j=7∨j=8) with rfl|rfl|rfl|rfl|rfl|rfl|rfl|rfl|rfl<;>rfl
theorem rOps_any (w:World):Calls Tryz.prog 133 #[] w (Lists wdL w):=by
 go_enter Tryz.func133,Tryz.ntmps133
 go_wp2_with fail
 go_ret
 refine⟨rfl,⟨by simp,fun j hj=>?_⟩,Ext.alloc _ _⟩
 have hj':j<9:=hj
 rw[World.cell?_alloc_new]
 rcases(by omega:j=0∨j=1∨j=2∨j=3∨j=4∨j=5∨j=6∨j=7∨j=8) with rfl|rfl|rfl|rfl|rfl|rfl|rfl|rfl|rfl<;>rfl
end Go.Proofs.YtmiencglfhpmeaaGreatDoor
namespace Go.Proofs.YtmiencglfhpmeaaGreatDoor
open Go.RowKit Hach
theorem one_byte {w:World}{g:Nat}{y:UInt8}(h:w.cell? ⟨g,0,none⟩=some (.int .u8 (y.toNat:Nat))) (c:Nat):(convert 97 9 (.slice (some ⟨g,0,none⟩) 1 c)).run Tryz.prog w=.ok (.string ⟨#[y]⟩) w:=by
 have hc:=run_convert_bytes_arg (P:=Tryz.prog) w 97 5 Tryz.underlying97 Tryz.underlying5 g 0 1 c [(y.toNat:Int)] rfl (by
  intro i hi
  obtain rfl:i=0:=by simpa using hi
  exact h) 9 Tryz.underlying9
 rw[hc]
 simp[strOfNums]
theorem itoa_small {n:Int}(h0:0≤n) (h1:n<10):zF n=[UInt8.ofNat (48+n.toNat)]:=by
 unfold zF;rw[if_neg (by omega),zD (by omega)]
theorem itoa_neg {n:Int}(h:n<0):zF n=45::zF (-n):=by
 unfold zF;rw[if_pos h,if_neg (by omega)];congr 2;omega
theorem itoa_step {n:Int}(h:10≤n):zF n=zF (n.tdiv 10)++zF (n.tmod 10):=by
 have hd:n.tdiv 10=((n.toNat/10:Nat):Int):=by
  have e:n=((n.toNat:Nat):Int):=by omega
  rw[e];simp[Int.tdiv]
 have hm:n.tmod 10=((n.toNat%10:Nat):Int):=by
  have e:n=((n.toNat:Nat):Int):=by omega
  rw[e];simp[Int.tmod]
 rw[hd,hm]
 unfold zF
 rw[if_neg (by omega),if_neg (by omega),if_neg (by omega)]
 rw[Lib.decDigits,dif_neg (by omega)]
 simp only[zC]
 rw[zD (i:=n.toNat%10) (by omega)]
theorem itoa_size {v:Int}(h:InI v):(zF v).length≤21∧(⟨(zF v).toArray⟩:ByteArray).size≤21:=by
 have:=zG v h.1 h.2
 exact⟨this,by show(zF v).toArray.size≤21;simpa using this⟩
set_option maxRecDepth 100000 in
theorem dec_digit (j:Nat) (hj:j<10) (w:World) :
  Calls Tryz.prog 130 #[.int .i64 (j:Nat)] w fun e w'=>e=.returned (.string ⟨(zF j).toArray⟩)∧Ext w w':=by
 have hit:=itoa_small (n:=j) (by omega) (by omega)
 simp only[zC]at hit
 have hy:(UInt8.ofNat (48+j)).toNat=48+j:=by rw[UInt8.toNat_ofNat'];omega
 obtain⟨y,hyy⟩ :∃y,UInt8.ofNat (48+j)=y:=⟨_,rfl⟩
 rw[hyy]at hy hit
 have hcv:(convert 97 9 (.slice (some ⟨w.heap.size,0,none⟩) 1 1)).run Tryz.prog (w.alloc (.cells #[.int .u8 (48+(j:Int))] 5))=.ok (.string ⟨#[y]⟩) (w.alloc (.cells #[.int .u8 (48+(j:Int))] 5)):=
  one_byte (y:=y) (by rw[hy];exact(World.cell?_alloc_new _ _ _ _).trans rfl) 1
 have HIT:=zE hit
 have t0:decide ((j:Int)<0)=false:=by simp
 clear hit hy hyy
 go_enter Tryz.func130,Tryz.ntmps130
 go_wp2_with fail
 go_ret
 exact⟨by rw[HIT.out];rfl,Ext.alloc _ _⟩
set_option maxRecDepth 100000 in
set_option maxHeartbeats 400000 in
theorem dec_nat (k:Nat) :∀(n:Int),n.natAbs≤k→0≤n→InI n →∀w:World,
  Calls Tryz.prog 130 #[.int .i64 n] w fun e w'=>e=.returned (.string ⟨(zF n).toArray⟩)∧Ext w w':=by
 induction k using Nat.strongRecOn with
 | _ k ih=>
 intro n hk h0 hn w
 obtain⟨hn0,hn1⟩:=hn
 by_cases h1:n<10
 ·obtain⟨j,rfl⟩ :∃j:Nat,n=j:=⟨n.toNat,by omega⟩
  exact dec_digit j (by omega) w
 ·skip
  have hit:=itoa_step (n:=n) (by omega)
  obtain⟨q,hq⟩ :∃q,n.tdiv 10=q:=⟨_,rfl⟩
  obtain⟨m,hm⟩ :∃m,n.tmod 10=m:=⟨_,rfl⟩
  rw[hq,hm]at hit
  have hm0:0≤m∧m≤9:=by
   have e:n=((n.toNat:Nat):Int):=by omega
   have:m=((n.toNat%10:Nat):Int):=by rw[←hm,e];simp[Int.tmod]
   omega
  have hq0:1≤q∧q<n:=by
   have:=Int.mul_tdiv_add_tmod n 10
   rw[hq,hm]at *
   omega
  obtain⟨hq1,hq2⟩:=hq0
  have hrec:=ih q.natAbs (by omega) q (zB _) (by omega) ⟨by omega,by omega⟩
  obtain⟨j,rfl⟩ :∃j:Nat,m=j:=⟨m.toNat,by omega⟩
  have HIT:=zE hit
  have HREC:=zE hrec
  have t0:decide (n<0)=false:=by simp;omega
  have t1:decide (n<10)=false:=by simp;omega
  clear hit ih hrec
  go_enter Tryz.func130,Tryz.ntmps130
  go_wp2_with fail
  refine(HREC.out w).mono ?_
  rintro e w1 ⟨rfl,hE⟩
  go_wp2_with fail
  refine(dec_digit j (by omega) w1).mono ?_
  rintro e w2 ⟨rfl,hE2⟩
  obtain⟨l1,l2⟩:=itoa_size (v:=j) ⟨by omega,by omega⟩
  obtain⟨l3,l4⟩:=itoa_size (v:=q) ⟨by omega,by omega⟩
  go_wp2_with fail
  go_ret
  refine⟨?_,hE.trans hE2⟩
  rw[HIT.out,←ba_append];rfl
set_option maxRecDepth 100000 in
theorem decimal_any (n:Int) (h1 : -1073741824≤n) (h2:n≤1073741824) (w:World) :
  Calls Tryz.prog 130 #[.int .i64 n] w fun e w'=>e=.returned (.string ⟨(zF n).toArray⟩)∧Ext w w':=by
 by_cases h0:n<0
 ·have hit:=itoa_neg h0
  have HR:=zE (dec_nat (-n).natAbs (-n) (zB _) (by omega) ⟨by omega,by omega⟩ w)
  have HIT:=zE hit
  have t0:decide (n<0)=true:=by simpa using h0
  obtain⟨l3,l4⟩:=itoa_size (v := -n) ⟨by omega,by omega⟩
  clear hit
  go_enter Tryz.func130,Tryz.ntmps130
  go_wp2_with fail
  refine HR.out.mono ?_
  rintro e w1 ⟨rfl,hE⟩
  have c1:(⟨#[45]⟩:ByteArray).size≤1:=by decide
  go_wp2_with fail
  go_ret
  refine⟨?_,hE⟩
  rw[HIT.out,show(45::zF (-n))=[45]++zF (-n) from rfl,←ba_append];rfl
 ·exact dec_nat n.natAbs n (zB _) (by omega) ⟨by omega,by omega⟩ w
end Go.Proofs.YtmiencglfhpmeaaGreatDoor
