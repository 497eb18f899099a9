/- Texts of expressions: plain; the lists of names and words, numerals. -/
import Derived.Test.YtmiencglfhpmeaaGreatDoorKQXh
import Derived.Lib.SmallJoins
import Derived.Lib.ItoaLen
import Derived.Lib.ItoaMem
import Derived.Lib.AppendIntMem
open List renaming cons_append → zA, foldl_cons → zB, foldl_nil → zC, getD → zD, getD_cons_succ → zE, getD_cons_zero → zF, getElem?_eq_none → zG, getElem?_map → zH, length_cons → zI, length_map → zJ, length_nil → zK, map_eq_nil_iff → zL, nil_append → zM, range_succ → zN, range_zero → zO, setIfInBounds_toArray → zP, set_cons_succ → zQ, set_cons_zero → zR
open Nat renaming lt_of_lt_of_le → zS
open Int renaming toNat_natCast → zT
open Go.Lib renaming decDigits_one → zU, hid → zV, itoa → zW, itoa_length_le → zX
set_option linter.unusedSimpArgs false
set_option linter.unusedVariables false
namespace Go.Proofs.YtmiencglfhpmeaaGreatDoor
open Go.RowKit Hach
def nmL:List (List UInt8):=[[107,105,110,100],[99,108,97,115,115],[110,97,109,101],[119,101,105,103,104,116],[108,101,118,101,108],[115,116,97,105,114,115],[115,99,97,108,101],[104,111,117,114],[114,101,97,100,101,114]]
def wdL:List (List UInt8):=[[97,110,100],[111,114],[61],[60],[43],[45],[42],[109,105,110],[109,97,120]]
def tTrue:List UInt8:=[116,114,117,101]
def tFalse:List UInt8:=[102,97,108,115,101]
def tNot:List UInt8:=[110,111,116]
def tIf:List UInt8:=[105,102]
def tThen:List UInt8:=[116,104,101,110]
def tElse:List UInt8:=[101,108,115,101]
def tx (op var:Int) (x:Vl) (ps:List (List UInt8)):List UInt8:=
 if op=1 then(if x.ty=1 then zW x.n else if x.ty=2 then(if x.b then tTrue else tFalse) else 34::(x.s++[34]))
 else if op=2 then nmL.getD (var-1).toNat []
 else if op=3 then tNot++(32::ps.getD 0 [])
 else if op=13 then tIf++(32::(ps.getD 0 []++(32::(tThen++(32::(ps.getD 1 []++(32::(tElse++(32::ps.getD 2 []))))))))) 
 else ps.getD 0 []++(32::(wdL.getD (op-4).toNat []++(32::ps.getD 1 [])))
mutual
def Ex.text:Ex→List UInt8
 | .mk op var ty n b s l=>tx op var ⟨ty,n,b,s⟩ (Ex.pieces l)
def Ex.pieces:List Ex→List (List UInt8)
 | []=>[]
 | e::l=>(if e.l.isEmpty then e.text else 40::(e.text++[41]))::Ex.pieces l
end
def Ex.piece (e:Ex):List UInt8:=if e.l.isEmpty then e.text else 40::(e.text++[41])
theorem Ex.text_eq (e:Ex):e.text=tx e.op e.var e.vl (Ex.pieces e.l):=by cases e;rw[Ex.text];rfl
theorem Ex.pieces_map :∀l:List Ex,Ex.pieces l=l.map Ex.piece
 | []=>by simp[Ex.pieces]
 | e::l=>by simp[Ex.pieces,Ex.pieces_map l,Ex.piece]
theorem Ex.pieces_take (l:List Ex) {k:Nat}(hk:k<l.length):(Ex.pieces l).take (k+1)=(Ex.pieces l).take k++[(l[k]).piece]:=by
 rw[Ex.pieces_map,List.take_succ_eq_append_getElem (by rw[zJ];exact hk)]
 simp
theorem nm_len (j:Nat):(nmL.getD j []).length≤6:=by
 by_cases h:j<9
 ·rcases(by omega:j=0∨j=1∨j=2∨j=3∨j=4∨j=5∨j=6∨j=7∨j=8) with rfl|rfl|rfl|rfl|rfl|rfl|rfl|rfl|rfl<;>decide
 ·rw[zD,zG (show nmL.length≤j by have:nmL.length=9:=rfl;omega)];simp
theorem wd_len (j:Nat):(wdL.getD j []).length≤3:=by
 by_cases h:j<9
 ·rcases(by omega:j=0∨j=1∨j=2∨j=3∨j=4∨j=5∨j=6∨j=7∨j=8) with rfl|rfl|rfl|rfl|rfl|rfl|rfl|rfl|rfl<;>decide
 ·rw[zD,zG (show wdL.length≤j by have:wdL.length=9:=rfl;omega)];simp
theorem right_int {x:Vl}(h:vlRight x=true) (h1:x.ty=1) : -1073741824≤x.n∧x.n≤1073741824:=by
 simp[vlRight,h1]at h;omega
theorem right_txt {x:Vl}(h:vlRight x=true) (h1:x.ty=3):x.s.length≤24∧x.s.all okB=true:=by
 simp[vlRight,h1]at h;exact⟨h.2,by simpa using h.1.1.1⟩
theorem text_con {x:Vl}(h:vlRight x=true):(tx 1 0 x []).length≤26:=by
 simp only[tx,if_true]
 by_cases h1:x.ty=1
 ·rw[if_pos h1]
  have:=right_int h h1
  have h2:=zX x.n (by omega) (by omega)
  omega
 ·rw[if_neg h1]
  by_cases h2:x.ty=2
  ·rw[if_pos h2]
   cases x.b<;>decide
  ·rw[if_neg h2]
   have h3:x.ty=3:=by have:=right_ty h;omega
   have:=(right_txt h h3).1
   simp;omega
theorem piece_len (e:Ex):e.piece.length≤e.text.length+2:=by
 unfold Ex.piece
 split<;>simp
theorem text_len {e:Ex}{t:Int}(h:Rt e t):e.text.length≤32*e.size:=by
 induction h with
 | con x h=>
  have:=text_con h
  rw[Ex.text,Ex.size]
  exact Nat.le_trans this (by omega)
 | var v h=>
  rw[Ex.text,Ex.size]
  have:=nm_len (v-1).toNat
  simp only[tx,Int.reduceEq,if_true,if_false]
  omega
 | not a ha iha=>
  have:=piece_len a
  rw[Ex.text,Ex.size]
  simp[tx,Ex.pieces_map,Ex.sizes,tNot]
  omega
 | log op h a b ha hb iha ihb=>
  have:=piece_len a
  have:=piece_len b
  have:=wd_len (op-4).toNat
  rw[Ex.text,Ex.size]
  rcases h with rfl|rfl<;>simp[tx,Ex.pieces_map,Ex.sizes]<;>simp at this<;>omega
 | eq t a b ha hb iha ihb=>
  have:=piece_len a
  have:=piece_len b
  rw[Ex.text,Ex.size]
  simp[tx,Ex.pieces_map,Ex.sizes,wdL]
  omega
 | less a b ha hb iha ihb=>
  have:=piece_len a
  have:=piece_len b
  rw[Ex.text,Ex.size]
  simp[tx,Ex.pieces_map,Ex.sizes,wdL]
  omega
 | sum op h a b ha hb iha ihb=>
  have:=piece_len a
  have:=piece_len b
  have:=wd_len (op-4).toNat
  rw[Ex.text,Ex.size]
  unfold tx
  rw[if_neg (by omega),if_neg (by omega),if_neg (by omega),if_neg (by omega)]
  simp[Ex.pieces_map,Ex.sizes]
  simp at this
  omega
 | ite t a b c ha hb hc iha ihb ihc=>
  have:=piece_len a
  have:=piece_len b
  have:=piece_len c
  rw[Ex.text,Ex.size]
  simp[tx,Ex.pieces_map,Ex.sizes,tIf,tThen,tElse]
  omega
theorem ba_append (a b:List UInt8):(⟨a.toArray⟩:ByteArray)++⟨b.toArray⟩=⟨(a++b).toArray⟩:=by
 have:((⟨a.toArray⟩:ByteArray)++⟨b.toArray⟩).data=(a++b).toArray:=by rw[ByteArray.data_append];simp
 rw[←this]
def Tabs (w:World):Prop:=
 Lib.TabIs Tryz.prog w "internal/strconv.uint64pow10" .u64 Lib.pow10Tab∧4≤w.heap.size ∧
  (∃ev,w.cell? ⟨2,0,none⟩=some ev∧(ev=.nilIface ∨∃te pe,ev=.iface te pe))∧(∃ev,w.cell? ⟨3,0,none⟩=some ev∧(ev=.nilIface ∨∃te pe,ev=.iface te pe))
theorem Tabs.keep {w w':World}(h:Tabs w) (hz:w.heap.size≤w'.heap.size) (hk :∀k,k<4→w'.heap[k]?=w.heap[k]?):Tabs w':=by
 obtain⟨h0,hs,h2,h3⟩:=h
 refine⟨?_,by omega,?_,?_⟩
 ·have hg:Tryz.prog.globalNamed "internal/strconv.uint64pow10" = some 0:=by kernel_rfl
  unfold Lib.TabIs World.var? at h0 ⊢
  rw[hg]at h0 ⊢
  simp only[Option.bind_some]at h0 ⊢
  rw[hk 0 (by omega)]
  exact h0
 ·obtain⟨m,h,r⟩:=h2
  exact⟨m,(World.cell?_of_block (a:=⟨2,0,none⟩) (hk 2 (by omega))).trans h,r⟩
 ·obtain⟨m,h,r⟩:=h3
  exact⟨m,(World.cell?_of_block (a:=⟨3,0,none⟩) (hk 3 (by omega))).trans h,r⟩
theorem Tabs.sz {w:World}(h:Tabs w):4≤w.heap.size:=h.2.1
theorem Tabs.ext {w w':World}(h:Tabs w) (hE:Ext w w'):Tabs w':=h.keep hE.sz fun k hk=>hE.below.block k (by have:=h.sz;omega)
theorem ext_grow (w:World) (k:Nat) (os:Array Obj):Ext w (Sort.grow (w.drewN k) os):=Lib.below_grow _ w (Nat.le_refl _) k os
theorem itoa_any (n:Int) (hn:InI n) (w:World) (ht:Tabs w) :
  Calls Tryz.prog 84 #[.int .i64 n] w fun e w'=>e=.returned (.string ⟨(zW n).toArray⟩)∧Ext w w':=by
 refine(Tryz.strconv_Itoa n hn.1 hn.2 w ht.1).mono ?_
 rintro e w' ⟨rfl,k,os,rfl⟩
 exact⟨rfl,ext_grow w k os⟩
def RowS (w:World) (g:Nat) (ss:List (List UInt8)):Prop:=g<w.heap.size ∧∀j,j<ss.length→w.cell? ⟨g,j,none⟩=some (.string ⟨(ss.getD j []).toArray⟩)
theorem RowS.ext {w w':World}{g:Nat}{ss:List (List UInt8)}(h:RowS w g ss) (hE:Ext w w'):RowS w' g ss:=
 ⟨zS h.1 hE.sz,fun j hj=>(hE.old (p:=⟨g,j,none⟩) h.1).trans (h.2 j hj)⟩
def slS (lo:Nat) (ss:List (List UInt8)):SP:=⟨fun v W =>∃g,v=.slice (some ⟨g,0,none⟩) ss.length ss.length∧lo≤g∧RowS W g ss,fun h hE=>by
 obtain⟨g,e,h1,h2⟩:=h
 exact⟨g,e,h1,h2.ext hE⟩⟩
def Lists (ss:List (List UInt8)) (w:World) (e:Ending) (w':World):Prop:=e=.returned (.slice (some ⟨w.heap.size,0,none⟩) ss.length ss.length)∧RowS w' w.heap.size ss∧Ext w w'
theorem names_any (w:World):Calls Tryz.prog 107 #[] w (Lists nmL w):=by
 go_enter Tryz.func107,Tryz.ntmps107
 go_wp2_with fail
 go_ret
 refine⟨rfl,⟨by simp,fun j hj=>?_⟩,Ext.alloc _ _⟩
 have hj':j<9:=hj
 rw[World.cell?_alloc_new]
 rcases(by omega:j=0∨j=1∨j=2∨j=3∨j=4∨j=5∨j=6∨j=7∨j=8) with rfl|rfl|rfl|rfl|rfl|rfl|rfl|rfl|rfl<;>rfl
theorem words_any (w:World):Calls Tryz.prog 108 #[] w (Lists wdL w):=by
 go_enter Tryz.func108,Tryz.ntmps108
 go_wp2_with fail
 go_ret
 refine⟨rfl,⟨by simp,fun j hj=>?_⟩,Ext.alloc _ _⟩
 have hj':j<9:=hj
 rw[World.cell?_alloc_new]
 rcases(by omega:j=0∨j=1∨j=2∨j=3∨j=4∨j=5∨j=6∨j=7∨j=8) with rfl|rfl|rfl|rfl|rfl|rfl|rfl|rfl|rfl<;>rfl
end Go.Proofs.YtmiencglfhpmeaaGreatDoor
namespace Go.Proofs.YtmiencglfhpmeaaGreatDoor
open Go.RowKit Hach
theorem one_byte {w:World}{g:Nat}{y:UInt8}(h:w.cell? ⟨g,0,none⟩=some (.int .u8 (y.toNat:Nat))) (c:Nat):(convert 97 9 (.slice (some ⟨g,0,none⟩) 1 c)).run Tryz.prog w=.ok (.string ⟨#[y]⟩) w:=by
 have hc:=run_convert_bytes_arg (P:=Tryz.prog) w 97 5 Tryz.underlying97 Tryz.underlying5 g 0 1 c [(y.toNat:Int)] rfl (by
  intro i hi
  obtain rfl:i=0:=by simpa using hi
  exact h) 9 Tryz.underlying9
 rw[hc]
 simp[strOfNums]
theorem itoa_small {n:Int}(h0:0≤n) (h1:n<10):zW n=[UInt8.ofNat (48+n.toNat)]:=by
 unfold zW;rw[if_neg (by omega),zU (by omega)]
theorem itoa_step {n:Int}(h:10≤n):zW n=zW (n.tdiv 10)++zW (n.tmod 10):=by
 have hd:n.tdiv 10=((n.toNat/10:Nat):Int):=by
  have e:n=((n.toNat:Nat):Int):=by omega
  rw[e];simp[Int.tdiv]
 have hm:n.tmod 10=((n.toNat%10:Nat):Int):=by
  have e:n=((n.toNat:Nat):Int):=by omega
  rw[e];simp[Int.tmod]
 rw[hd,hm]
 unfold zW
 rw[if_neg (by omega),if_neg (by omega),if_neg (by omega)]
 rw[Lib.decDigits,dif_neg (by omega)]
 simp only[zT]
 rw[zU (i:=n.toNat%10) (by omega)]
theorem itoa_size {v:Int}(h:InI v):(zW v).length≤21∧(⟨(zW v).toArray⟩:ByteArray).size≤21:=by
 have:=zX v h.1 h.2
 exact⟨this,by show(zW v).toArray.size≤21;simpa using this⟩
set_option maxRecDepth 100000 in
theorem dec_digit (j:Nat) (hj:j<10) (w:World) :
  Calls Tryz.prog 130 #[.int .i64 (j:Nat)] w fun e w'=>e=.returned (.string ⟨(zW j).toArray⟩)∧Ext w w':=by
 have hit:=itoa_small (n:=j) (by omega) (by omega)
 simp only[zT]at hit
 have hy:(UInt8.ofNat (48+j)).toNat=48+j:=by rw[UInt8.toNat_ofNat'];omega
 obtain⟨y,hyy⟩ :∃y,UInt8.ofNat (48+j)=y:=⟨_,rfl⟩
 rw[hyy]at hy hit
 have hcv:(convert 97 9 (.slice (some ⟨w.heap.size,0,none⟩) 1 1)).run Tryz.prog (w.alloc (.cells #[.int .u8 (48+(j:Int))] 5))=.ok (.string ⟨#[y]⟩) (w.alloc (.cells #[.int .u8 (48+(j:Int))] 5)):=
  one_byte (y:=y) (by rw[hy];exact(World.cell?_alloc_new _ _ _ _).trans rfl) 1
 have HIT:=zV hit
 have t0:decide ((j:Int)<0)=false:=by simp
 clear hit hy hyy
 go_enter Tryz.func130,Tryz.ntmps130
 go_wp2_with fail
 go_ret
 exact⟨by rw[HIT.out];rfl,Ext.alloc _ _⟩
end Go.Proofs.YtmiencglfhpmeaaGreatDoor
namespace Go.Proofs.YtmiencglfhpmeaaGreatDoor
open Go.RowKit Hach
def sv (p:List UInt8):ByteArray:=⟨p.toArray⟩
theorem sv_size (p:List UInt8):(sv p).size=p.length:=by show p.toArray.size=_;simp
theorem sv_app (a b:List UInt8):sv a++sv b=sv (a++b):=ba_append a b
def txv (p:List UInt8):Value:=.string (sv p)
theorem Rt.len3 {e:Ex}{t:Int}(h:Rt e t):e.l.length≤3:=by
 rcases h.inv with⟨_,hl,_⟩|⟨_,hl,_⟩|⟨_,_,a,hl,ha⟩|⟨_,_,a,b,hl,ha,hb⟩|⟨_,_,s,a,b,hl,ha,hb⟩|⟨_,_,a,b,hl,ha,hb⟩|⟨_,_,a,b,hl,ha,hb⟩|⟨_,a,b,c,hl,ha,hb,hc⟩<;>simp[hl]
theorem Ex.kid_size {e:Ex}{k:Nat}(hk:k<e.l.length):(e.l[k]).size≤e.size:=by
 have h1:=Ex.size_mem (List.getElem_mem hk)
 have:=e.kids_lt
 omega
theorem Rt.inv5 {e:Ex}{t:Int}(h:Rt e t):(e.op=1∧e.l=[]∧vlRight e.vl=true)∨(e.op=2∧e.l=[]∧(1≤e.var∧e.var≤9))∨(e.op=3 ∧∃a s,e.l=[a]∧Rt a s) ∨
  ((4≤e.op∧e.op≤12) ∧∃a b s s',e.l=[a,b]∧Rt a s∧Rt b s')∨(e.op=13 ∧∃a b c s s' s'',e.l=[a,b,c]∧Rt a s∧Rt b s'∧Rt c s''):=by
 rcases h.inv with⟨h6,hl,hr,ht⟩|⟨h6,hl,hr,ht⟩|⟨h6,ht,a,hl,ha⟩|⟨h6,ht,a,b,hl,ha,hb⟩|⟨h6,ht,s,a,b,hl,ha,hb⟩|⟨h6,ht,a,b,hl,ha,hb⟩|⟨h6,ht,a,b,hl,ha,hb⟩|⟨h6,a,b,c,hl,ha,hb,hc⟩
 ·exact .inl ⟨h6,hl,hr⟩
 ·exact .inr (.inl ⟨h6,hl,hr⟩)
 ·exact .inr (.inr (.inl ⟨h6,a,_,hl,ha⟩))
 ·exact .inr (.inr (.inr (.inl ⟨by omega,a,b,_,_,hl,ha,hb⟩)))
 ·exact .inr (.inr (.inr (.inl ⟨by omega,a,b,_,_,hl,ha,hb⟩)))
 ·exact .inr (.inr (.inr (.inl ⟨by omega,a,b,_,_,hl,ha,hb⟩)))
 ·exact .inr (.inr (.inr (.inl ⟨by omega,a,b,_,_,hl,ha,hb⟩)))
 ·exact .inr (.inr (.inr (.inr ⟨h6,a,b,c,_,_,_,hl,ha,hb,hc⟩)))
def ptS (s:ByteArray):SP:=⟨fun v W =>∃a:Addr,v=.pointer (some a)∧a.block<W.heap.size∧W.cell? a=some (.string s),fun h hE=>by
 obtain⟨a,e,h1,h2⟩:=h
 exact⟨a,e,zS h1 hE.sz,(hE.old h1).trans h2⟩⟩
theorem kid_piece {e y:Ex}{s:Int}(hs:e.size<1048576) (hy:Rt y s) (hm:y∈e.l):(sv y.piece).size<1073741824:=by
 have h1:=piece_len y
 have h2:=text_len hy
 have h4:=Ex.size_mem hm
 have h5:=e.kids_lt
 rw[sv_size];omega
theorem two_text {e a b:Ex}(h:4≤e.op∧e.op≤12) (hl:e.l=[a,b]):sv e.text=sv a.piece++sv [32]++sv (wdL.getD (e.op-4).toNat [])++sv [32]++sv b.piece:=by
 rw[e.text_eq,hl,sv_app,sv_app,sv_app,sv_app]
 unfold tx
 rw[if_neg (by omega),if_neg (by omega),if_neg (by omega),if_neg (by omega)]
 simp[Ex.pieces_map]
set_option maxRecDepth 100000 in
set_option maxHeartbeats 8000000 in
theorem text_any (d:Nat) :∀(e:Ex) (t:Int) (A:Option Addr) (c:Nat) (w:World),Rt e t→ExB w w.heap.size d A e.l→e.ok→e.size<1048576→Tabs w →
  Calls Tryz.prog 85 #[.agg (e.cells A c).toArray] w fun r w'=>r=.returned (.string (sv e.text))∧Ext w w':=by
 induction d using Nat.strongRecOn with
 | _ d ih=>
  intro e t A c w hrt hX hok hsz htab
  have HOK:=zV hok
  have HRT:=zV hrt
  have HSZ:=zV hsz
  have HTB:=zV htab
  have hlen:=hrt.len3
  have HV:=zV e.text_eq
  obtain⟨w0,hw0⟩ :∃w0,w.alloc (.cells (e.cells A c).toArray 47)=w0:=⟨_,rfl⟩
  have hE0:Ext w w0:=by rw[←hw0];exact Ext.alloc _ _
  have hBx:Box w0 w.heap.size e A c:=by rw[←hw0];exact Box.new w e A c 47
  have HW:=zV hw0
  have hlt0:=hBx.lt
  have HBx:=zV hBx
  have y6:=hBx.c6
  unfold Ex.cells
  unfold Ex.cells at HW
  clear hw0 hBx hok hrt hsz htab
  go_enter Tryz.func85,Tryz.ntmps85
  go_upto_region 2 with fail
  rw[HW.out]
  go_wp2_with fail
  go_loopw [3,13] (fun lv kv wr =>∃k:Nat,k≤e.l.length∧kv=.int .i64 k∧OwnC 9 wr w0.heap.size lv (((Ex.pieces e.l).take k).map txv)∧Ext w0 wr) (fun _ kv _=>e.l.length-(intOf kv).toNat)
  case atStart=>exact⟨0,Nat.zero_le _,rfl,OwnC.nil _ _ _,Ext.refl _⟩
  case round=>
   obtain⟨k,hk,rfl,hO,hE⟩:=hrel
   have hEa:Ext w wr:=hE0.trans hE
   by_cases hlt:k<e.l.length
   ·obtain⟨b,o,A',c',d',hd,rfl,hb,hX',hOne⟩:=hX.at_ hlt
    obtain⟨s,hs⟩:=HRT.out.kid hlt
    have ihx:=ih d' (by omega)
    have hokx:=HOK.out.at_ hlt
    have hszx:(e.l[k]).size<1048576:=Nat.lt_of_le_of_lt (Ex.kid_size hlt) HSZ.out
    obtain⟨r0,r1,r2,r3,r4,r5,r6⟩:=hOne.ext hb hEa
    have hXr:=hX'.ext hEa
    have htk:=Ex.pieces_take e.l hlt
    have tk:decide (k<e.l.length)=true:=by simp;omega
    have hus:(((Ex.pieces e.l).take k).map txv).length<4294967296:=by rw[zJ,List.length_take];omega
    obtain⟨us,hus2⟩ :∃us,((Ex.pieces e.l).take k).map txv=us:=⟨_,rfl⟩
    rw[hus2]at hO hus
    have HUS:=zV hus2
    obtain⟨A0,c0,hv0,hf0⟩:=hO.form
    subst hv0
    have HD:=zV hd
    have htl:=text_len hs
    clear hOne hX' hX hd hus2 hf0
    generalize e.l[k]=y at *
    have IH:=zV (fun(W:World) (h:Ext wr W)=>ihx y s A' c' W hs (hXr.ext h) hokx hszx (HTB.out.ext (hEa.trans h)))
    simp only[Ex.cells]at IH
    have hbs:(sv y.text).size<1073741824:=by rw[sv_size];omega
    have hyl:y.l.length≤3:=hs.len3
    have HPC:=zV (show y.piece=if y.l.isEmpty then y.text else 40::(y.text++[41]) from rfl)
    have HTX:Hid (sv y.text=sv y.text):=zV rfl
    obtain⟨B,hB⟩ :∃B,sv y.text=B:=⟨_,rfl⟩
    have HB:=zV hB
    rw[hB]at IH hbs
    have HTK:Hid (((Ex.pieces e.l).take (k+1)).map txv=us++[txv y.piece]):=zV (by rw[htk,List.map_append,HUS.out];rfl)
    clear ihx hokx htk hs hszx htl hB
    go_wp2_with fail
    refine(IH.out _ (Ext.alloc _ _)).mono ?_
    rintro r' w1 ⟨rfl,hEt⟩
    have hE1:Ext wr w1:=(Ext.alloc _ _).trans hEt
    have b6:=((Box.new wr y A' c' 47).ext hEt).c6
    have hO1:=hO.ext hE1
    have hbase:w0.heap.size≤w1.heap.size:=by have h2:=hE1.sz;have h3:=hE.sz;omega
    clear r0 r1 r2 r3 r4 r5 r6 y6
    have key :∀X:ByteArray,X=sv y.piece→Hid ((w1.alloc (.cells #[.string X] 9)).cell? ⟨w1.heap.size,0,none⟩=some (.string X))∧OwnC 9 (w1.alloc (.cells #[.string X] 9)) w0.heap.size (.slice A0 us.length c0) us∧w0.heap.size≤(w1.alloc (.cells #[.string X] 9)).heap.size∧Ext w1 (w1.alloc (.cells #[.string X] 9)):=fun X hX=>by
     have hEa1:Ext w1 (w1.alloc (.cells #[.string X] 9)):=Ext.alloc _ _
     exact⟨zV (by rw[World.cell?_alloc_new];rfl),hO1.ext hEa1,by have h1:=hEa1.sz;omega,hEa1⟩
    have HKEY:=zV key
    clear key
    by_cases hl:y.l.length=0
    ·have hX:B=sv y.piece:=by rw[HPC.out,if_pos (by simpa using List.length_eq_zero_iff.1 hl),HB.out]
     obtain⟨HCG,hOa,hba,hEa1⟩:=HKEY.out B hX
     have t1:decide (0<y.l.length)=false:=by rw[hl];rfl
     have t2:decide ((0:Int)<(y.l.length:Int))=false:=by rw[hl];rfl
     have HX:=zV hX
     rw[hl]at b6
     clear hl hX
     go_wp2_with (at_builtin;refine app_C ctyS rfl 26 28 rfl w0.heap.size (.slice A0 us.length c0) us rfl hOa w1.heap.size (.string B) rfl HCG.out rfl hus hba ?_;intro v1 wb hO2 hg2)
     go_roundw
     case rel=>exact⟨k+1,by omega,by go_num,by rw[HTK.out];unfold txv;rw[←HX.out];exact hO2,Below.trans (hE.trans (hE1.trans hEa1)) (below_row' hg2 hba (fun g e=>(hO.lt g e).1))⟩
     case measure=>simp[intOf];omega
    ·have hX:(⟨#[40]⟩++B++⟨#[41]⟩:ByteArray)=sv y.piece:=by
      rw[HPC.out,if_neg (by intro h;rw[List.isEmpty_iff]at h;rw[h]at hl;exact hl rfl),←HB.out]
      show sv [40]++sv y.text++sv [41]=_
      rw[sv_app,sv_app];rfl
     obtain⟨HCG,hOa,hba,hEa1⟩:=HKEY.out _ hX
     have t1:decide (0<y.l.length)=true:=by simp;omega
     have t2:decide ((0:Int)<(y.l.length:Int))=true:=by simp;omega
     have HX:=zV hX
     have c1:(⟨#[40]⟩:ByteArray).size≤1:=by decide
     have c2:(⟨#[41]⟩:ByteArray).size≤1:=by decide
     clear hl hX
     go_wp2_with (at_builtin;refine app_C ctyS rfl 26 28 rfl w0.heap.size (.slice A0 us.length c0) us rfl hOa w1.heap.size (.string (⟨#[40]⟩++B++⟨#[41]⟩)) rfl HCG.out rfl hus hba ?_;intro v1 wb hO2 hg2)
     go_roundw
     case rel=>exact⟨k+1,by omega,by go_num,by rw[HTK.out];unfold txv;rw[←HX.out];exact hO2,Below.trans (hE.trans (hE1.trans hEa1)) (below_row' hg2 hba (fun g e=>(hO.lt g e).1))⟩
     case measure=>simp[intOf];omega
   ·obtain rfl:k=e.l.length:=by omega
    have hvl:(Ex.pieces e.l).length=e.l.length:=by rw[Ex.pieces_map];simp
    rw[List.take_of_length_le (by omega)]at hO
    obtain⟨A1,c1,hv1,hR⟩:=hO.form
    rw[zJ,hvl]at hv1
    subst hv1
    obtain⟨n0,y0,y1,y2,y3,y4,y5,y6'⟩:=HBx.out.ext hE
    have tk:decide (e.l.length<e.l.length)=false:=by simp
    have hread :∀(j:Nat) (z:Ex),e.l[j]?=some z →∃bb,A1=some ⟨bb,0,none⟩∧bb<wr.heap.size∧wr.cell? ⟨bb,j,none⟩=some (.string (sv z.piece)):=fun j z hz=>by
     obtain⟨bb,h1,h3,h2⟩:=hR (by intro e0;rw[zL,Ex.pieces_map,zL]at e0;rw[e0]at hz;simp at hz)
     exact⟨bb,h1,h3,h2 j _ (by rw[zH,Ex.pieces_map,zH,hz];rfl)⟩
    have HRD:=zV hread
    obtain⟨n,hn⟩ :∃n,e.l.length=n:=⟨_,rfl⟩
    have HN:=zV hn
    rw[hn]at y6 y6' tk
    rw[hn]
    have HEr:=zV hE
    clear hread hR hO hvl ih hX hlt hn hlen hk y6'
    have hiv:=HRT.out.inv5
    rcases hiv with⟨h6,hl,hr⟩|⟨h6,hl,hr⟩|⟨h6,a,_,hl,ha⟩|⟨h6,a,b,_,_,hl,ha,hb⟩|⟨h6,a,b,c',_,_,_,hl,ha,hb,hc⟩
    ·have hsl:e.vl.s.length<9223372036854775808:=by
      have h1:=HOK.out.s
      show e.s.length<_
      omega
     have UW:=zV (show ∀W,Calls Tryz.prog 97 #[.agg #[.int .i64 e.ty,.int .i64 e.n,.bool e.b,.string ⟨e.s.toArray⟩]] W fun r w'=>r=.returned (unw e.vl).v∧Ext W w' from fun W=>unwrap_any e.vl hsl W)
     have HT:=zV (show e.text=tx 1 e.var e.vl [] by rw[HV.out,h6,hl];rfl)
     have hty:=right_ty hr
     rw[h6]at y0
     clear h6 hl hsl
     have huw:unw e.vl=if e.vl.ty=1 then .int e.vl.n else if e.vl.ty=2 then .bool e.vl.b else .txt e.vl.s:=by unfold unw;rw[if_pos hr]
     rcases(by omega:e.vl.ty=1∨e.vl.ty=2∨e.vl.ty=3) with h1|h1|h1
     ·have hnb:=right_int hr h1
      have HT2:=zV (show e.text=zW e.vl.n by rw[HT.out];unfold tx;rw[if_pos rfl,if_pos h1])
      rw[huw,if_pos h1]at UW
      clear huw h1 hr HT hty
      generalize e.vl.n=m at *
      go_wp2_with fail
      refine(UW.out _).mono ?_
      rintro r w1 ⟨rfl,hE2⟩
      unfold Va.v
      go_wp2_with fail
      refine(itoa_any m ⟨by omega,by omega⟩ _ (HTB.out.ext (hEa.trans hE2))).mono ?_
      rintro r w2 ⟨rfl,hE3⟩
      go_wp2_with fail
      go_ret
      exact⟨by rw[HT2.out];rfl,(hEa.trans hE2).trans hE3⟩
     ·have HT2:=zV (show e.text=Lib.formatBool e.vl.b by rw[HT.out];unfold tx;rw[if_pos rfl,if_neg (by omega),if_pos h1];cases e.vl.b<;>rfl)
      rw[huw,if_neg (by omega),if_pos h1]at UW
      clear huw h1 hr HT hty
      generalize e.vl.b=m at *
      go_wp2_with fail
      refine(UW.out _).mono ?_
      rintro r w1 ⟨rfl,hE2⟩
      unfold Va.v
      go_wp2_with fail
      refine(Tryz.strconv_FormatBool m _).mono ?_
      rintro r w2 ⟨rfl,rfl⟩
      go_wp2_with fail
      go_ret
      exact⟨by rw[HT2.out];rfl,hEa.trans hE2⟩
     ·have htt:=right_txt hr h1
      have HT2:=zV (show sv e.text=sv [34]++sv e.vl.s++sv [34] by rw[HT.out];unfold tx;rw[if_pos rfl,if_neg (by omega),if_neg (by omega),sv_app,sv_app];rfl)
      rw[huw,if_neg (by omega),if_neg (by omega)]at UW
      have hbs:(sv e.vl.s).size≤24:=by rw[sv_size];exact htt.1
      have hVv:(Va.txt e.vl.s).v=.iface 9 (.string (sv e.vl.s)):=rfl
      rw[hVv]at UW
      have c1:(⟨#[34]⟩:ByteArray).size≤1:=by decide
      clear huw h1 hr HT hty htt hVv
      generalize sv e.vl.s=B at *
      go_wp2_with fail
      refine(UW.out _).mono ?_
      rintro r w1 ⟨rfl,hE2⟩
      go_wp2_with fail
      go_ret
      exact⟨by rw[HT2.out];rfl,hEa.trans hE2⟩
    ·obtain⟨j,hj⟩ :∃j:Nat,e.var=(j:Int)+1:=⟨(e.var-1).toNat,by omega⟩
     have hj9:j<9:=by omega
     have HT:=zV (show e.text=nmL.getD j [] by rw[HV.out,h6];unfold tx;rw[if_neg (by omega),if_pos rfl,hj];congr 1;omega)
     rw[h6]at y0
     rw[hj]at y1
     have hlw:w.heap.size<wr.heap.size:=zS hlt0 hE.sz
     clear h6 hl hr hj
     go_wp2_with fail
     apply wp_region_seq (l:=[_,_,_,_]) (t:=[_,_,_]) [some 56,some 57,some 58,some 59,some 60,some 61,some 2] [[],[],[1],[2],[0,3],[4],[5]] [4,2,3,4] [(slS wr.heap.size nmL),eqv _,eqv _,eqv _] (by kernel_rfl) (by kernel_rfl) ⟨?o0,?o1,?o2,?o3,trivial⟩ ?last
     case o0=>
      intro xv W hE _
      simp only[putD,zC,zF]
      refine OpGoal.plain ?_
      go_wp2_with fail
      refine(names_any _).mono ?_
      rintro r w' ⟨rfl,hrow,hE5⟩
      go_wp2_with fail
      exact⟨rfl,hE5,_,rfl,by have:=hE.sz;simpa using this,hrow⟩
     case o1=>
      intro xv W hE _
      simp only[putD,zC,zF,zE]
      refine OpGoal.plain ?_
      go_wp2_with fail
      exact⟨rfl,Ext.refl _,rfl⟩
     case o2=>
      intro xv W hE hp
      have r1:xv 1=_:=hp.1
      clear hp
      have y1w:=(((Ext.drew wr).trans hE).old (p:=⟨w.heap.size,1,none⟩) hlw).trans y1
      simp only[putD,zC,zB,zF,zE,Act.put,zP,zR,zQ]
      refine OpGoal.plain ?_
      go_wp2_with fail
      exact⟨rfl,Ext.refl _,rfl⟩
     case o3=>
      intro xv W hE hp
      have r2:xv 2=_:=hp.1
      clear hp
      simp only[putD,zC,zB,zF,zE,Act.put,zP,zR,zQ]
      refine OpGoal.plain ?_
      go_wp2_with fail
      exact⟨rfl,Ext.refl _,rfl⟩
     case last=>
      intro xv W hE hp
      have r0:=hp.1
      have r1:xv 1=_:=hp.2.1
      have r2:xv 2=_:=hp.2.2.1
      have r3:xv 3=_:=hp.2.2.2.1
      clear hp
      simp only[putD,zC,zB,zF,zE,Act.put,zI,zK,zN,zO,zM,zA,zP,zR,zQ]
      obtain⟨g,e0,hg,hrow⟩:=r0
      have hEw:Ext wr W:=(Ext.drew wr).trans hE
      have z:=hrow.2 j hj9
      rw[e0,r3]
      have h9:nmL.length=9:=rfl
      simp only[h9]
      clear r1 r2 r3 e0 hrow h9
      go_wp2_with fail
      go_ret
      exact⟨by rw[HT.out];rfl,hEa.trans hEw⟩
    ·obtain rfl:n=1:=by rw[←HN.out,hl];rfl
     obtain⟨bb,hA1,hbb,z0⟩:=HRD.out 0 a (by rw[hl];rfl)
     subst hA1
     have HT:=zV (show sv e.text=sv (tNot++[32])++sv a.piece by rw[HV.out,h6,hl,sv_app];simp[tx,Ex.pieces_map])
     have hbs:(sv a.piece).size<1073741824:=by
      have h1:=piece_len a
      have h2:=text_len ha
      have h3:=HSZ.out
      have h4:a.size≤e.size:=by have:=Ex.kid_size (e:=e) (k:=0) (by rw[hl];simp);simpa[hl]using this
      rw[sv_size];omega
     rw[h6]at y0
     clear h6 hl ha
     generalize sv a.piece=B at *
     have c1:(⟨#[110,111,116,32]⟩:ByteArray).size≤4:=by decide
     go_wp2_with fail
     go_ret
     exact⟨by rw[HT.out];rfl,hEa⟩
    ·obtain rfl:n=2:=by rw[←HN.out,hl];rfl
     obtain⟨bb,hA1,hbb,z0⟩:=HRD.out 0 a (by rw[hl];rfl)
     obtain⟨b2,hA2,_,z1⟩:=HRD.out 1 b (by rw[hl];rfl)
     subst hA1
     obtain rfl:bb=b2:=by simpa using hA2
     have HT:=zV (two_text h6 hl)
     have s0:=kid_piece HSZ.out ha (by rw[hl];simp)
     have s1:=kid_piece HSZ.out hb (by rw[hl];simp)
     obtain⟨j,hj⟩ :∃j:Nat,e.op=(j:Int)+4:=⟨(e.op-4).toNat,by omega⟩
     have hj9:j<9:=by omega
     have hj4:(e.op-4).toNat=j:=by omega
     rw[hj4]at HT
     have s2:(sv (wdL.getD j [])).size≤3:=by rw[sv_size];exact wd_len j
     rw[hj]at y0
     have e1:(((j:Int)+4) == 1)=false:=int_ne (by omega)
     have e2:(((j:Int)+4) == 2)=false:=int_ne (by omega)
     have e3:(((j:Int)+4) == 3)=false:=int_ne (by omega)
     have e13:(((j:Int)+4) == 13)=false:=int_ne (by omega)
     have hlw:w.heap.size<wr.heap.size:=zS hlt0 HEr.out.sz
     clear h6 hl ha hb hA2 hj hj4
     have HS:=zV (show wdL.getD j []=wdL.getD j [] from rfl)
     generalize hB0:sv a.piece=B0 at *
     generalize hB1:sv b.piece=B1 at *
     obtain⟨B2,hB2⟩ :∃B2,sv (wdL.getD j [])=B2:=⟨_,rfl⟩
     have HB2:=zV hB2
     rw[hB2]at s2 HT
     clear hB0 hB1 hB2
     have k1:(⟨#[32]⟩:ByteArray).size≤1:=by decide
     go_wp2_with fail
     apply wp_region_seq (l:=[_,_,_,_,_,_,_,_,_,_,_,_,_,_,_]) (t:=[_,_]) [some 84,some 85,some 86,some 87,some 88,some 89,some 90,some 91,some 92,some 93,some 94,some 95,some 96,some 97,some 98,some 99,some 2] [[],[0],[1],[2],[],[],[5],[6],[4,7],[8],[3,9],[10],[],[12],[13],[11,14],[15]] [1,2,3,10,8,6,7,8,9,10,11,15,13,14,15] [eqv _,eqv _,eqv _,eqv _,(slS wr.heap.size wdL),eqv _,eqv _,eqv _,(ptS B2),eqv _,eqv _,eqv _,eqv _,eqv _,eqv _] (by kernel_rfl) (by kernel_rfl) ⟨?o0,?o1,?o2,?o3,?o4,?o5,?o6,?o7,?o8,?o9,?o10,?o11,?o12,?o13,?o14,trivial⟩ ?last
     case o0|o1|o5|o12|o13=>
      intro xv W hE hp
      try have q0:xv _=_:=hp.1
      try have q1:xv _=_:=hp.2.1
      clear hp
      simp only[putD,zC,zB,zF,zE,Act.put,zP,zR,zQ]
      refine OpGoal.plain ?_
      go_wp2_with fail
      exact⟨rfl,Ext.refl _,rfl⟩
     case o2|o6|o14=>
      intro xv W hE hp
      try have q0:xv _=_:=hp.1
      try have q1:xv _=_:=hp.2.1
      clear hp
      have y0w:=(((Ext.drew wr).trans hE).old (p:=⟨w.heap.size,0,none⟩) hlw).trans y0
      have z0w:=(((Ext.drew wr).trans hE).old (p:=⟨bb,0,none⟩) hbb).trans z0
      have z1w:=(((Ext.drew wr).trans hE).old (p:=⟨bb,1,none⟩) hbb).trans z1
      simp only[putD,zC,zB,zF,zE,Act.put,zP,zR,zQ]
      refine OpGoal.plain ?_
      go_wp2_with fail
      exact⟨rfl,Ext.refl _,rfl⟩
     case o3|o7=>
      intro xv W hE hp
      try have q0:xv _=_:=hp.1
      try have q1:xv _=_:=hp.2.1
      clear hp
      simp only[putD,zC,zB,zF,zE,Act.put,zP,zR,zQ]
      refine OpGoal.plain ?_
      go_wp2_with fail
      exact⟨rfl,Ext.refl _,rfl⟩
     case o4=>
      intro xv W hE _
      simp only[putD,zC,zF,zE]
      refine OpGoal.plain ?_
      go_wp2_with fail
      refine(words_any _).mono ?_
      rintro r w' ⟨rfl,hrow,hE5⟩
      go_wp2_with fail
      exact⟨rfl,hE5,_,rfl,by have:=hE.sz;simpa using this,hrow⟩
     case o8=>
      intro xv W hE hp
      have r4:=hp.1
      have r7:xv 7=_:=hp.2.1
      clear hp
      obtain⟨g,e4,hg,hrow⟩:=r4
      have hz:=hrow.2 j hj9
      have hz1:=hrow.1
      have HZ:=zV (show W.cell? ⟨g,j,none⟩=some (.string B2) by rw[←HB2.out];exact hz)
      have h9:wdL.length=9:=rfl
      rw[h9]at e4
      clear hz hrow h9
      simp only[putD,zC,zB,zF,zE,Act.put,zP,zR,zQ]
      refine OpGoal.plain ?_
      go_wp2_with fail
      exact⟨rfl,Ext.refl _,_,rfl,hz1,HZ.out⟩
     case o9=>
      intro xv W hE hp
      have r8:=hp.1
      clear hp
      have y0w:=(((Ext.drew wr).trans hE).old (p:=⟨w.heap.size,0,none⟩) hlw).trans y0
      have z0w:=(((Ext.drew wr).trans hE).old (p:=⟨bb,0,none⟩) hbb).trans z0
      have z1w:=(((Ext.drew wr).trans hE).old (p:=⟨bb,1,none⟩) hbb).trans z1
      obtain⟨ad,e8,hb8,hc8⟩:=r8
      simp only[putD,zC,zB,zF,zE,Act.put,zP,zR,zQ]
      refine OpGoal.plain ?_
      go_wp2_with fail
      exact⟨rfl,Ext.refl _,rfl⟩
     case o10|o11=>
      intro xv W hE hp
      try have q0:xv _=_:=hp.1
      try have q1:xv _=_:=hp.2.1
      clear hp
      simp only[putD,zC,zB,zF,zE,Act.put,zP,zR,zQ]
      refine OpGoal.plain ?_
      go_wp2_with fail
      exact⟨rfl,Ext.refl _,rfl⟩
     case last=>
      intro xv W hE hp
      have r0:xv 0=_:=hp.1
      have r1:xv 1=_:=hp.2.1
      have r2:xv 2=_:=hp.2.2.1
      have r3:xv 3=_:=hp.2.2.2.1
      have r4:=hp.2.2.2.2.1
      have r5:xv 5=_:=hp.2.2.2.2.2.1
      have r6:xv 6=_:=hp.2.2.2.2.2.2.1
      have r7:xv 7=_:=hp.2.2.2.2.2.2.2.1
      have r8:=hp.2.2.2.2.2.2.2.2.1
      have r9:xv 9=_:=hp.2.2.2.2.2.2.2.2.2.1
      have r10:xv 10=_:=hp.2.2.2.2.2.2.2.2.2.2.1
      have r11:xv 11=_:=hp.2.2.2.2.2.2.2.2.2.2.2.1
      have r12:xv 12=_:=hp.2.2.2.2.2.2.2.2.2.2.2.2.1
      have r13:xv 13=_:=hp.2.2.2.2.2.2.2.2.2.2.2.2.2.1
      have r14:xv 14=_:=hp.2.2.2.2.2.2.2.2.2.2.2.2.2.2.1
      clear hp
      simp only[putD,zC,zB,zF,zE,Act.put,zI,zK,zN,zO,zM,zA,zP,zR,zQ]
      have hEw:Ext wr W:=(Ext.drew wr).trans hE
      rw[r11,r14]
      clear r0 r1 r2 r3 r4 r5 r6 r7 r8 r9 r10 r11 r12 r13 r14
      go_wp2_with fail
      go_ret
      exact⟨by rw[HT.out];rfl,hEa.trans hEw⟩
    ·obtain rfl:n=3:=by rw[←HN.out,hl];rfl
     obtain⟨bb,hA1,hbb,z0⟩:=HRD.out 0 a (by rw[hl];rfl)
     obtain⟨b2,hA2,_,z1⟩:=HRD.out 1 b (by rw[hl];rfl)
     obtain⟨b3,hA3,_,z2⟩:=HRD.out 2 c' (by rw[hl];rfl)
     subst hA1
     obtain rfl:bb=b2:=by simpa using hA2
     obtain rfl:bb=b3:=by simpa using hA3
     have HT:=zV (show sv e.text=sv (tIf++[32])++sv a.piece++sv ([32]++tThen++[32])++sv b.piece++sv ([32]++tElse++[32])++sv c'.piece by rw[HV.out,h6,hl,sv_app,sv_app,sv_app,sv_app,sv_app];simp[tx,Ex.pieces_map])
     have hks :∀y s,Rt y s→y∈e.l→(sv y.piece).size<1073741824:=fun y s hy hm=>by
      have h1:=piece_len y
      have h2:=text_len hy
      have h3:=HSZ.out
      have h4:=Ex.size_mem hm
      have h5:=e.kids_lt
      rw[sv_size];omega
     have s0:=hks a _ ha (by rw[hl];simp)
     have s1:=hks b _ hb (by rw[hl];simp)
     have s2:=hks c' _ hc (by rw[hl];simp)
     rw[h6]at y0
     clear h6 hl ha hb hc hks hA2 hA3
     generalize sv a.piece=B0 at *
     generalize sv b.piece=B1 at *
     generalize sv c'.piece=B2 at *
     have k1:(⟨#[105,102,32]⟩:ByteArray).size≤3:=by decide
     have k2:(⟨#[32,116,104,101,110,32]⟩:ByteArray).size≤6:=by decide
     have k3:(⟨#[32,101,108,115,101,32]⟩:ByteArray).size≤6:=by decide
     go_wp2_with fail
     go_quiet (fail)
     go_wp2_with fail
     go_ret
     exact⟨by rw[HT.out];rfl,hEa.trans (ext_dn _ _)⟩
end Go.Proofs.YtmiencglfhpmeaaGreatDoor
namespace Go.Proofs.YtmiencglfhpmeaaGreatDoor
open Go.RowKit Hach
def txT (e:Ex):List UInt8:=if chkE e=0 then e.text else[]
set_option maxRecDepth 100000 in
set_option maxHeartbeats 2000000 in
theorem TextC_any (e:Ex) (d:Nat) (A:Option Addr) (c:Nat) (w:World) (hX:ExB w w.heap.size d A e.l) (hsz:e.size<1099511627776) (hok:e.ok) (htab:Tabs w) :
  Calls Tryz.prog 49 #[.agg (e.cells A c).toArray] w fun r w'=>r=.returned (.tuple #[.string (sv (txT e)),.int .i64 (chkE e)])∧Ext w w':=by
 obtain⟨w0,hw0⟩ :∃w0,w.alloc (.cells (e.cells A c).toArray 47)=w0:=⟨_,rfl⟩
 have hE0:Ext w w0:=by rw[←hw0];exact Ext.alloc _ _
 have hBx:Box w0 w.heap.size e A c:=by rw[←hw0];exact Box.new w e A c 47
 have HCK:=zV (fun(W:World) (h:Ext w W)=>Check_any e d A c W (hX.ext h) hsz hok)
 have HEV:=zV (show txT e=if chkE e=0 then e.text else[] from rfl)
 unfold Ex.cells at hw0 HCK
 have HW:=zV hw0
 have HBx:=zV hBx
 obtain⟨_,y0,y1,y2,y3,y4,y5,y6⟩:=hBx
 clear hw0 hsz
 by_cases hc:chkE e=0
 ·have t1:(chkE e != 0)=false:=by simp[hc]
  have HVL:=zV (fun(W:World) (h:Ext w W)=>text_any d e (chkT e) A c W (chk_rt hc).1 (hX.ext h) hok (by have:=(chk_rt hc).2;omega) (htab.ext h))
  have HEV2:=zV (show txT e=e.text by rw[HEV.out,if_pos hc])
  have HC0:=zV hc
  unfold Ex.cells at *
  clear hc hX hok HEV htab
  generalize hT:chkT e=T at *
  generalize hE':chkE e=E at *
  clear hT hE'
  go_enter Tryz.func49,Tryz.ntmps49
  go_upto_region 1 with fail
  rw[HW.out]
  go_wp2_with fail
  refine(HCK.out _ hE0).mono ?_
  rintro r w1 ⟨rfl,hE1⟩
  obtain⟨_,y0,y1,y2,y3,y4,y5,y6⟩:=HBx.out.ext hE1
  go_wp2_with fail
  refine(HVL.out _ (hE0.trans hE1)).mono ?_
  rintro r w2 ⟨rfl,hE2⟩
  go_wp2_with fail
  go_ret2
  exact⟨by rw[HEV2.out,HC0.out];rfl,(hE0.trans hE1).trans hE2⟩
 ·have t1:(chkE e != 0)=true:=by simpa using hc
  have HEV2:=zV (show txT e=[] by rw[HEV.out,if_neg hc])
  clear hc hX hok HEV htab
  generalize hT:chkT e=T at *
  generalize hE':chkE e=E at *
  clear hT hE'
  unfold Ex.cells
  go_enter Tryz.func49,Tryz.ntmps49
  go_upto_region 1 with fail
  rw[HW.out]
  go_wp2_with fail
  refine(HCK.out _ hE0).mono ?_
  rintro r w1 ⟨rfl,hE1⟩
  go_wp2_with fail
  go_ret2
  exact⟨by rw[HEV2.out];rfl,hE0.trans hE1⟩
end Go.Proofs.YtmiencglfhpmeaaGreatDoor
