/- Rules in which something is changed: the contract of the reference's Odd (printed by gen_ob.py). -/
import Derived.Test.YtmiencglfhpmeaaGreatDoorKQOa
open List renaming foldl_cons → zA, foldl_nil → zB, getD_cons_succ → zC, getD_cons_zero → zD, length_append → zE, length_map → zF, mem_append → zG, mem_of_getElem? → zH, mem_singleton → zI, nil_append → zJ, setIfInBounds_toArray → zK, set_cons_succ → zL, set_cons_zero → zM
open Nat renaming le_trans → zN, lt_of_lt_of_le → zO, lt_trans → zP, zero_le → zQ
open Option renaming some.inj → zR
open Int renaming eq_ofNat_of_zero_le → zS
open Go.Lib renaming hid → zT
set_option linter.unusedSimpArgs false
set_option linter.unusedVariables false
namespace Go.Proofs.YtmiencglfhpmeaaGreatDoor
open Go.RowKit Hach
theorem ok_nm {r:Rl}(h:r.ok∧r.small) {s:List UInt8}(hs:s.length<4294967296):(⟨s,r.pr,r.e1,r.e2,r.e3,r.e4⟩:Rl).ok∧(⟨s,r.pr,r.e1,r.e2,r.e3,r.e4⟩:Rl).small:=by
 obtain⟨⟨_,h2⟩,⟨s1,s2,s3,s4⟩⟩:=h
 exact⟨⟨hs,h2⟩,⟨s1,s2,s3,s4⟩⟩
theorem ok_pr {r:Rl}(h:r.ok∧r.small) {p:Int}(hp:InI p):(⟨r.nm,p,r.e1,r.e2,r.e3,r.e4⟩:Rl).ok∧(⟨r.nm,p,r.e1,r.e2,r.e3,r.e4⟩:Rl).small:=by
 obtain⟨⟨h1,_,h3⟩,⟨s1,s2,s3,s4⟩⟩:=h
 exact⟨⟨h1,hp,h3⟩,⟨s1,s2,s3,s4⟩⟩
theorem ok_e1 {r:Rl}(h:r.ok∧r.small) {y:Ex}(hy:y.ok∧y.size<4294967296):(⟨r.nm,r.pr,y,r.e2,r.e3,r.e4⟩:Rl).ok∧(⟨r.nm,r.pr,y,r.e2,r.e3,r.e4⟩:Rl).small:=by
 obtain⟨⟨h1,h2,h3,h4,h5,h6⟩,⟨s1,s2,s3,s4⟩⟩:=h
 exact⟨⟨h1,h2,⟨hy.1,zP hy.2 (by decide)⟩,h4,h5,h6⟩,⟨hy.2,s2,s3,s4⟩⟩
theorem ok_e2 {r:Rl}(h:r.ok∧r.small) {y:Ex}(hy:y.ok∧y.size<4294967296):(⟨r.nm,r.pr,r.e1,y,r.e3,r.e4⟩:Rl).ok∧(⟨r.nm,r.pr,r.e1,y,r.e3,r.e4⟩:Rl).small:=by
 obtain⟨⟨h1,h2,h3,h4,h5,h6⟩,⟨s1,s2,s3,s4⟩⟩:=h
 exact⟨⟨h1,h2,h3,⟨hy.1,zP hy.2 (by decide)⟩,h5,h6⟩,⟨s1,hy.2,s3,s4⟩⟩
theorem ok_e3 {r:Rl}(h:r.ok∧r.small) {y:Ex}(hy:y.ok∧y.size<4294967296):(⟨r.nm,r.pr,r.e1,r.e2,y,r.e4⟩:Rl).ok∧(⟨r.nm,r.pr,r.e1,r.e2,y,r.e4⟩:Rl).small:=by
 obtain⟨⟨h1,h2,h3,h4,h5,h6⟩,⟨s1,s2,s3,s4⟩⟩:=h
 exact⟨⟨h1,h2,h3,h4,⟨hy.1,zP hy.2 (by decide)⟩,h6⟩,⟨s1,s2,hy.2,s4⟩⟩
theorem ok_e4 {r:Rl}(h:r.ok∧r.small) {y:Ex}(hy:y.ok∧y.size<4294967296):(⟨r.nm,r.pr,r.e1,r.e2,r.e3,y⟩:Rl).ok∧(⟨r.nm,r.pr,r.e1,r.e2,r.e3,y⟩:Rl).small:=by
 obtain⟨⟨h1,h2,h3,h4,h5,h6⟩,⟨s1,s2,s3,s4⟩⟩:=h
 exact⟨⟨h1,h2,h3,h4,h5,⟨hy.1,zP hy.2 (by decide)⟩⟩,⟨s1,s2,s3,hy.2⟩⟩
theorem exk_num {n:Int}(h:0≤n∧n<100):(numE n).ok∧(numE n).size<4294967296:=⟨rt_ok (num_rt (by omega)),by rw[num_size];decide⟩
theorem exk_var {n:Int}(h : -100≤n∧n<100):(varE n).ok∧(varE n).size<4294967296:=by
 refine⟨?_,by rw[var_size];decide⟩
 unfold varE Ex.ok Ex.oks
 exact⟨by omega,by omega,by omega,by omega,by decide,trivial⟩
theorem exk_word:(wordE [120]).ok∧(wordE [120]).size<4294967296:=⟨rt_ok (Rt.con ⟨3,0,false,[120]⟩ (by decide)),by rw[word_size];decide⟩
theorem exk_wid {n:Int}(h:0≤n∧n<100):(Ex.mk (n+3) 0 0 0 false [] [numE n,numE 2]).ok∧(Ex.mk (n+3) 0 0 0 false [] [numE n,numE 2]).size<4294967296:=by
 refine⟨?_,by rw[size_2',num_size,num_size];decide⟩
 unfold Ex.ok Ex.oks Ex.oks Ex.oks
 exact⟨by omega,by omega,by omega,by omega,by decide,(exk_num h).1,(exk_num (n:=2) (by decide)).1,trivial⟩
structure OdP (W:World) (g co d:Nat) (us:List Rn) (l:List Rl) (i:Nat) (u:Rn):Prop where
 b:MdB W 0 g co d us l
 u:us[i]?=some u
theorem OdP.ext {W W':World}{g co d i:Nat}{us:List Rn}{l:List Rl}{u:Rn}(h:OdP W g co d us l i u) (hE:Ext W W'):OdP W' g co d us l i u:=⟨h.b.ext hE,h.u⟩
theorem OdP.k {W:World}{g co d i:Nat}{us:List Rn}{l:List Rl}{u:Rn}(h:OdP W g co d us l i u):u.kids W (fun b=>0≤b∧b<W.heap.size∧b≠g) d:=h.b.k u (zH h.u)
theorem OdP.r {W:World}{g co d i:Nat}{us:List Rn}{l:List Rl}{u:Rn}(h:OdP W g co d us l i u):l[i]?=some u.r:=by rw[←h.b.m,List.getElem?_map,h.u];rfl
theorem OdP.e {W:World}{g co d i M:Nat}{us:List Rn}{l:List Rl}{u:Rn}(h:OdP W g co d us l i u) {w:World}(off:Nat) (y:Ex) (A:Option Addr) (k dy:Nat) (u':Rn) (hl:off+7≤30) (hc:setN u.cells off (y.cells A k)=u'.cells) (hk:u'.kids W (fun b=>0≤b∧b<W.heap.size∧b≠g) dy) (hok :∀r∈l,r.ok∧r.small) (hr:u'.r.ok∧u'.r.small) (hM:l.length≤M) (hE:Ext w W) (hg:w.heap.size≤g) :
  OddR M w (.returned (.slice (some ⟨g,0,none⟩) l.length co)) (W.setCells g (i*30+off) (y.cells A k)):=by
 obtain⟨h1,h2⟩:=h.b.put h.u off (y.cells A k) hc (by show off+7≤30;exact hl) hk
 exact OddR.of h1 hok hr (fun e=>by have:=h.r;rw[e]at this;simp at this) hM (ext_fresh hE h2 hg)
theorem two_bytes {w:World}{g:Nat}{y z:UInt8}(h0:w.cell? ⟨g,0,none⟩=some (.int .u8 (y.toNat:Nat))) (h1:w.cell? ⟨g,1,none⟩=some (.int .u8 (z.toNat:Nat))) (c:Nat):(convert 97 9 (.slice (some ⟨g,0,none⟩) 2 c)).run Tryz.prog w=.ok (.string ⟨#[y,z]⟩) w:=by
 have hc:=run_convert_bytes_arg (P:=Tryz.prog) w 97 5 Tryz.underlying97 Tryz.underlying5 g 0 2 c [(y.toNat:Int),(z.toNat:Int)] rfl (by
  intro i hi
  have hi2:i<2:=by simpa using hi
  rcases(by omega:i=0∨i=1) with rfl|rfl
  ·exact h0
  ·exact h1) 9 Tryz.underlying9
 rw[hc]
 simp[strOfNums]
def u8P:SP:=⟨fun v _ =>∃x:UInt8,v=.int .u8 ((x.toNat:Nat):Int),fun h _=>h⟩
def byP:SP:=⟨fun v W =>∃(g:Nat) (x y:UInt8),v=.slice (some ⟨g,0,none⟩) 2 2∧g<W.heap.size∧W.cell? ⟨g,0,none⟩=some (.int .u8 ((x.toNat:Nat):Int))∧W.cell? ⟨g,1,none⟩=some (.int .u8 ((y.toNat:Nat):Int)),fun h hE=>by
 obtain⟨g,x,y,e,h1,h2,h3⟩:=h
 exact⟨g,x,y,e,zO h1 hE.sz,(hE.old (p:=⟨g,0,none⟩) h1).trans h2,(hE.old (p:=⟨g,1,none⟩) h1).trans h3⟩⟩
def st2P:SP:=⟨fun v _ =>∃y z:UInt8,v=.string ⟨#[y,z]⟩,fun h _=>h⟩
def st3P:SP:=⟨fun v _ =>∃s:List UInt8,v=.string ⟨s.toArray⟩∧s.length=3,fun h _=>h⟩
def tU (u:Rn) (s:List UInt8):Rn:=⟨⟨s,0,u.r.e1,numE 1,numE 1,numE 1⟩,u.A1,none,none,none,u.c1,0,0,0⟩
def tuP (u:Rn):SP:=⟨fun v _ =>∃s:List UInt8,s.length=3∧v=.agg #[.string ⟨s.toArray⟩,.int .i64 0,.int .i64 u.r.e1.op,.int .i64 u.r.e1.var,.int .i64 u.r.e1.ty,.int .i64 u.r.e1.n,.bool u.r.e1.b,.string ⟨u.r.e1.s.toArray⟩,.slice u.A1 u.r.e1.l.length u.c1,.int .i64 1,.int .i64 0,.int .i64 1,.int .i64 1,.bool false,.string ⟨#[]⟩,.slice none 0 0,.int .i64 1,.int .i64 0,.int .i64 1,.int .i64 1,.bool false,.string ⟨#[]⟩,.slice none 0 0,.int .i64 1,.int .i64 0,.int .i64 1,.int .i64 1,.bool false,.string ⟨#[]⟩,.slice none 0 0],fun h _=>h⟩
def tuS (u:Rn):SP:=⟨fun v W =>∃(g:Nat) (s:List UInt8),v=.slice (some ⟨g,0,none⟩) 1 1∧s.length=3∧W.heap[g]?=some (.cells (tU u s).cells.toArray 49 (0,0)),fun h hE=>by
 obtain⟨g,s,e,h1,h2⟩:=h
 exact⟨g,s,e,h1,(hE.below.block g (Array.getElem?_eq_some_iff.1 h2).1).trans h2⟩⟩
structure OdL (wb wr w:World) (g i:Nat) (u:Rn) (d N k:Nat) (ov:Value) (vs:List Rn):Prop where
 o:OwnR wr 0 ov vs
 ks:KidsR wr (fun b=>b<wb.heap.size∧b≠g) d vs
 r:wr.rangeAt g (i*30) u.cells
 iu:vs[i]?=some u
 e:Ext w wr
 own:ov.ownBlock=some g ∨∃q,ov.ownBlock=some q∧wb.heap.size≤q
 p :∀y∈vs,y.r.ok∧y.r.small
 len:vs.length=N+k
 sz:wb.heap.size≤wr.heap.size
theorem OdL.next {wb wr w wV w6:World}{g i:Nat}{u t:Rn}{d N k:Nat}{ov v':Value}{vs:List Rn}(h:OdL wb wr w g i u d N k ov vs) (hgw:w.heap.size≤g) (hgb:g<wb.heap.size) (hE:Ext wr wV) (ht:t.kids wr (fun b=>b<wb.heap.size∧b≠g) d) (hp:t.r.ok∧t.r.small) (ho:OwnR w6 0 v' (vs++[t]))
  (hc:(Ext wV w6 ∧∀k,v'.ownBlock=some k→wV.heap.size≤k)∨(v'.ownBlock=ov.ownBlock∧wV.grownBy w6 ov.ownBlock)):OdL wb w6 w g i u d N (k+1) v' (vs++[t]):=by
 have hgV:g<wV.heap.size:=zO hgb (zN h.sz hE.sz)
 have hi:(vs++[t])[i]?=some u:=by rw[List.getElem?_append_left (List.getElem?_eq_some_iff.1 h.iu).1];exact h.iu
 have hq :∀q,ov.ownBlock=some q→q=g∨wb.heap.size≤q:=fun q e=>by
  rcases h.own with e2|⟨q',e2,h2⟩
  ·rw[e]at e2;exact .inl (zR e2)
  ·rw[e]at e2;rw[zR e2];exact .inr h2
 have hkeep :∀b,b<wb.heap.size∧b≠g →∀o,w6.cell? ⟨b,o,none⟩=wr.cell? ⟨b,o,none⟩:=fun b hb o=>by
  have hbr:b<wr.heap.size:=zO hb.1 h.sz
  have h1:=hE.old (p:=⟨b,o,none⟩) hbr
  rcases hc with⟨hE2,_⟩|⟨_,hG⟩
  ·exact(hE2.old (p:=⟨b,o,none⟩) (zO hbr hE.sz)).trans h1
  ·refine(grown_cell hG (zO hbr hE.sz) (fun e=>?_) o).trans h1
   rcases hq b e with rfl|h3
   ·exact hb.2 rfl
   ·omega
 have hsz:wV.heap.size≤w6.heap.size:=by
  rcases hc with⟨hE2,_⟩|⟨_,hG⟩
  ·exact hE2.sz
  ·exact hG.size
 refine⟨ho,fun y hy=>?_,?_,hi,?_,?_,fun y hy=>?_,by rw[zE,h.len];simp;omega,zN h.sz (zN hE.sz hsz)⟩
 ·rcases zG.1 hy with hy|hy
  ·exact(h.ks y hy).keep hkeep
  ·rw[zI.1 hy];exact ht.keep hkeep
 ·rcases hc with⟨hE2,_⟩|⟨e,hG⟩
  ·exact range_ext (range_ext h.r (zO hgb h.sz) hE) hgV hE2
  ·obtain⟨A,c,e2,hrow⟩:=ho.form
   obtain⟨b,_,_,_,e3,hat⟩:=hrow (by simp)
   rcases h.own with e4|⟨q,e4,h4⟩
   ·have:b=g:=by rw[e,e4]at e3;exact(zR e3).symm
    subst this
    exact hat i u hi
   ·refine range_keep (range_ext h.r (zO hgb h.sz) hE) fun o=>grown_cell hG hgV (fun e5=>?_) o
    rw[e4]at e5
    have:=zR e5
    omega
 ·rcases hc with⟨hE2,_⟩|⟨_,hG⟩
  ·exact(h.e.trans hE).trans hE2
  ·refine Below.trans (h.e.trans hE) (below_row' hG (h.e.trans hE).sz fun q e=>?_)
   rcases hq q e with rfl|h3
   ·exact hgw
   ·omega
 ·rcases hc with⟨_,h2⟩|⟨e,_⟩
  ·obtain⟨A,c,e2,hrow⟩:=ho.form
   obtain⟨b,_,_,_,e3,_⟩:=hrow (by simp)
   have:=h2 b e3
   exact .inr ⟨b,e3,zN h.sz (zN hE.sz this)⟩
  ·rw[e];exact h.own
 ·rcases zG.1 hy with hy|hy
  ·exact h.p y hy
  ·rw[zI.1 hy];exact hp
theorem tU_ok {u:Rn}(h:u.r.ok∧u.r.small) {s:List UInt8}(hs:s.length=3):(tU u s).r.ok∧(tU u s).r.small:=by
 obtain⟨⟨_,_,h3,_,_,_⟩,⟨s1,_,_,_⟩⟩:=h
 have e:=exk_num (n:=1) (by decide)
 exact⟨⟨by show s.length<_;omega,⟨by show(-9223372036854775808:Int)≤0;decide,by show(0:Int)≤9223372036854775807;decide⟩,h3,⟨e.1,zP e.2 (by decide)⟩,⟨e.1,zP e.2 (by decide)⟩,⟨e.1,zP e.2 (by decide)⟩⟩,⟨s1,e.2,e.2,e.2⟩⟩
set_option maxRecDepth 100000 in
set_option maxHeartbeats 16000000 in
theorem Odd_any (l:List Rl) (A:Option Addr) (c d:Nat) (q0 q1 q2:Int) (w:World) (hX:RlB w w.heap.size d A l) (hne:l≠[]) (hl:l.length≤100000) (hok :∀r∈l,r.ok∧r.small) :
  Calls Tryz.prog 35 #[.slice A l.length c,.agg #[.int .i64 q0,.int .i64 q1,.int .i64 q2]] w (OddR (l.length+41) w):=by
 obtain⟨b,o,e,_⟩:=hX hne
 subst e
 obtain⟨us,hm,hK,hat⟩:=RlL.rns hX
 have hlen:us.length=l.length:=by rw[←hm,zF]
 have hpos:0<l.length:=List.length_pos_iff.2 hne
 obtain⟨w0,hw0⟩ :∃q,w.alloc (.cells #[.int .i64 q0,.int .i64 q1,.int .i64 q2] 23)=q:=⟨_,rfl⟩
 have hE0:Ext w w0:=by rw[←hw0];exact Ext.alloc _ _
 have hQ :∀V:World,Ext w0 V→V.cell? ⟨w.heap.size,0,none⟩=some (.int .i64 q0)∧V.cell? ⟨w.heap.size,1,none⟩=some (.int .i64 q1)∧V.cell? ⟨w.heap.size,2,none⟩=some (.int .i64 q2):=fun V h=>by
  have hlt:w.heap.size<w0.heap.size:=by rw[←hw0];simp
  refine⟨?_,?_,?_⟩
  ·rw[h.old (p:=⟨w.heap.size,0,none⟩) hlt,←hw0,World.cell?_alloc_new];rfl
  ·rw[h.old (p:=⟨w.heap.size,1,none⟩) hlt,←hw0,World.cell?_alloc_new];rfl
  ·rw[h.old (p:=⟨w.heap.size,2,none⟩) hlt,←hw0,World.cell?_alloc_new];rfl
 have HQ:=zT hQ
 have HW0:=zT hw0
 have HE0:=zT hE0
 have HK:=zT hK
 have HM:=zT hm
 have HOK:=zT hok
 obtain⟨N,hN⟩ :∃q,l.length=q:=⟨_,rfl⟩
 rw[hN]at hlen hl hpos ⊢
 have HN:=zT hN
 have HLEN:=zT hlen
 have hbl:us≠[]→b<w.heap.size:=fun _=>by obtain⟨b',o',e',h',_⟩:=hX hne;simp only[Option.some.injEq,Addr.mk.injEq,and_true]at e';rw[e'.1];exact h'
 have HAT:Hid (∀V:World,Ext w V →∀(j:Nat) (t:Rn),us[j]?=some t→V.rangeAt b (o+j*30) t.cells):=zT fun V h j t ht=>range_ext (hat j t ht) (hbl (by intro e;rw[e]at ht;simp at ht)) h
 have MO:=zT (fun(n m:Int) (W:World) (h1:0<m) (h2:m<4294967296)=>mod_any n m W h1 h2)
 have NU:=zT (fun(n:Int) (W:World)=>number_any' n W)
 have VA:=zT (fun(n:Int) (W:World)=>var_any' n W)
 have WO:=zT (fun(s:List UInt8) (W:World)=>word_any' s W)
 unfold New0 at NU VA WO
 clear hX hat hm hK hQ hw0 hE0 hok hN hlen hbl
 go_enter Tryz.func35,Tryz.ntmps35
 go_upto_region 1 with fail
 rw[HW0.out]
 have hEe:=HE0.out.trans (Ext.alloc w0 (.cells #[] 49))
 have HEe:=zT hEe
 have hf1:0<us.length:=by rw[HLEN.out];exact hpos
 have hf2:([]:List Rn).length+us.length<4294967296:=by rw[HLEN.out];simp;omega
 clear hEe
 go_upto_region 2 with(at_builtin;refine app_G rfl 9 10 rfl w0.heap.size 0 0 [] rfl (fun j t h=>by simp at h) b o c us (by rw[HLEN.out];rfl) (HAT.out _ HEe.out) (by simpa using hf1) hf2 ?_;intro vo wb ho hEb)
 obtain⟨Ao,co,e,hrow⟩:=OwnR.form ho
 obtain⟨g,eA,hg1,hg2,_,_⟩:=hrow (by simpa using hf1)
 subst e;subst eA
 have hEwb:Ext w wb:=HEe.out.trans hEb
 have hwg:w.heap.size≤g:=zN HEe.out.sz hg1
 have hB:MdB wb 0 g co d us l:=⟨HM.out,(by have:=ho.low (zQ _);exact this),fun y hy=>((HK.out y hy).keep fun k hk o=>hEwb.old (p:=⟨k,o,none⟩) hk).more fun k hk=>⟨zQ _,zO hk hEwb.sz,by omega⟩⟩
 have HB:=zT hB
 have HEW:=zT hEwb
 have HE0b:=zT ((Ext.alloc w0 (.cells #[] 49)).trans hEb)
 have HWG:=zT hwg
 have hnil:(([]:List Rn)++us).length=N:=by rw[zJ,HLEN.out]
 rw[hnil]
 clear ho hEb hrow hg1 hB hEwb hwg hnil hf1 hf2
 obtain⟨z0,z1,z2⟩:=HQ.out wb HE0b.out
 go_wp2_with fail
 refine(MO.out q1 12 _ (by decide) (by decide)).mono ?_
 rintro e w' ⟨rfl,hw'⟩
 have hw2:=hw'.symm
 clear hw'
 subst hw2
 obtain⟨n1,n2⟩:=rmod_bd q1 (m:=12) (by decide)
 obtain⟨n,hn⟩:=zS n1
 rw[hn]at n1 n2 ⊢
 have hn12:n<12:=by omega
 have hNz:(N == 0)=false:=by rw[beq_eq_false_iff_ne];omega
 clear hn n1 n2
 go_wp2_with fail
 refine(MO.out q2 (N:Int) _ (by omega) (by omega)).mono ?_
 rintro e w' ⟨rfl,hw'⟩
 have hw2:=hw'.symm
 clear hw'
 subst hw2
 obtain⟨i1,i2⟩:=rmod_bd q2 (m:=(N:Int)) (by omega)
 obtain⟨i,hi⟩:=zS i1
 rw[hi]at i1 i2 ⊢
 have hiN:i<N:=by omega
 clear hi i1 i2
 obtain⟨u,hu⟩ :∃q,us[i]?=some q:=⟨_,List.getElem?_eq_getElem (by rw[HLEN.out];exact hiN)⟩
 have HP:Hid (OdP wb g co d us l i u):=zT ⟨HB.out,hu⟩
 have HUOK:=zT (HOK.out u.r (zH HP.out.r))
 have HLM:Hid (l.length≤N+41):=zT (by rw[HN.out];omega)
 clear hu
 go_wp2_with fail
 refine(MO.out q0 9 _ (by decide) (by decide)).mono ?_
 rintro e w' ⟨rfl,hw'⟩
 have hw2:=hw'.symm
 clear hw'
 subst hw2
 obtain⟨s1,s2⟩:=rmod_bd q0 (m:=9) (by decide)
 obtain⟨s,hs⟩:=zS s1
 rw[hs]at s1 s2 ⊢
 have hs9:s<9:=by omega
 clear hs s1 s2
 rcases(by omega:s=0∨s=1∨s=2∨s=3∨s=4∨s=5∨s=6∨s=7∨s=8) with rfl|rfl|rfl|rfl|rfl|rfl|rfl|rfl|rfl
 ·obtain⟨wr,hwr⟩ :∃q,wb.alloc (.cells #[.string ⟨#[]⟩,.string ⟨#[97,108,108]⟩,.string ⟨#[114,49]⟩,.string ⟨#[32,120]⟩,.string ⟨#[97,34,98]⟩,.string ⟨#[122]⟩,.string ⟨#[110,105,103,104,116]⟩,.string ⟨#[120,47,121]⟩,.string ⟨#[113]⟩,.string ⟨#[119]⟩,.string ⟨#[101]⟩,.string ⟨#[116]⟩] 9)=q:=⟨_,rfl⟩
  have hEr:Ext wb wr:=by rw[←hwr];exact Ext.alloc _ _
  have hv :∃s:List UInt8,wr.cell? ⟨wb.heap.size,n,none⟩=some (.string ⟨s.toArray⟩)∧s.length<100:=by
   have key :∀v,(#[.string ⟨#[]⟩,.string ⟨#[97,108,108]⟩,.string ⟨#[114,49]⟩,.string ⟨#[32,120]⟩,.string ⟨#[97,34,98]⟩,.string ⟨#[122]⟩,.string ⟨#[110,105,103,104,116]⟩,.string ⟨#[120,47,121]⟩,.string ⟨#[113]⟩,.string ⟨#[119]⟩,.string ⟨#[101]⟩,.string ⟨#[116]⟩]:Array Value)[n]?=some v→wr.cell? ⟨wb.heap.size,n,none⟩=some v:=fun v hv=>by
    rw[←hwr,World.cell?_alloc_new];exact hv
   rcases(by omega:n=0∨n=1∨n=2∨n=3∨n=4∨n=5∨n=6∨n=7∨n=8∨n=9∨n=10∨n=11) with rfl|rfl|rfl|rfl|rfl|rfl|rfl|rfl|rfl|rfl|rfl|rfl<;>exact⟨_,key _ rfl,by decide⟩
  have HWR:=zT hwr
  obtain⟨s,hv,hs100⟩:=hv
  have HS:=zT hs100
  have HPr:=zT (HP.out.ext hEr)
  obtain⟨_,cf⟩:=HPr.out.b.there HPr.out.u (j:=0) (by decide)
  rw[Nat.add_zero]at cf
  have cc2:wr.cell? ⟨g,i*30,none⟩=some (.string ⟨u.r.nm.toArray⟩):=by have:=HPr.out.b.at_ i u HPr.out.u 0 _ rfl;rwa [Nat.add_zero]at this
  have HER:=zT (HEW.out.trans hEr)
  clear hEr hs100
  subst hwr
  clear HWR
  go_wp2_with fail
  go_ret
  obtain⟨h1,h2⟩:=HP.out.b.put HP.out.u 0 [.string ⟨s.toArray⟩] (u':=⟨⟨s,u.r.pr,u.r.e1,u.r.e2,u.r.e3,u.r.e4⟩,u.A1,u.A2,u.A3,u.A4,u.c1,u.c2,u.c3,u.c4⟩) (d':=d) rfl (by show 0+1≤30;decide) ⟨HP.out.k.k1,HP.out.k.k2,HP.out.k.k3,HP.out.k.k4⟩
  have hfin:=OddR.of (h1.ext (Ext.alloc _ (.cells #[.string ⟨#[]⟩,.string ⟨#[97,108,108]⟩,.string ⟨#[114,49]⟩,.string ⟨#[32,120]⟩,.string ⟨#[97,34,98]⟩,.string ⟨#[122]⟩,.string ⟨#[110,105,103,104,116]⟩,.string ⟨#[120,47,121]⟩,.string ⟨#[113]⟩,.string ⟨#[119]⟩,.string ⟨#[101]⟩,.string ⟨#[116]⟩] 9))) HOK.out (ok_nm HUOK.out (by have:=HS.out;omega)) hne HLM.out ((ext_fresh HEW.out h2 HWG.out).trans (Ext.alloc _ (.cells #[.string ⟨#[]⟩,.string ⟨#[97,108,108]⟩,.string ⟨#[114,49]⟩,.string ⟨#[32,120]⟩,.string ⟨#[97,34,98]⟩,.string ⟨#[122]⟩,.string ⟨#[110,105,103,104,116]⟩,.string ⟨#[120,47,121]⟩,.string ⟨#[113]⟩,.string ⟨#[119]⟩,.string ⟨#[101]⟩,.string ⟨#[116]⟩] 9)))
  rw[HN.out]at hfin
  exact hfin
 ·obtain⟨wr,hwr⟩ :∃q,wb.alloc (.cells #[.int .i64 (-1),.int .i64 0,.int .i64 1,.int .i64 2,.int .i64 3,.int .i64 1000,.int .i64 1001,.int .i64 4,.int .i64 5,.int .i64 6,.int .i64 7,.int .i64 8] 3)=q:=⟨_,rfl⟩
  have hEr:Ext wb wr:=by rw[←hwr];exact Ext.alloc _ _
  have hv :∃p:Int,wr.cell? ⟨wb.heap.size,n,none⟩=some (.int .i64 p)∧(-1≤p∧p≤1001):=by
   have key :∀v,(#[.int .i64 (-1),.int .i64 0,.int .i64 1,.int .i64 2,.int .i64 3,.int .i64 1000,.int .i64 1001,.int .i64 4,.int .i64 5,.int .i64 6,.int .i64 7,.int .i64 8]:Array Value)[n]?=some v→wr.cell? ⟨wb.heap.size,n,none⟩=some v:=fun v hv=>by
    rw[←hwr,World.cell?_alloc_new];exact hv
   rcases(by omega:n=0∨n=1∨n=2∨n=3∨n=4∨n=5∨n=6∨n=7∨n=8∨n=9∨n=10∨n=11) with rfl|rfl|rfl|rfl|rfl|rfl|rfl|rfl|rfl|rfl|rfl|rfl<;>exact⟨_,key _ rfl,by decide⟩
  have HWR:=zT hwr
  obtain⟨p,hv,hp⟩:=hv
  have HPP:=zT hp
  have HPr:=zT (HP.out.ext hEr)
  obtain⟨cc2,cf⟩:=HPr.out.b.pr_cell HPr.out.u
  have HER:=zT (HEW.out.trans hEr)
  clear hEr hp
  subst hwr
  clear HWR
  go_wp2_with fail
  go_ret
  obtain⟨h1,h2⟩:=HP.out.b.setP HP.out.u p
  have hfin:=OddR.of (h1.ext (Ext.alloc _ (.cells #[.int .i64 (-1),.int .i64 0,.int .i64 1,.int .i64 2,.int .i64 3,.int .i64 1000,.int .i64 1001,.int .i64 4,.int .i64 5,.int .i64 6,.int .i64 7,.int .i64 8] 3))) HOK.out (ok_pr HUOK.out (p:=p) (by have:=HPP.out;exact⟨by omega,by omega⟩)) hne HLM.out ((ext_fresh HEW.out h2 HWG.out).trans (Ext.alloc _ (.cells #[.int .i64 (-1),.int .i64 0,.int .i64 1,.int .i64 2,.int .i64 3,.int .i64 1000,.int .i64 1001,.int .i64 4,.int .i64 5,.int .i64 6,.int .i64 7,.int .i64 8] 3)))
  rw[HN.out]at hfin
  exact hfin
 ·go_wp2_with fail
  refine(NU.out (n:Int) _).mono ?_
  rintro e w5 ⟨rfl,hE5⟩
  unfold Ex.cells
  have HP5:=zT (HP.out.ext hE5)
  have HE5:=zT (HEW.out.trans hE5)
  clear hE5
  go_upto_region 27 with(refine store_row HP5.out.b HP5.out.u 2 (numE n) none 0 (by decide) rfl _ _ rfl rfl rfl ?_)
  go_wp2_with fail
  go_ret
  have hfin:=HP5.out.e (M:=N+41) (w:=w) 2 (numE n) none 0 d (u.set1 (numE n) none 0) (by decide) rfl ⟨ExL.nil _ _ _ _,HP5.out.k.k2,HP5.out.k.k3,HP5.out.k.k4⟩ HOK.out (ok_e1 HUOK.out (exk_num (by omega))) HLM.out HE5.out HWG.out
  rw[HN.out]at hfin
  exact hfin
 ·go_wp2_with fail
  refine(WO.out [120] _).mono ?_
  rintro e w5 ⟨rfl,hE5⟩
  unfold Ex.cells
  have HP5:=zT (HP.out.ext hE5)
  have HE5:=zT (HEW.out.trans hE5)
  clear hE5
  go_upto_region 27 with(refine store_row HP5.out.b HP5.out.u 9 (wordE [120]) none 0 (by decide) rfl _ _ rfl rfl rfl ?_)
  go_wp2_with fail
  go_ret
  have hfin:=HP5.out.e (M:=N+41) (w:=w) 9 (wordE [120]) none 0 d (u.set2 (wordE [120]) none 0) (by decide) rfl ⟨HP5.out.k.k1,ExL.nil _ _ _ _,HP5.out.k.k3,HP5.out.k.k4⟩ HOK.out (ok_e2 HUOK.out exk_word) HLM.out HE5.out HWG.out
  rw[HN.out]at hfin
  exact hfin
 ·go_wp2_with fail
  refine(NU.out (n:Int) _).mono ?_
  rintro e w5 ⟨rfl,hE5⟩
  unfold Ex.cells
  go_wp2_with fail
  refine(NU.out 2 _).mono ?_
  rintro e w6 ⟨rfl,hE6⟩
  unfold Ex.cells
  have hEa:=Ext.alloc w6 (.cells #[.int .i64 (numE n).op,.int .i64 (numE n).var,.int .i64 (numE n).ty,.int .i64 (numE n).n,.bool (numE n).b,.string ⟨(numE n).s.toArray⟩,.slice none (numE n).l.length 0,.int .i64 (numE 2).op,.int .i64 (numE 2).var,.int .i64 (numE 2).ty,.int .i64 (numE 2).n,.bool (numE 2).b,.string ⟨(numE 2).s.toArray⟩,.slice none (numE 2).l.length 0] 47)
  have hgw:g<w6.heap.size:=zO HP.out.b.lt.2 (zN hE5.sz hE6.sz)
  have HXR:=zT ((row2L w6 w6.heap.size (Nat.le_refl _) (numE n) none 0 0 (numE 2) none 0 0 (ExL.nil _ _ _ _) (ExL.nil _ _ _ _)).more (S':=fun b=>0≤b∧b<(w6.alloc (.cells #[.int .i64 (numE n).op,.int .i64 (numE n).var,.int .i64 (numE n).ty,.int .i64 (numE n).n,.bool (numE n).b,.string ⟨(numE n).s.toArray⟩,.slice none (numE n).l.length 0,.int .i64 (numE 2).op,.int .i64 (numE 2).var,.int .i64 (numE 2).ty,.int .i64 (numE 2).n,.bool (numE 2).b,.string ⟨(numE 2).s.toArray⟩,.slice none (numE 2).l.length 0] 47)).heap.size∧b≠g) fun b hb=>⟨zQ _,hb.2,by have:=hb.1;omega⟩)
  have HP5:=zT (HP.out.ext ((hE5.trans hE6).trans hEa))
  have HE5:=zT (HEW.out.trans ((hE5.trans hE6).trans hEa))
  clear hE5 hE6 hEa hgw
  go_upto_region 27 with(refine store_row HP5.out.b HP5.out.u 16 (Ex.mk ((n:Int)+3) 0 0 0 false [] [numE n,numE 2]) (some ⟨w6.heap.size,0,none⟩) 2 (by decide) rfl _ _ rfl rfl rfl ?_)
  go_wp2_with fail
  go_ret
  have hfin:=HP5.out.e (M:=N+41) (w:=w) 16 (Ex.mk ((n:Int)+3) 0 0 0 false [] [numE n,numE 2]) (some ⟨w6.heap.size,0,none⟩) 2 (d+1) (u.set3 (Ex.mk ((n:Int)+3) 0 0 0 false [] [numE n,numE 2]) (some ⟨w6.heap.size,0,none⟩) 2) (by decide) rfl ⟨HP5.out.k.k1.deep (by omega),HP5.out.k.k2.deep (by omega),HXR.out.deep (by omega),HP5.out.k.k4.deep (by omega)⟩ HOK.out (ok_e3 HUOK.out (exk_wid (by omega))) HLM.out HE5.out HWG.out
  rw[HN.out]at hfin
  exact hfin
 ·go_wp2_with fail
  refine(VA.out ((n:Int)-1) _).mono ?_
  rintro e w5 ⟨rfl,hE5⟩
  unfold Ex.cells
  have HP5:=zT (HP.out.ext hE5)
  have HE5:=zT (HEW.out.trans hE5)
  clear hE5
  go_upto_region 27 with(refine store_row HP5.out.b HP5.out.u 23 (varE ((n:Int)-1)) none 0 (by decide) rfl _ _ rfl rfl rfl ?_)
  go_wp2_with fail
  go_ret
  have hfin:=HP5.out.e (M:=N+41) (w:=w) 23 (varE ((n:Int)-1)) none 0 d (u.set4 (varE ((n:Int)-1)) none 0) (by decide) rfl ⟨HP5.out.k.k1,HP5.out.k.k2,HP5.out.k.k3,ExL.nil _ _ _ _⟩ HOK.out (ok_e4 HUOK.out (exk_var (by omega))) HLM.out HE5.out HWG.out
  rw[HN.out]at hfin
  exact hfin
 ·have hrx:=(HP.out.b.at_ i u HP.out.u)
  unfold Rn.cells at hrx
  have hEa:=Ext.alloc wb (.cells u.cells.toArray 49)
  have HOWN:Hid (OwnR (wb.alloc (.cells u.cells.toArray 49)) 0 (.slice (some ⟨g,0,none⟩) N co) us):=zT (by have:=(HP.out.b.ext hEa).o;rwa [HLEN.out]at this)
  have HU1:Hid (1≤us.length):=zT (by rw[HLEN.out];exact hpos)
  have HU2:Hid (us.length<4294967295):=zT (by rw[HLEN.out];omega)
  have HPa:=zT (HP.out.ext hEa)
  have HEa:=zT (HEW.out.trans hEa)
  clear hEa
  go_upto_region 27 with(first|(refine load_R rfl _ rfl g (i*30) _ hrx rfl rfl ?_)|(at_builtin;refine app_two rfl 121 125 rfl 0 (.slice (some ⟨g,0,none⟩) N co) us HU1.out rfl HOWN.out (zQ _) HU2.out wb.heap.size u rfl (Go.heap_alloc_new _ _) ?_;intro v' w6 ho hcase))
  have hfin:OddR (N+41) w (.returned v') w6:=by
   have hkk:KidsR w6 (fun b=>b<w6.heap.size) d (us++[u]):=by
    have hk0 :∀y∈us,y.kids w6 (fun b=>b<w6.heap.size) d:=fun y hy=>by
     have hy0:=HPa.out.b.k y hy
     rcases hcase with⟨hE,_⟩|⟨_,hG⟩
     ·exact(hy0.keep fun b hb o=>hE.old (p:=⟨b,o,none⟩) hb.2.1).more fun b hb=>zO hb.2.1 hE.sz
     ·exact(hy0.keep fun b hb o=>grown_cell hG hb.2.1 (by have:=hb.2.2;simp[Value.ownBlock];omega) o).more fun b hb=>zO hb.2.1 hG.size
    intro y hy
    rcases zG.1 hy with hy|hy
    ·exact hk0 y hy
    ·rw[zI.1 hy];exact hk0 u (zH HP.out.u)
   have hrow:=RowB.own ho hkk (l:=l++[u.r]) (by rw[List.map_append,HB.out.m];rfl)
   refine⟨v',l++[u.r],rfl,hrow,by simp,by rw[zE,HN.out];simp,fun r hr=>?_,?_⟩
   ·rcases zG.1 hr with hr|hr
    ·exact HOK.out r hr
    ·rw[zI.1 hr];exact HUOK.out
   ·rcases hcase with⟨hE,_⟩|⟨_,hG⟩
    ·exact HEa.out.trans hE
    ·exact ext_fresh HEa.out hG HWG.out
  have HFIN:=zT hfin
  clear hfin hcase ho
  go_wp2_with fail
  go_ret
  exact HFIN.out
 ·obtain⟨z0,z1,z2⟩:=HQ.out wb HE0b.out
  have hEl:=Ext.alloc wb (.cells #[.int .i64 (n:Int),.int .i64 q2] 3)
  have hLI:LI (wb.alloc (.cells #[.int .i64 (n:Int),.int .i64 q2] 3)) (some ⟨wb.heap.size,0,none⟩) 2:=⟨by decide,fun _=>⟨wb.heap.size,0,rfl,by simp,fun j hj=>by rw[World.cell?_alloc_new];rcases(by omega:j=0∨j=1) with rfl|rfl<;>exact⟨_,rfl⟩⟩⟩
  have hD:=DrA.new 2 hLI
  have hEd:=hEl.trans (Ext.alloc (wb.alloc (.cells #[.int .i64 (n:Int),.int .i64 q2] 3)) (.cells #[.slice (some ⟨wb.heap.size,0,none⟩) 2 2,.int .i64 0] 86))
  have CM:=zT (compared_any _ _ hD)
  unfold dp at CM
  have HED:=zT hEd
  have hgb:g<wb.heap.size:=HP.out.b.lt.2
  have hszl:(wb.alloc (.cells #[.int .i64 (n:Int),.int .i64 q2] 3)).heap.size=wb.heap.size+1:=by simp
  rw[hszl]at CM
  clear hEl hLI hD hEd
  go_wp2_with fail
  refine CM.out.mono ?_
  rintro e w5 ⟨y,Ay,cy,dy,hRy,hsy,rfl,hXy,_,hg5⟩
  have hE5:Ext wb w5:=ext_fresh HED.out hg5 (by simp)
  have HXY:=zT (hXy.more (S':=fun b=>0≤b∧b<w5.heap.size∧b≠g) fun b hb=>⟨zQ _,hb.2,by have h1:=hb.1;simp at h1;omega⟩)
  have HYK:Hid (y.ok∧y.size<4294967296):=zT ⟨rt_ok hRy,by omega⟩
  have HP5:=zT (HP.out.ext hE5)
  have HE5:=zT (HEW.out.trans hE5)
  unfold Ex.cells
  clear hE5 hXy hRy hsy hg5 CM
  go_upto_region 27 with(refine store_row HP5.out.b HP5.out.u 2 y Ay cy (by decide) rfl _ _ rfl rfl rfl ?_)
  go_wp2_with fail
  go_ret
  have hfin:=HP5.out.e (M:=N+41) (w:=w) 2 y Ay cy (d+dy) (u.set1 y Ay cy) (by decide) rfl ⟨HXY.out.deep (by omega),HP5.out.k.k2.deep (by omega),HP5.out.k.k3.deep (by omega),HP5.out.k.k4.deep (by omega)⟩ HOK.out (ok_e1 HUOK.out HYK.out) HLM.out HE5.out HWG.out
  rw[HN.out]at hfin
  exact hfin
 ·have HL0:Hid (OdL wb wb w g i u d N 0 (.slice (some ⟨g,0,none⟩) N co) us):=zT ⟨by have:=HB.out.o;rwa [HLEN.out]at this,KidsR.more HB.out.k fun b hb=>hb.2,HP.out.b.at_ i u HP.out.u,HP.out.u,HEW.out,.inl rfl,fun y hy=>HOK.out y.r (by rw[←HB.out.m];exact List.mem_map_of_mem hy),by rw[HLEN.out];rfl,Nat.le_refl _⟩
  have hgb:g<wb.heap.size:=HP.out.b.lt.2
  have HGB:=zT hgb
  clear hgb
  go_wp2_with fail
  go_loopw [5,8] (fun ov kv wr =>∃(k:Nat) (vs:List Rn),k≤30+n∧kv=.int .i64 (k:Int)∧Hid (OdL wb wr w g i u d N k ov vs)) (fun _ kv _=>30+n-(intOf kv).toNat)
  case atStart=>exact⟨0,us,zQ _,rfl,HL0⟩
  case round=>
   obtain⟨k,vs,hk,rfl,HS⟩:=hrel
   obtain⟨wo,hwo⟩ :∃q,q=wr:=⟨_,rfl⟩
   subst hwo
   obtain⟨Ab,cb,e,_⟩:=HS.out.o.form
   subst e
   by_cases hlt:k<30+n
   ·have t1:decide ((k:Int)<30+(n:Int))=true:=by simp;omega
    obtain⟨km,hkm⟩ :∃q,k%26=q:=⟨_,rfl⟩
    have hk26:km<26:=by have:=Nat.mod_lt k (show 0<26 by decide);omega
    have em:(k:Int)%26=(km:Int):=by omega
    have em2:(k:Int).tmod 26=(km:Int):=by rw[Int.tmod_eq_emod_of_nonneg (by omega)];exact em
    obtain⟨kd,hkd⟩ :∃q,k/26=q:=⟨_,rfl⟩
    have hkd2:kd<2:=by omega
    have ed:(k:Int)/26=(kd:Int):=by omega
    have ed2:(k:Int).tdiv 26=(kd:Int):=by rw[Int.tdiv_eq_ediv_of_nonneg (by omega)];exact ed
    have hk41:(k:Int)≤41:=by omega
    clear hkm hkd hk
    have HXW:=zT (fun(V:World) (h:Ext wo.drew V)=>((Ext.drew wo).trans h:Ext wo V))
    have hgo:g<wo.heap.size:=zO HGB.out HS.out.sz
    go_upto_region 10 with fail
    apply wp_region_seq (l:=[_,_,_,_,_,_,_,_,_,_,_,_,_,_,_,_,_,_,_,_,_]) (t:=[_,_]) [some 46,some 47,some 48,some 49,some 50,some 51,some 52,some 53,some 54,some 55,some 56,some 57,some 58,some 59,some 60,some 61,some 62,some 63,some 64,some 65,some 66,some 67,some 5] [[],[],[1],[2],[3],[],[5],[6],[7],[4,8],[9],[10],[],[12],[13],[14],[],[],[],[11,15,16,17,18],[19],[0,20],[21]] [21,2,3,4,9,6,7,8,9,10,11,19,13,14,15,19,19,19,21,20,21] [eqv _,eqv _,eqv _,eqv _,(u8P),eqv _,eqv _,eqv _,(u8P),(byP),(st2P),(st3P),eqv _,eqv _,eqv _,(eqv (.agg #[.int .i64 u.r.e1.op,.int .i64 u.r.e1.var,.int .i64 u.r.e1.ty,.int .i64 u.r.e1.n,.bool u.r.e1.b,.string ⟨u.r.e1.s.toArray⟩,.slice u.A1 u.r.e1.l.length u.c1])),(eqv (.agg #[.int .i64 1,.int .i64 0,.int .i64 1,.int .i64 1,.bool false,.string ⟨#[]⟩,.slice none 0 0])),(eqv (.agg #[.int .i64 1,.int .i64 0,.int .i64 1,.int .i64 1,.bool false,.string ⟨#[]⟩,.slice none 0 0])),(eqv (.agg #[.int .i64 1,.int .i64 0,.int .i64 1,.int .i64 1,.bool false,.string ⟨#[]⟩,.slice none 0 0])),(tuP u),(tuS u)] (by kernel_rfl) (by kernel_rfl) ⟨?o0,?o1,?o2,?o3,?o4,?o5,?o6,?o7,?o8,?o9,?o10,?o11,?o12,?o13,?o14,?o15,?o16,?o17,?o18,?o19,?o20,trivial⟩ ?last
    case o0|o1|o2|o3|o5|o6|o7|o12|o13|o14=>
     intro xv V hE hp
     try have q0:xv _=_:=hp.1
     clear hp
     simp only[putD,zB,zA,zD,zC,Act.put,zK,zM,zL]
     refine OpGoal.plain ?_
     go_wp2_with fail
     exact⟨rfl,Ext.refl _,rfl⟩
    case o4=>
     intro xv V hE hp
     have r3:xv 3=_:=hp.1
     clear hp
     simp only[putD,zB,zA,zD,zC,Act.put,zK,zM,zL]
     refine OpGoal.plain ?_
     go_wp2_with fail
     exact⟨rfl,Ext.refl _,UInt8.ofNat (97+km),by simp;omega⟩
    case o8=>
     intro xv V hE hp
     have r7:xv 7=_:=hp.1
     clear hp
     simp only[putD,zB,zA,zD,zC,Act.put,zK,zM,zL]
     refine OpGoal.plain ?_
     go_wp2_with fail
     exact⟨rfl,Ext.refl _,UInt8.ofNat (97+kd),by simp;omega⟩
    case o9=>
     intro xv V hE hp
     obtain⟨x4,r4⟩:=hp.1
     obtain⟨x8,r8⟩:=hp.2.1
     clear hp
     simp only[putD,zB,zA,zD,zC,Act.put,zK,zM,zL]
     refine OpGoal.plain ?_
     go_wp2_with fail
     exact⟨rfl,Ext.alloc _ _,V.heap.size,x4,x8,rfl,by simp,by rw[World.cell?_alloc_new];rfl,by rw[World.cell?_alloc_new];rfl⟩
    case o10=>
     intro xv V hE hp
     obtain⟨g9,x9,y9,r9,l9,ca9,cb9⟩:=hp.1
     clear hp
     have hcv:=two_bytes ca9 cb9 2
     simp only[putD,zB,zA,zD,zC,Act.put,zK,zM,zL]
     refine OpGoal.plain ?_
     go_wp2_with fail
     exact⟨rfl,Ext.refl _,x9,y9,rfl⟩
    case o11=>
     intro xv V hE hp
     obtain⟨y10,z10,r10⟩:=hp.1
     clear hp
     have hsz1:(⟨#[109]⟩:ByteArray).size=1:=rfl
     have hsz2:(⟨#[y10,z10]⟩:ByteArray).size=2:=rfl
     simp only[putD,zB,zA,zD,zC,Act.put,zK,zM,zL]
     refine OpGoal.plain ?_
     go_wp2_with fail
     exact⟨rfl,Ext.refl _,[109,y10,z10],congrArg Value.string (ba_append [109] [y10,z10]),rfl⟩
    case o15=>
     intro xv V hE hp
     have r14:xv 14=_:=hp.1
     clear hp
     simp only[putD,zB,zA,zD,zC,Act.put,zK,zM,zL]
     refine OpGoal.plain ?_
     have hrr:=range1 (range_ext HS.out.r hgo (HXW.out V hE))
     unfold Ex.cells at hrr
     refine load_E rfl _ rfl g (i*30+2) _ hrr rfl r14 ?_
     go_wp2_with fail
     exact⟨rfl,Ext.refl _,rfl⟩
    case o16=>
     intro xv V hE _
     simp only[putD,zB,zD,zC]
     refine OpGoal.plain ?_
     go_wp2_with fail
     refine(NU.out 1 V).mono ?_
     rintro e w' ⟨rfl,hE9⟩
     go_wp2_with fail
     exact⟨rfl,hE9,rfl⟩
    case o17=>
     intro xv V hE _
     simp only[putD,zB,zD,zC]
     refine OpGoal.plain ?_
     go_wp2_with fail
     refine(NU.out 1 V).mono ?_
     rintro e w' ⟨rfl,hE9⟩
     go_wp2_with fail
     exact⟨rfl,hE9,rfl⟩
    case o18=>
     intro xv V hE _
     simp only[putD,zB,zD,zC]
     refine OpGoal.plain ?_
     go_wp2_with fail
     refine(NU.out 1 V).mono ?_
     rintro e w' ⟨rfl,hE9⟩
     go_wp2_with fail
     exact⟨rfl,hE9,rfl⟩
    case o19=>
     intro xv V hE hp
     obtain⟨s11,r11,hl11⟩:=hp.1
     have r15:xv 15=_:=hp.2.1
     have r16:xv 16=_:=hp.2.2.1
     have r17:xv 17=_:=hp.2.2.2.1
     have r18:xv 18=_:=hp.2.2.2.2.1
     clear hp
     have HL11:=zT hl11
     clear hl11
     simp only[putD,zB,zA,zD,zC,Act.put,zK,zM,zL]
     refine OpGoal.plain ?_
     go_wp2_with fail
     exact⟨rfl,Ext.refl _,s11,HL11.out,rfl⟩
    case o20=>
     intro xv V hE hp
     obtain⟨s19,hl19,r19⟩:=hp.1
     clear hp
     have HL19:=zT hl19
     clear hl19
     simp only[putD,zB,zA,zD,zC,Act.put,zK,zM,zL]
     refine OpGoal.plain ?_
     go_wp2_with fail
     exact⟨rfl,Ext.alloc _ _,V.heap.size,s19,rfl,HL19.out,Go.heap_alloc_new _ _⟩
    case last=>
     intro xv V hE hp
     have r0:xv 0=_:=hp.1
     have r1:xv 1=_:=hp.2.1
     have r2:xv 2=_:=hp.2.2.1
     have r3:xv 3=_:=hp.2.2.2.1
     obtain⟨x4,r4⟩:=hp.2.2.2.2.1
     have r5:xv 5=_:=hp.2.2.2.2.2.1
     have r6:xv 6=_:=hp.2.2.2.2.2.2.1
     have r7:xv 7=_:=hp.2.2.2.2.2.2.2.1
     obtain⟨x8,r8⟩:=hp.2.2.2.2.2.2.2.2.1
     obtain⟨g9,x9,y9,r9,l9,ca9,cb9⟩:=hp.2.2.2.2.2.2.2.2.2.1
     obtain⟨y10,z10,r10⟩:=hp.2.2.2.2.2.2.2.2.2.2.1
     obtain⟨s11,r11,hl11⟩:=hp.2.2.2.2.2.2.2.2.2.2.2.1
     have r12:xv 12=_:=hp.2.2.2.2.2.2.2.2.2.2.2.2.1
     have r13:xv 13=_:=hp.2.2.2.2.2.2.2.2.2.2.2.2.2.1
     have r14:xv 14=_:=hp.2.2.2.2.2.2.2.2.2.2.2.2.2.2.1
     have r15:xv 15=_:=hp.2.2.2.2.2.2.2.2.2.2.2.2.2.2.2.1
     have r16:xv 16=_:=hp.2.2.2.2.2.2.2.2.2.2.2.2.2.2.2.2.1
     have r17:xv 17=_:=hp.2.2.2.2.2.2.2.2.2.2.2.2.2.2.2.2.2.1
     have r18:xv 18=_:=hp.2.2.2.2.2.2.2.2.2.2.2.2.2.2.2.2.2.2.1
     obtain⟨s19,hl19,r19⟩:=hp.2.2.2.2.2.2.2.2.2.2.2.2.2.2.2.2.2.2.2.1
     obtain⟨g20,s20,r20,hl20,hz20⟩:=hp.2.2.2.2.2.2.2.2.2.2.2.2.2.2.2.2.2.2.2.2.1
     clear hp
     simp only[putD,zB,zA,zD,zC,Act.put,List.length_cons,List.length_nil,List.range_succ,List.range_zero,zJ,List.cons_append,zK,zM,zL]
     have HXV:=zT (HXW.out V hE)
     have HOV:Hid (OwnR V 0 (.slice Ab vs.length cb) vs):=zT (HS.out.o.ext HXV.out)
     have HV1:Hid (1≤vs.length):=zT (by rw[HS.out.len];omega)
     have HV2:Hid (vs.length<4294967295):=zT (by rw[HS.out.len];omega)
     have HZ20:=zT hz20
     have HL20:=zT hl20
     clear hE hz20 hl20 hl19 hl11 ca9 cb9 l9
     go_upto_region 9 with(at_builtin;refine app_two rfl 46 66 rfl 0 (.slice Ab vs.length cb) vs HV1.out r0 HOV.out (zQ _) HV2.out g20 (tU u s20) r20 HZ20.out ?_;intro v' w6 ho hcase)
     have HNX:=zT (HS.out.next (t:=tU u s20) HWG.out HGB.out HXV.out (⟨(HS.out.ks u (zH HS.out.iu)).k1,ExL.nil _ _ _ _,ExL.nil _ _ _ _,ExL.nil _ _ _ _⟩) (tU_ok HUOK.out HL20.out) ho hcase)
     clear ho hcase
     go_wp2_with fail
     go_roundw
     case rel=>exact⟨k+1,vs++[tU u s20],by omega,by go_num,HNX⟩
     case measure=>simp[intOf];omega
   ·have hk2:k=30+n:=by omega
    have t1:decide ((k:Int)<30+(n:Int))=false:=by simp;omega
    have hfin:OddR (N+41) w (.returned (.slice Ab vs.length cb)) wo:=⟨_,vs.map (·.r),rfl,RowB.own HS.out.o (KidsR.more HS.out.ks fun b hb=>zO hb.1 HS.out.sz) rfl,fun e=>by have:=congrArg List.length e;rw[zF,HS.out.len]at this;simp at this;omega,by rw[zF,HS.out.len];omega,fun r hr=>by obtain⟨y,hy,rfl⟩:=List.mem_map.1 hr;exact HS.out.p y hy,HS.out.e⟩
    have HFIN:=zT hfin
    clear hfin hk hlt hk2
    go_wp2_with fail
    go_ret
    exact HFIN.out
end Go.Proofs.YtmiencglfhpmeaaGreatDoor
