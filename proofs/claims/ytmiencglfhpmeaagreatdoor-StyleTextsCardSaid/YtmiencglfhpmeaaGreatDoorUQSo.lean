/- The law's cut of an environment; a case's rules (printed by gen_oc.py). -/
import Derived.Test.YtmiencglfhpmeaaGreatDoorUQOa
import Derived.Test.YtmiencglfhpmeaaGreatDoorUQXp
import Derived.Test.YtmiencglfhpmeaaGreatDoorUQOb
open List renaming exists_cons_of_ne_nil → zA
open Go.Lib renaming hid → zB
set_option linter.unusedSimpArgs false
set_option linter.unusedVariables false
namespace Go.Proofs.YtmiencglfhpmeaaGreatDoor
open Go.RowKit Hach
structure RowT (W:World) (A:Option Addr) (c d:Nat) (l:List Rl):Prop where
 x:RlB W W.heap.size d A l
 c1:l.length≤c
 c2:c<9223372036854775808
 le:l.length≤100
 ne:l≠[]
 ok :∀r∈l,r.ok∧r.small
theorem RowT.ext {W W':World}{A:Option Addr}{c d:Nat}{l:List Rl}(h:RowT W A c d l) (hE:Ext W W'):RowT W' A c d l:=⟨RlL.ext h.x hE,h.c1,h.c2,h.le,h.ne,h.ok⟩
def AllR (w:World) (e:Ending) (w':World):Prop :=∃(A0 A1 A2:Option Addr) (c0 c1 c2 d0 d1 d2:Nat) (l0 l1 l2:List Rl),e=.returned (.agg #[.slice A0 l0.length c0,.slice A1 l1.length c1,.slice A2 l2.length c2])∧RowT w' A0 c0 d0 l0∧RowT w' A1 c1 d1 l1∧RowT w' A2 c2 d2 l2∧Ext w w'
theorem infoT3:(Tryz.prog.info? 23).map (fun i=>(i.zero,i.size,i.bytes))=some (some (.agg #[.int .i64 0,.int .i64 0,.int .i64 0]),3,24):=by kernel_rfl
theorem load_3 {ops:Array Oper}{rest:List Oper}{op:Oper}{a:Act}{w:World}{Q:Exit→Act→World→Prop}(hgd:op.guard=none) (x:Operand) (ho:op.op=.load 23 x) (b o:Nat) (cs:List Value) (hr:w.rangeAt b o cs) (h7:cs.length=3)
  (hx:a.eval x=.pointer (some ⟨b,o,none⟩)) (h:wpList Tryz.prog ops Q rest (a.put op.dst (.agg cs.toArray)) w):wpList Tryz.prog ops Q (op::rest) a w:=by
 obtain⟨i0,hi,_,hz1,_⟩:=info_parts infoT3
 exact wpList_load_mid hgd _ x ho b o hx cs _ hr Tryz.underlying23 rfl (by rw[hi];simp[hz1,h7]) h
def ca7 (A:Option Addr) (n c:Nat) (p0 p1 p2 q0 q1 q2:Int):Array Value:=#[.slice A n c,.int .i64 p0,.int .i64 p1,.int .i64 p2,.int .i64 q0,.int .i64 q1,.int .i64 q2]
theorem zero_boxes (w:World) (C0 C1:Array Value) (T0 T1:TypeId) :∃W,(w.alloc (.cells C0 T0)).alloc (.cells C1 T1)=W∧Ext w W∧W.heap.size=w.heap.size+2 ∧
  (∀(V:World),Ext W V →∀(i:Nat) (v:Value),C0[i]?=some v→V.cell? ⟨w.heap.size,i,none⟩=some v)∧(∀(V:World),Ext W V→V.heap[w.heap.size+1]?=some (.cells C1 T1 (0,0))):=by
 have h0:=Ext.alloc w (.cells C0 T0)
 have h1:=Ext.alloc (w.alloc (.cells C0 T0)) (.cells C1 T1)
 refine⟨_,rfl,h0.trans h1,by simp,fun V h i v hi=>?_,fun V h=>?_⟩
 ·rw[(h1.trans h).old (p:=⟨w.heap.size,i,none⟩) (by simp),World.cell?_alloc_new];exact hi
 ·rw[h.below.block (w.heap.size+1) (by simp)]
  have:=Go.heap_alloc_new (w.alloc (.cells C0 T0)) (.cells C1 T1)
  simp only[World.size_alloc]at this
  exact this
theorem ExL.off {w:World}{S:Nat→Prop}{B:Nat}(hB :∀o,3≤o→w.cell? ⟨B,o,none⟩=none) :∀ {d:Nat}{A:Option Addr}{l:List Ex},ExL w S d A l→ExL w (fun b=>S b∧b≠B) d A l
 | 0,_,_,h=>h
 | d+1,A,l,h=>fun hl=>by
  obtain⟨b,o,e,hb,hx⟩:=h hl
  refine⟨b,o,e,⟨hb,fun e2=>?_⟩,fun j x hj=>?_⟩
  ·subst e2
   obtain⟨x,u,rfl⟩:=zA hl
   obtain⟨A',c',_,h2⟩:=hx 0 x rfl
   have:=h2 6 (.slice A' x.l.length c') rfl
   rw[hB _ (by omega)]at this
   cases this
  ·obtain⟨A',c',h1,h2⟩:=hx j x hj
   exact⟨A',c',ExL.off hB h1,h2⟩
theorem RlL.off {w:World}{S:Nat→Prop}{B d:Nat}{A:Option Addr}{l:List Rl}(h:RlL w S d A l) (hB :∀o,3≤o→w.cell? ⟨B,o,none⟩=none):RlL w (fun b=>S b∧b≠B) d A l:=fun hl=>by
 obtain⟨b,o,e,hb,hx⟩:=h hl
 refine⟨b,o,e,⟨hb,fun e2=>?_⟩,fun j r hj=>?_⟩
 ·subst e2
  obtain⟨r,u,rfl⟩:=zA hl
  obtain⟨v,_,_,h3⟩:=hx 0 r rfl
  have:=h3 8 (.slice v.A1 v.r.e1.l.length v.c1) rfl
  rw[hB _ (by omega)]at this
  cases this
 ·obtain⟨u,h1,h2,h3⟩:=hx j r hj
  exact⟨u,h1,⟨ExL.off hB h2.k1,ExL.off hB h2.k2,ExL.off hB h2.k3,ExL.off hB h2.k4⟩,h3⟩
theorem few {w:World}{B:Nat}{a b c:Value}{T:TypeId}(h:w.heap[B]?=some (.cells #[a,b,c] T (0,0))) :∀o,3≤o→w.cell? ⟨B,o,none⟩=none:=fun o ho=>by
 simp only[World.cell?,h]
 exact Array.getElem?_eq_none (by simpa using ho)
theorem RowT.put {W W':World}{B:Nat}{A:Option Addr}{c d:Nat}{l:List Rl}(h:RowT W A c d l) (hB :∀o,3≤o→W.cell? ⟨B,o,none⟩=none) (hg:W.grownBy W' (some B)):RowT W' A c d l:=by
 refine⟨?_,h.c1,h.c2,h.le,h.ne,h.ok⟩
 have h1:=RlL.off h.x hB
 have h2:=RlL.keep h1 (w':=W') fun b hb o=>grown_cell hg hb.1 (fun e=>hb.2 (Option.some.inj e).symm) o
 exact RlL.more h2 fun b hb=>Nat.lt_of_lt_of_le hb.1 hg.size
theorem one3 (a b c:Value) (ha:a.oneCell'=true) (hb:b.oneCell'=true) (hc:c.oneCell'=true) :∀v∈[a,b,c],v.oneCell'=true:=by
 intro v hv
 simp only[List.mem_cons,List.mem_nil_iff,or_false]at hv
 rcases hv with rfl|rfl|rfl
 ·exact ha
 ·exact hb
 ·exact hc
theorem info3R:(Tryz.prog.info? 31).map (·.size)=some 3:=by kernel_rfl
theorem res3 {fn:Func}{t:Tmp}(hr:fn.results=#[.cell t 31]) {W:World}{b:Nat}{a0 a1 a2:Option Addr}{n0 n1 n2 c0 c1 c2:Nat}(h:W.heap[b]?=some (.cells #[.slice a0 n0 c0,.slice a1 n1 c1,.slice a2 n2 c2] 31 (0,0))) (tmps:Array Value) (ht:tmps.getD t undef=.pointer (some ⟨b,0,none⟩)) :
  (results fn tmps).run Tryz.prog W=.ok (.agg #[.slice a0 n0 c0,.slice a1 n1 c1,.slice a2 n2 c2]) W:=by
 have p0:W.cell? ⟨b,0,none⟩=some (.slice a0 n0 c0):=cells_of h 0 _ rfl
 have p1:W.cell? ⟨b,1,none⟩=some (.slice a1 n1 c1):=cells_of h 1 _ rfl
 have p2:W.cell? ⟨b,2,none⟩=some (.slice a2 n2 c2):=cells_of h 2 _ rfl
 clear h
 rw[Array.getD_eq_getD_getElem?]at ht
 simp only[results,hr]
 go_simp
set_option maxRecDepth 100000 in
set_option maxHeartbeats 4000000 in
theorem all_any (A:Option Addr) (n c:Nat) (p0 p1 p2 q0 q1 q2:Int) (w:World) (hL:LI w A n) :
  Calls Tryz.prog 11 #[.agg (ca7 A n c p0 p1 p2 q0 q1 q2)] w (AllR w):=by
 obtain⟨w1,hw1,hE1,hs1,hC,hZ⟩:=zero_boxes w (ca7 A n c p0 p1 p2 q0 q1 q2) #[.slice none 0 0,.slice none 0 0,.slice none 0 0] 26 31
 have hQ :∀V:World,Ext w1 V→V.cell? ⟨w.heap.size,0,none⟩=some (.slice A n c)∧V.rangeAt w.heap.size 1 [.int .i64 p0,.int .i64 p1,.int .i64 p2]∧V.rangeAt w.heap.size 4 [.int .i64 q0,.int .i64 q1,.int .i64 q2]:=fun V h=>by
  refine⟨hC V h 0 _ rfl,?_,?_⟩
  ·intro j v hj
   match j,hj with
   | 0,hj=>exact hC V h 1 v hj
   | 1,hj=>exact hC V h 2 v hj
   | 2,hj=>exact hC V h 3 v hj
  ·intro j v hj
   match j,hj with
   | 0,hj=>exact hC V h 4 v hj
   | 1,hj=>exact hC V h 5 v hj
   | 2,hj=>exact hC V h 6 v hj
 have HQ:=zB hQ
 have HZ:=zB hZ
 have HW1:=zB hw1
 have HL:=zB (hL.ext hE1)
 have HE:=zB hE1
 have HS:=zB hs1
 unfold ca7 at HW1 ⊢
 clear hQ hC hZ hw1 hL hE1 hs1
 go_enter Tryz.func11,Tryz.ntmps11
 go_upto_region 1 with fail
 rw[HW1.out]
 obtain⟨z0,_⟩:=HQ.out w1 (Ext.refl _)
 go_wp2_with fail
 refine(rMade_any A n c w1 HL.out).mono ?_
 rintro e w2 ⟨l0,us,g0,c0,d0,hM,rfl,hB,hE2⟩
 have hM4:=hM.le
 have HR0:=zB (⟨hB.rlb,hB.cap.1,hB.cap.2,by omega,List.length_pos_iff.1 hM.pos,hM.ok⟩:RowT w2 (some ⟨g0,0,none⟩) c0 d0 l0)
 have HE2:=zB hE2
 obtain⟨N,hN⟩ :∃q,l0.length=q:=⟨_,rfl⟩
 have hl4:N≤4:=by rw[←hN];exact hM4
 have O1:=zB (fun(V:World) (h:Ext w2 V)=>Odd_any l0 (some ⟨g0,0,none⟩) c0 d0 p0 p1 p2 V (HR0.out.ext h).x HR0.out.ne (by omega) HR0.out.ok)
 rw[hN]at O1 ⊢
 have HN:=zB hN
 obtain⟨_,z1,_⟩:=HQ.out w2 HE2.out
 clear z0 hN hM hB hE2 hM4
 go_wp2_with (refine load_3 rfl _ rfl w.heap.size 1 _ z1 rfl rfl ?_)
 refine(O1.out w2 (Ext.refl _)).mono ?_
 rintro e w3 ⟨v1,l1,rfl,⟨A1,c1,d1,rfl,hX1,hc1⟩,hne1,hlen1,hok1,hE3⟩
 have HR1:=zB (⟨hX1,hc1.1,hc1.2,by omega,hne1,hok1⟩:RowT w3 A1 c1 d1 l1)
 have HE3:=zB (HE2.out.trans hE3)
 have HR03:=zB (HR0.out.ext hE3)
 obtain⟨N1,hN1⟩ :∃q,l1.length=q:=⟨_,rfl⟩
 have O2:=zB (fun(V:World) (h:Ext w3 V)=>Odd_any l1 A1 c1 d1 q0 q1 q2 V (HR1.out.ext h).x HR1.out.ne (by omega) HR1.out.ok)
 rw[hN1]at O2 hlen1 ⊢
 have HN1:=zB hN1
 obtain⟨_,_,z2⟩:=HQ.out w3 HE3.out
 clear z1 hN1 hX1 hc1 hne1 hok1 hE3 O1 HR0
 go_wp2_with (refine load_3 rfl _ rfl w.heap.size 4 _ z2 rfl rfl ?_)
 refine(O2.out w3 (Ext.refl _)).mono ?_
 rintro e w4 ⟨v2,l2,rfl,⟨A2,c2,d2,rfl,hX2,hc2⟩,hne2,hlen2,hok2,hE4⟩
 have HR2:=zB (⟨hX2,hc2.1,hc2.2,by omega,hne2,hok2⟩:RowT w4 A2 c2 d2 l2)
 have HE4:=zB (HE3.out.trans hE4)
 have HR04:=zB (HR03.out.ext hE4)
 have HR14:=zB (HR1.out.ext hE4)
 have hz:=HZ.out w4 HE4.out
 have hz2:w4.heap[w.heap.size+1]?=some (.cells [Value.slice none 0 0,.slice none 0 0,.slice none 0 0].toArray 31 (0,0)):=hz
 clear z2 hz hX2 hc2 hne2 hok2 hE4 O2 HR03 HR1 HQ HZ
 go_wp2_with (refine store_T 31 (w.heap.size+1) [.slice none 0 0,.slice none 0 0,.slice none 0 0] [.slice (some ⟨g0,0,none⟩) N c0,.slice A1 N1 c1,.slice A2 l2.length c2] hz2 rfl info3R (one3 _ _ _ rfl rfl rfl) rfl _ _ rfl rfl rfl ?_;intro wA hA hgA)
 have hEA:Ext w wA:=Below.trans (HE.out.trans HE4.out) (below_row' hgA (HE.out.trans HE4.out).sz (fun g e=>by simp only[Option.some.injEq]at e;omega))
 have hkp :∀(A:Option Addr) (c d:Nat) (l:List Rl),RowT w4 A c d l→RowT wA A c d l:=fun A c d l h=>h.put (few hz2) hgA
 exact bodyPost_ret (res3 rfl hA _ rfl) rfl ⟨_,_,_,_,_,_,_,_,_,_,_,_,by rw[HN.out,HN1.out],hkp _ _ _ _ HR04.out,hkp _ _ _ _ HR14.out,hkp _ _ _ _ HR2.out,hEA⟩
theorem infoC7:(Tryz.prog.info? 26).map (·.size)=some 7:=by kernel_rfl
theorem info_siz {P:Program}{T:TypeId}{n:Nat}(h:(P.info? T).map (·.size)=some n) :∃i,P.info? T=some i∧i.size=n:=by
 cases e:P.info? T with
 | none=>rw[e]at h;cases h
 | some i=>rw[e]at h;exact⟨i,rfl,by simpa using h⟩
theorem load_C {ops:Array Oper}{rest:List Oper}{op:Oper}{a:Act}{w:World}{Q:Exit→Act→World→Prop}(hgd:op.guard=none) (x:Operand) (ho:op.op=.load 26 x) (b o:Nat) (cs:List Value) (hr:w.rangeAt b o cs) (h7:cs.length=7)
  (hx:a.eval x=.pointer (some ⟨b,o,none⟩)) (h:wpList Tryz.prog ops Q rest (a.put op.dst (.agg cs.toArray)) w):wpList Tryz.prog ops Q (op::rest) a w:=by
 obtain⟨i0,hi,hz1⟩:=info_siz infoC7
 exact wpList_load_mid hgd _ x ho b o hx cs _ hr Tryz.underlying26 rfl (by rw[hi];simp[hz1,h7]) h
def newV (B:Nat) (T:TypeId) (Z:Array Value):SP:=⟨fun v W =>∃g,v=.pointer (some ⟨g,0,none⟩)∧B≤g∧W.heap[g]?=some (.cells Z T (0,0)),fun h hE=>by
 obtain⟨g,e,h1,h2⟩:=h
 exact⟨g,e,h1,(hE.below.block g (Array.getElem?_eq_some_iff.1 h2).1).trans h2⟩⟩
end Go.Proofs.YtmiencglfhpmeaaGreatDoor
