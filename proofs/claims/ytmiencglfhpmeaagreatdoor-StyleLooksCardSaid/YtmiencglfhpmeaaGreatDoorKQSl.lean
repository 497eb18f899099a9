/- The contract of style.Look. -/
import Derived.Test.YtmiencglfhpmeaaGreatDoorKQSk
import Derived.Test.YtmiencglfhpmeaaGreatDoorKQXk
open List renaming cons_append → zA, foldl_cons → zB, foldl_nil → zC, getD_cons_succ → zD, getD_cons_zero → zE, length_cons → zF, length_nil → zG, mem_singleton → zH, nil_append → zI, range_succ → zJ, range_zero → zK, setIfInBounds_toArray → zL, set_cons_succ → zM, set_cons_zero → zN
open Nat renaming zero_add → zO, zero_mul → zP
open Option renaming some.injEq → zQ
open Go.Lib renaming hid → zR
set_option linter.unusedSimpArgs false
set_option linter.unusedVariables false
namespace Go.Proofs.YtmiencglfhpmeaaGreatDoor
open Go.RowKit Hach
def LookR (l:List Rl) (x:En) (w:World) (e:Ending) (w':World):Prop:=e=.returned (.tuple #[.agg (Lk_row (lookL l x).1),.string ⟨(lookL l x).2.1.toArray⟩,.int .i64 (lookL l x).2.2])∧Ext w w'
theorem LookR.of {l:List Rl}{x:En}{w w':World}{a:Int×Int×Int}{s:ByteArray}{n:Int}(hE:Ext w w') (t:List UInt8) (h:lookL l x=(a,t,n)) (hs:s=⟨t.toArray⟩):LookR l x w (.returned (.tuple #[.agg (Lk_row a),.string s,.int .i64 n])) w':=by
 refine⟨?_,hE⟩
 rw[h,hs]
theorem setLk_ext {w w':World}(h:Ext w w') {b:Nat}(hb:w.heap.size≤b) (x:Int×Int×Int):Ext w (setLk w' b x):=
 Below.trans h (below_row' (setLk_grown w' b x) h.sz fun g e=>by simp only[zQ]at e;omega)
structure LkSt (w w3 wr:World) (d:Nat) (x:En) (l:List Rl) (k:Nat) (cv:Value) (us:List Rn):Prop where
 m:us.map (·.r)=cnt x (l.take k)
 o:OwnR wr w3.heap.size cv us
 k:KidsR w (fun b=>b<w.heap.size) d us
 e:Ext w3 wr
def LkS (b:Nat) (X:Int×Int×Int) (W W':World):Prop:=W.grownBy W' (some b)∧((LkZ W b∨LkB W b X)→(LkZ W' b∨LkB W' b X))∧(LkB W b X→LkB W' b X)
theorem LkS.refl (b:Nat) (X:Int×Int×Int) (W:World):LkS b X W W:=⟨grown_of (Ext.refl _) _,id,id⟩
theorem LkS.trans (b:Nat) (X:Int×Int×Int) {U V W:World}(h:LkS b X U V) (k:LkS b X V W):LkS b X U W:=⟨grown_trans h.1 k.1,fun q=>k.2.1 (h.2.1 q),fun q=>k.2.2 (h.2.2 q)⟩
theorem LkS.ext {b:Nat}{X:Int×Int×Int}{W W':World}(h:Ext W W'):LkS b X W W':=⟨grown_of h _,fun q=>q.imp (·.ext h) (·.ext h),(·.ext h)⟩
theorem LkS.put {b:Nat}{X:Int×Int×Int}{W:World}(h:LkZ W b∨LkB W b X):LkS b X W (setLk W b X)∧LkB (setLk W b X) b X:=by
 have hb:LkB (setLk W b X) b X:=by
  rcases h with h|h
  ·exact setLk_z h X
  ·exact setLk_in h X
 exact⟨⟨setLk_grown W b X,fun _=>.inr hb,fun _=>hb⟩,hb⟩
def lkP (b:Nat) (X:Int×Int×Int):SPr (LkS b X):=⟨fun _ W=>LkB W b X,fun h hE=>hE.2.2 h⟩
theorem lk_cells {w:World}{b:Nat}{X:Int×Int×Int}(h:LkZ w b∨LkB w b X):(∃n0 n1 n2:Int,w.cell? ⟨b,0,none⟩=some (.int .i64 n0)∧w.cell? ⟨b,1,none⟩=some (.int .i64 n1)∧w.cell? ⟨b,2,none⟩=some (.int .i64 n2))∧w.frozen? ⟨b,0,none⟩=false∧w.frozen? ⟨b,1,none⟩=false∧w.frozen? ⟨b,2,none⟩=false:=by
 rcases h with h|h
 ·exact⟨⟨_,_,_,h.cells⟩,h.free⟩
 ·exact⟨⟨_,_,_,h.cells⟩,h.free⟩
theorem cnt_sub (x:En) (l:List Rl) {r:Rl}(h:r∈cnt x l):r∈l:=by
 rcases cnt_ok x l with⟨h1,_⟩|⟨m,_,h1⟩
 ·rw[h1]at h;cases h
 ·rw[h1]at h;exact(List.mem_filter.1 h).1
theorem OwnR.one (w:World) (base:Nat) (hb:base≤w.heap.size) (u:Rn):OwnR (w.alloc (.cells u.cells.toArray 49)) base (.slice (some ⟨w.heap.size,0,none⟩) 1 1) [u]:=
 ⟨rfl,.inr ⟨_,1,_,rfl,hb,Go.heap_alloc_new _ _,Nat.le_refl _,by decide,rfl,by simp;rfl⟩⟩
theorem LkSt.keep {w w3 wr W:World}{d k:Nat}{x:En}{l:List Rl}{cv:Value}{us:List Rn}(h:LkSt w w3 wr d x l k cv us) (hc:cnt x (l.take (k+1))=cnt x (l.take k)) (hE:Ext wr W):LkSt w w3 W d x l (k+1) cv us:=
 ⟨h.m.trans hc.symm,h.o.ext hE,h.k,h.e.trans hE⟩
theorem LkSt.new {w w3 wr W:World}{d k:Nat}{x:En}{l:List Rl}{cv:Value}{us:List Rn}(h:LkSt w w3 wr d x l k cv us) (u:Rn) (hc:cnt x (l.take (k+1))=[u.r]) (hk:u.kidsB w w.heap.size d) (hE:Ext wr W):LkSt w w3 (W.alloc (.cells u.cells.toArray 49)) d x l (k+1) (.slice (some ⟨W.heap.size,0,none⟩) 1 1) [u]:=
 ⟨hc.symm,OwnR.one W _ (h.e.trans hE).sz u,fun v hv=>by rw[zH.1 hv];exact hk,(h.e.trans hE).trans (Ext.alloc _ _)⟩
theorem LkSt.app {w w3 wr W W':World}{d k:Nat}{x:En}{l:List Rl}{cv v':Value}{us:List Rn}(h:LkSt w w3 wr d x l k cv us) (u:Rn) (hc:cnt x (l.take (k+1))=cnt x (l.take k)++[u.r]) (hk:u.kidsB w w.heap.size d) (hE:Ext wr W) (ho:OwnR W' w3.heap.size v' (us++[u])) (hg:W.grownBy W' cv.ownBlock):LkSt w w3 W' d x l (k+1) v' (us++[u]):=
 ⟨by rw[List.map_append,h.m,hc];rfl,ho,h.k.app fun v hv=>by rw[zH.1 hv];exact hk,Below.trans (h.e.trans hE) (below_row' (B:=w3.heap.size) hg (h.e.trans hE).sz fun g e=>(h.o.lt g e).1)⟩
theorem cnt_len (x:En) (l:List Rl):(cnt x l).length≤l.length:=by
 rcases cnt_ok x l with⟨h,_⟩|⟨m,_,h⟩
 ·rw[h];simp
 ·rw[h];exact List.length_filter_le _ _
theorem LkSt.len {w w3 wr:World}{d k:Nat}{x:En}{l:List Rl}{cv:Value}{us:List Rn}(h:LkSt w w3 wr d x l k cv us):us.length≤k:=by
 have h1:=congrArg List.length h.m
 have h2:=cnt_len x (l.take k)
 rw[List.length_map]at h1
 rw[List.length_take]at h2
 omega
theorem cstep_off {x:En}{acc:List Rl}{r:Rl}(h:holds x r=false):cstep x acc r=acc:=by unfold cstep;rw[if_pos h]
theorem cstep_nil {x:En}{r:Rl}(h:holds x r=true):cstep x [] r=[r]:=by unfold cstep;rw[if_neg (by rw[h];simp)]
theorem cstep_cons {x:En}{c r:Rl}{cs:List Rl}(h:holds x r=true):cstep x (c::cs) r=if r.pr<c.pr then c::cs else if r.pr=c.pr then c::cs++[r] else[r]:=by unfold cstep;rw[if_neg (by rw[h];simp)]
set_option maxRecDepth 100000 in
set_option maxHeartbeats 40000000 in
theorem Look_any (l:List Rl) (x:En) (A:Option Addr) (c d:Nat) (w:World) (hX:RlB w w.heap.size d A l) (hl:l.length<4294967296) (hc:l.length≤c) (hc2:c<9223372036854775808) (hok :∀r∈l,r.ok) :
  Calls Tryz.prog 16 #[.slice A l.length c,x.v] w (LookR l x w):=by
 obtain⟨w1,hw1⟩ :∃w1,w.alloc (.cells (Ev_row x) 28)=w1:=⟨_,rfl⟩
 have hB:=EvB.new w x
 rw[hw1]at hB
 have hE1:Ext w w1:=by rw[←hw1];exact Ext.alloc _ _
 have hs1:w1.heap.size=w.heap.size+1:=by rw[←hw1];simp
 obtain⟨w2,hw2⟩ :∃w2,w1.alloc (.cells Lk_zero 39)=w2:=⟨_,rfl⟩
 have hZ:=LkZ.new w1
 rw[hw2,hs1]at hZ
 have hE2:Ext w1 w2:=by rw[←hw2];exact Ext.alloc _ _
 have hE12:=hE1.trans hE2
 have HE:=zR hE12
 have HX:=zR hX
 have HOK:=zR hok
 have HB:=zR (hB.ext hE2)
 have HZ:=zR hZ
 have CK:=zR (CheckL_any l A c d w2 (hX.ext hE12) hl hc hc2 hok)
 have HS1:=zR hs1
 unfold Ev_row at hw1
 unfold Lk_zero at hw2
 have HW1:=zR hw1
 have HW2:=zR hw2
 clear hw1 hw2 hB hE1 hZ hE2 hE12 hX hok hs1
 unfold En.v
 go_enter Tryz.func16,Tryz.ntmps16
 go_upto_region 1 with fail
 rw[HW1.out,HW2.out]
 go_wp2_with fail
 refine CK.out.mono ?_
 rintro e w3 ⟨rfl,hE3⟩
 have HE3:=zR (HE.out.trans hE3)
 have HZ3:=zR (HZ.out.ext hE3)
 have HB3:=zR (HB.out.ext hE3)
 obtain⟨E,hEE⟩ :∃E,chkL l=E:=⟨_,rfl⟩
 have HCE:=zR hEE
 rw[hEE]
 clear hEE hE3
 by_cases e0:E=0
 ·subst e0
  have HL:Hid (lookL l x=lookC x (cnt x l)):=zR (by unfold lookL;rw[HCE.out,if_neg (by simp)])
  go_wp2_with fail
  go_loopw [8,23] (fun cv kv wr =>∃(k:Nat) (us:List Rn),k≤l.length∧kv=.int .i64 k∧Hid (LkSt w w3 wr d x l k cv us)) (fun _ kv _=>l.length-(intOf kv).toNat)
  case atStart=>exact⟨0,[],by omega,rfl,zR ⟨rfl,OwnR.nil _ _,KidsR.nil _ _ _,Ext.refl _⟩⟩
  case round=>
   obtain⟨k,us,hk,rfl,HS⟩:=hrel
   by_cases hlt:k<l.length
   ·have tk:decide (k<l.length)=true:=by simp;omega
    obtain⟨g,o,u,rfl,hg,hu,hku,hr0⟩:=HX.out.at_ hlt
    have hr:=range_ext hr0 hg (HE3.out.trans HS.out.e)
    have HKU:=zR hku
    have HU:=zR hu
    have hoku:=HOK.out u.r (by rw[hu];exact List.getElem_mem hlt)
    have HST:=zR (show cnt x (l.take (k+1))=cstep x (cnt x (l.take k)) u.r by rw[hu];exact cnt_take x l k hlt)
    clear hku hu hr0
    go_upto_region 8 with(first|(refine load_R rfl _ rfl _ _ _ hr rfl rfl ?_)|(refine store_R u rfl _ _ rfl rfl rfl ?_))
    obtain⟨wa,hwa⟩ :∃wa,wr.alloc (.cells u.cells.toArray 49)=wa:=⟨_,rfl⟩
    have hB:=RnB.new wr u
    rw[hwa]at hB ⊢
    have hEa:Ext wr wa:=by rw[←hwa];exact Ext.alloc _ _
    obtain⟨br,hbr⟩ :∃b,wr.heap.size=b:=⟨_,rfl⟩
    rw[hbr]at hB ⊢
    have HBR:=zR hB
    have HEa:=zR hEa
    have hE3a:=HS.out.e.trans hEa
    have l1:=range1 hB.range
    rw[zO]at l1
    obtain⟨p0,p1,p2,p3,p4,p5,p6,p7,p8⟩:=(HB3.out.ext hE3a).cells
    have EV:=zR (Eval_any u.r.e1 x d u.A1 u.c1 wa ((HKU.out.ext (HE3.out.trans hE3a)).k1) hoku.2.2.1.2 hoku.2.2.1.1)
    unfold En.v at EV
    clear hwa hB hEa hbr hE3a hoku hr hg
    go_wp2_with (first|(refine load_E rfl _ rfl _ _ _ l1 rfl rfl ?_))
    refine EV.out.mono ?_
    rintro e w' ⟨rfl,hE'⟩
    have HV:Hid (holds x u.r=(evV u.r.e1 x).b):=zR rfl
    obtain⟨v,hv⟩ :∃v,evV u.r.e1 x=v:=⟨_,rfl⟩
    rw[hv]at HV ⊢
    unfold Vl.v
    have HEb:=zR (HEa.out.trans hE')
    have HBRb:=zR (HBR.out.ext hE')
    clear p0 p1 p2 p3 p4 p5 p6 p7 p8 l1 hv hE'
    go_upto_region 10 with fail
    obtain⟨q,hq⟩ :∃q,v.b=q:=⟨_,rfl⟩
    rw[hq]at HV ⊢
    obtain⟨wb,hwb⟩ :∃wb,w'.alloc (.cells #[.int .i64 v.ty,.int .i64 v.n,.bool q,.string ⟨v.s.toArray⟩] 44)=wb:=⟨_,rfl⟩
    rw[hwb]
    have hEb:Ext w' wb:=by rw[←hwb];exact Ext.alloc _ _
    have hvb:wb.cell? ⟨w'.heap.size,2,none⟩=some (.bool q):=by rw[←hwb,World.cell?_alloc_new];rfl
    have hlb:w'.heap.size<wb.heap.size:=by rw[←hwb];simp
    obtain⟨bv,hbv⟩ :∃b,w'.heap.size=b:=⟨_,rfl⟩
    rw[hbv]at hvb hlb ⊢
    have VB:Hid (∀W,Ext wb W→W.cell? ⟨bv,2,none⟩=some (.bool q)):=zR (fun W h=>(h.old (p:=⟨bv,2,none⟩) hlb).trans hvb)
    have PR:Hid (∀W,Ext wb W→W.cell? ⟨br,1,none⟩=some (.int .i64 u.r.pr)):=zR (fun W h=>(HBRb.out.ext (hEb.trans h)).range 1 _ rfl)
    have HEc:=zR (HEb.out.trans hEb)
    have HBRc:=zR (HBRb.out.ext hEb)
    clear hwb hEb hvb hlb hbv hq
    obtain⟨p,hp⟩ :∃p,u.r.pr=p:=⟨_,rfl⟩
    have HP:=zR hp
    rw[hp]at PR
    clear hp
    cases q with
    | false=>
     have HC:=zR (HST.out.trans (cstep_off HV.out))
     apply wp_region_seq (l:=[_,_,_,_,_,_,_,_,_,_,_,_,_,_,_,_,_]) (t:=[_]) [some 37,some 38,some 39,some 40,some 41,some 42,some 43,some 44,some 45,some 46,some 47,some 48,some 49,some 50,some 51,some 52,some 53,some 36] [[],[0],[1],[2],[3],[3,4],[3,5],[3,6],[7],[7,8],[7],[7,10],[7,11],[7,12],[7,9,13],[3,7,14],[3,15],[16]] [1,2,3,16,5,6,7,17,9,14,11,12,13,14,15,16,17] [eqv _,eqv _,eqv _,eqv _,eqv _,eqv _,eqv _,eqv _,eqv _,eqv _,eqv _,eqv _,eqv _,eqv _,eqv _,eqv _,eqv _] (by kernel_rfl) (by kernel_rfl) ⟨?o0,?o1,?o2,?o3,?o4,?o5,?o6,?o7,?o8,?o9,?o10,?o11,?o12,?o13,?o14,?o15,?o16,trivial⟩ ?last
     case o0=>
      intro xv W hE _
      simp only[putD,zC,zE]
      refine OpGoal.plain ?_
      go_wp2_with fail
      exact⟨rfl,Ext.refl _,rfl⟩
     case o1=>
      intro xv W hE hp
      have r0:xv 0=_:=hp.1
      clear hp
      have v2:=VB.out W ((Ext.drew wb).trans hE)
      have v1:=PR.out W ((Ext.drew wb).trans hE)
      simp only[putD,zC,zB,zE,zD,Act.put,zL,zN,zM]
      refine OpGoal.plain ?_
      go_wp2_with fail
      exact⟨rfl,Ext.refl _,rfl⟩
     case o2|o3=>
      intro xv W hE hp
      try have q0:xv _=_:=hp.1
      try have q1:xv _=_:=hp.2.1
      clear hp
      simp only[putD,zC,zB,zE,zD,Act.put,zL,zN,zM]
      refine OpGoal.plain ?_
      go_wp2_with fail
      exact⟨rfl,Ext.refl _,rfl⟩
     case o4=>
      intro xv W hE hp
      have r3:xv 3=_:=hp.1
      clear hp
      simp only[putD,zC,zB,zE,zD,Act.put,zL,zN,zM]
      exact OpGoal.off (by simp[yieldD,r3,undef]) ⟨Ext.refl _,rfl⟩
     case o5=>
      intro xv W hE hp
      have r3:xv 3=_:=hp.1
      have r4:xv 4=_:=hp.2.1
      clear hp
      simp only[putD,zC,zB,zE,zD,Act.put,zL,zN,zM]
      exact OpGoal.off (by simp[yieldD,r3,undef]) ⟨Ext.refl _,rfl⟩
     case o6=>
      intro xv W hE hp
      have r3:xv 3=_:=hp.1
      have r5:xv 5=_:=hp.2.1
      clear hp
      simp only[putD,zC,zB,zE,zD,Act.put,zL,zN,zM]
      exact OpGoal.off (by simp[yieldD,r3,undef]) ⟨Ext.refl _,rfl⟩
     case o7=>
      intro xv W hE hp
      have r3:xv 3=_:=hp.1
      have r6:xv 6=_:=hp.2.1
      clear hp
      simp only[putD,zC,zB,zE,zD,Act.put,zL,zN,zM]
      exact OpGoal.off (by simp[yieldD,r3,undef]) ⟨Ext.refl _,rfl⟩
     case o8=>
      intro xv W hE hp
      have r7:xv 7=_:=hp.1
      clear hp
      simp only[putD,zC,zB,zE,zD,Act.put,zL,zN,zM]
      exact OpGoal.off (by simp[yieldD,r7,undef]) ⟨Ext.refl _,rfl⟩
     case o9=>
      intro xv W hE hp
      have r7:xv 7=_:=hp.1
      have r8:xv 8=_:=hp.2.1
      clear hp
      have v2:=VB.out W ((Ext.drew wb).trans hE)
      have v1:=PR.out W ((Ext.drew wb).trans hE)
      simp only[putD,zC,zB,zE,zD,Act.put,zL,zN,zM]
      exact OpGoal.off (by simp[yieldD,r7,undef]) ⟨Ext.refl _,rfl⟩
     case o10=>
      intro xv W hE hp
      have r7:xv 7=_:=hp.1
      clear hp
      simp only[putD,zC,zB,zE,zD,Act.put,zL,zN,zM]
      exact OpGoal.off (by simp[yieldD,r7,undef]) ⟨Ext.refl _,rfl⟩
     case o11=>
      intro xv W hE hp
      have r7:xv 7=_:=hp.1
      have r10:xv 10=_:=hp.2.1
      clear hp
      simp only[putD,zC,zB,zE,zD,Act.put,zL,zN,zM]
      exact OpGoal.off (by simp[yieldD,r7,undef]) ⟨Ext.refl _,rfl⟩
     case o12=>
      intro xv W hE hp
      have r7:xv 7=_:=hp.1
      have r11:xv 11=_:=hp.2.1
      clear hp
      simp only[putD,zC,zB,zE,zD,Act.put,zL,zN,zM]
      exact OpGoal.off (by simp[yieldD,r7,undef]) ⟨Ext.refl _,rfl⟩
     case o13=>
      intro xv W hE hp
      have r7:xv 7=_:=hp.1
      have r12:xv 12=_:=hp.2.1
      clear hp
      have v2:=VB.out W ((Ext.drew wb).trans hE)
      have v1:=PR.out W ((Ext.drew wb).trans hE)
      simp only[putD,zC,zB,zE,zD,Act.put,zL,zN,zM]
      exact OpGoal.off (by simp[yieldD,r7,undef]) ⟨Ext.refl _,rfl⟩
     case o14=>
      intro xv W hE hp
      have r7:xv 7=_:=hp.1
      have r9:xv 9=_:=hp.2.1
      have r13:xv 13=_:=hp.2.2.1
      clear hp
      simp only[putD,zC,zB,zE,zD,Act.put,zL,zN,zM]
      exact OpGoal.off (by simp[yieldD,r7,undef]) ⟨Ext.refl _,rfl⟩
     case o15=>
      intro xv W hE hp
      have r3:xv 3=_:=hp.1
      have r7:xv 7=_:=hp.2.1
      have r14:xv 14=_:=hp.2.2.1
      clear hp
      simp only[putD,zC,zB,zE,zD,Act.put,zL,zN,zM]
      exact OpGoal.off (by simp[yieldD,r3,undef]) ⟨Ext.refl _,rfl⟩
     case o16=>
      intro xv W hE hp
      have r3:xv 3=_:=hp.1
      have r15:xv 15=_:=hp.2.1
      clear hp
      simp only[putD,zC,zB,zE,zD,Act.put,zL,zN,zM]
      refine OpGoal.plain ?_
      go_wp2_with fail
      exact⟨rfl,Ext.refl _,rfl⟩
     case last=>
      intro xv W hE hp
      have r0:xv 0=_:=hp.1
      have r1:xv 1=_:=hp.2.1
      have r2:xv 2=_:=hp.2.2.1
      have r3:xv 3=_:=hp.2.2.2.1
      have r4:xv 4=_:=hp.2.2.2.2.1
      have r5:xv 5=_:=hp.2.2.2.2.2.1
      have r6:xv 6=_:=hp.2.2.2.2.2.2.1
      have r7:xv 7=_:=hp.2.2.2.2.2.2.2.1
      have r8:xv 8=_:=hp.2.2.2.2.2.2.2.2.1
      have r9:xv 9=_:=hp.2.2.2.2.2.2.2.2.2.1
      have r10:xv 10=_:=hp.2.2.2.2.2.2.2.2.2.2.1
      have r11:xv 11=_:=hp.2.2.2.2.2.2.2.2.2.2.2.1
      have r12:xv 12=_:=hp.2.2.2.2.2.2.2.2.2.2.2.2.1
      have r13:xv 13=_:=hp.2.2.2.2.2.2.2.2.2.2.2.2.2.1
      have r14:xv 14=_:=hp.2.2.2.2.2.2.2.2.2.2.2.2.2.2.1
      have r15:xv 15=_:=hp.2.2.2.2.2.2.2.2.2.2.2.2.2.2.2.1
      have r16:xv 16=_:=hp.2.2.2.2.2.2.2.2.2.2.2.2.2.2.2.2.1
      clear hp
      simp only[putD,zC,zB,zE,zD,Act.put,zF,zG,zJ,zK,zI,zA,zL,zN,zM]
      have HEW:=zR (HEc.out.trans ((Ext.drew wb).trans hE))
      clear hE
      go_wp2_with fail
      go_roundw
      case rel=>exact⟨k+1,us,by omega,by go_num,zR (HS.out.keep HC.out HEW.out)⟩
      case measure=>simp[intOf];omega
    | true=>
     cases us with
     | nil=>
      obtain⟨A0,c0,hcv,_⟩:=HS.out.o.form
      have HC:=zR (HST.out.trans (show cstep x (cnt x (l.take k)) u.r=[u.r] by rw[←HS.out.m];exact cstep_nil HV.out))
      subst hcv
      apply wp_region_seq (l:=[_,_,_,_,_,_,_,_,_,_,_,_,_,_,_,_,_]) (t:=[_]) [some 37,some 38,some 39,some 40,some 41,some 42,some 43,some 44,some 45,some 46,some 47,some 48,some 49,some 50,some 51,some 52,some 53,some 36] [[],[0],[1],[2],[3],[3,4],[3,5],[3,6],[7],[7,8],[7],[7,10],[7,11],[7,12],[7,9,13],[3,7,14],[3,15],[16]] [1,2,3,16,5,6,7,17,9,14,11,12,13,14,15,16,17] [eqv _,eqv _,eqv _,eqv _,eqv _,eqv _,eqv _,eqv _,eqv _,eqv _,eqv _,eqv _,eqv _,eqv _,eqv _,eqv _,eqv _] (by kernel_rfl) (by kernel_rfl) ⟨?o0,?o1,?o2,?o3,?o4,?o5,?o6,?o7,?o8,?o9,?o10,?o11,?o12,?o13,?o14,?o15,?o16,trivial⟩ ?last
      case o0=>
       intro xv W hE _
       simp only[putD,zC,zE]
       refine OpGoal.plain ?_
       go_wp2_with fail
       exact⟨rfl,Ext.refl _,rfl⟩
      case o1=>
       intro xv W hE hp
       have r0:xv 0=_:=hp.1
       clear hp
       have v2:=VB.out W ((Ext.drew wb).trans hE)
       have v1:=PR.out W ((Ext.drew wb).trans hE)
       simp only[putD,zC,zB,zE,zD,Act.put,zL,zN,zM]
       refine OpGoal.plain ?_
       go_wp2_with fail
       exact⟨rfl,Ext.refl _,rfl⟩
      case o2|o3=>
       intro xv W hE hp
       try have q0:xv _=_:=hp.1
       try have q1:xv _=_:=hp.2.1
       clear hp
       simp only[putD,zC,zB,zE,zD,Act.put,zL,zN,zM]
       refine OpGoal.plain ?_
       go_wp2_with fail
       exact⟨rfl,Ext.refl _,rfl⟩
      case o4=>
       intro xv W hE hp
       have r3:xv 3=_:=hp.1
       clear hp
       simp only[putD,zC,zB,zE,zD,Act.put,zL,zN,zM]
       refine OpGoal.yes (by simp[yieldD,r3]) ?_
       go_wp2_with fail
       exact⟨rfl,Ext.refl _,rfl⟩
      case o5=>
       intro xv W hE hp
       have r3:xv 3=_:=hp.1
       have r4:xv 4=_:=hp.2.1
       clear hp
       simp only[putD,zC,zB,zE,zD,Act.put,zL,zN,zM]
       refine OpGoal.yes (by simp[yieldD,r3]) ?_
       go_wp2_with fail
       exact⟨rfl,Ext.refl _,rfl⟩
      case o6=>
       intro xv W hE hp
       have r3:xv 3=_:=hp.1
       have r5:xv 5=_:=hp.2.1
       clear hp
       simp only[putD,zC,zB,zE,zD,Act.put,zL,zN,zM]
       refine OpGoal.yes (by simp[yieldD,r3]) ?_
       go_wp2_with fail
       exact⟨rfl,Ext.refl _,rfl⟩
      case o7=>
       intro xv W hE hp
       have r3:xv 3=_:=hp.1
       have r6:xv 6=_:=hp.2.1
       clear hp
       simp only[putD,zC,zB,zE,zD,Act.put,zL,zN,zM]
       refine OpGoal.yes (by simp[yieldD,r3]) ?_
       go_wp2_with fail
       exact⟨rfl,Ext.refl _,rfl⟩
      case o8=>
       intro xv W hE hp
       have r7:xv 7=_:=hp.1
       clear hp
       simp only[putD,zC,zB,zE,zD,Act.put,zL,zN,zM]
       exact OpGoal.off (by simp[yieldD,r7,undef]) ⟨Ext.refl _,rfl⟩
      case o9=>
       intro xv W hE hp
       have r7:xv 7=_:=hp.1
       have r8:xv 8=_:=hp.2.1
       clear hp
       have v2:=VB.out W ((Ext.drew wb).trans hE)
       have v1:=PR.out W ((Ext.drew wb).trans hE)
       simp only[putD,zC,zB,zE,zD,Act.put,zL,zN,zM]
       exact OpGoal.off (by simp[yieldD,r7,undef]) ⟨Ext.refl _,rfl⟩
      case o10=>
       intro xv W hE hp
       have r7:xv 7=_:=hp.1
       clear hp
       simp only[putD,zC,zB,zE,zD,Act.put,zL,zN,zM]
       exact OpGoal.off (by simp[yieldD,r7,undef]) ⟨Ext.refl _,rfl⟩
      case o11=>
       intro xv W hE hp
       have r7:xv 7=_:=hp.1
       have r10:xv 10=_:=hp.2.1
       clear hp
       simp only[putD,zC,zB,zE,zD,Act.put,zL,zN,zM]
       exact OpGoal.off (by simp[yieldD,r7,undef]) ⟨Ext.refl _,rfl⟩
      case o12=>
       intro xv W hE hp
       have r7:xv 7=_:=hp.1
       have r11:xv 11=_:=hp.2.1
       clear hp
       simp only[putD,zC,zB,zE,zD,Act.put,zL,zN,zM]
       exact OpGoal.off (by simp[yieldD,r7,undef]) ⟨Ext.refl _,rfl⟩
      case o13=>
       intro xv W hE hp
       have r7:xv 7=_:=hp.1
       have r12:xv 12=_:=hp.2.1
       clear hp
       have v2:=VB.out W ((Ext.drew wb).trans hE)
       have v1:=PR.out W ((Ext.drew wb).trans hE)
       simp only[putD,zC,zB,zE,zD,Act.put,zL,zN,zM]
       exact OpGoal.off (by simp[yieldD,r7,undef]) ⟨Ext.refl _,rfl⟩
      case o14=>
       intro xv W hE hp
       have r7:xv 7=_:=hp.1
       have r9:xv 9=_:=hp.2.1
       have r13:xv 13=_:=hp.2.2.1
       clear hp
       simp only[putD,zC,zB,zE,zD,Act.put,zL,zN,zM]
       exact OpGoal.off (by simp[yieldD,r7,undef]) ⟨Ext.refl _,rfl⟩
      case o15=>
       intro xv W hE hp
       have r3:xv 3=_:=hp.1
       have r7:xv 7=_:=hp.2.1
       have r14:xv 14=_:=hp.2.2.1
       clear hp
       simp only[putD,zC,zB,zE,zD,Act.put,zL,zN,zM]
       refine OpGoal.yes (by simp[yieldD,r3]) ?_
       go_wp2_with fail
       exact⟨rfl,Ext.refl _,rfl⟩
      case o16=>
       intro xv W hE hp
       have r3:xv 3=_:=hp.1
       have r15:xv 15=_:=hp.2.1
       clear hp
       simp only[putD,zC,zB,zE,zD,Act.put,zL,zN,zM]
       refine OpGoal.plain ?_
       go_wp2_with fail
       exact⟨rfl,Ext.refl _,rfl⟩
      case last=>
       intro xv W hE hp
       have r0:xv 0=_:=hp.1
       have r1:xv 1=_:=hp.2.1
       have r2:xv 2=_:=hp.2.2.1
       have r3:xv 3=_:=hp.2.2.2.1
       have r4:xv 4=_:=hp.2.2.2.2.1
       have r5:xv 5=_:=hp.2.2.2.2.2.1
       have r6:xv 6=_:=hp.2.2.2.2.2.2.1
       have r7:xv 7=_:=hp.2.2.2.2.2.2.2.1
       have r8:xv 8=_:=hp.2.2.2.2.2.2.2.2.1
       have r9:xv 9=_:=hp.2.2.2.2.2.2.2.2.2.1
       have r10:xv 10=_:=hp.2.2.2.2.2.2.2.2.2.2.1
       have r11:xv 11=_:=hp.2.2.2.2.2.2.2.2.2.2.2.1
       have r12:xv 12=_:=hp.2.2.2.2.2.2.2.2.2.2.2.2.1
       have r13:xv 13=_:=hp.2.2.2.2.2.2.2.2.2.2.2.2.2.1
       have r14:xv 14=_:=hp.2.2.2.2.2.2.2.2.2.2.2.2.2.2.1
       have r15:xv 15=_:=hp.2.2.2.2.2.2.2.2.2.2.2.2.2.2.2.1
       have r16:xv 16=_:=hp.2.2.2.2.2.2.2.2.2.2.2.2.2.2.2.2.1
       clear hp
       simp only[putD,zC,zB,zE,zD,Act.put,zF,zG,zJ,zK,zI,zA,zL,zN,zM]
       have HEWb:=zR ((Ext.drew wb).trans hE)
       clear hE
       go_upto_region 11 with fail
       apply wp_region_seq (l:=[_,_,_,_,_,_,_,_,_,_,_,_]) (t:=[_]) [some 55,some 56,some 57,some 58,some 59,some 60,some 61,some 62,some 63,some 64,some 65,some 66,some 54] [[],[0],[1],[2],[3],[3,4],[3],[3,6],[3,7],[3,8],[3,5,9],[3,10],[11]] [1,2,3,12,5,10,7,8,9,10,11,12] [eqv _,eqv _,eqv _,eqv _,eqv _,eqv _,eqv _,eqv _,eqv _,eqv _,eqv _,eqv _] (by kernel_rfl) (by kernel_rfl) ⟨?o0,?o1,?o2,?o3,?o4,?o5,?o6,?o7,?o8,?o9,?o10,?o11,trivial⟩ ?last
       case o0|o1|o2|o3=>
        intro xv W2 hE hp
        try have q0:xv _=_:=hp.1
        try have q1:xv _=_:=hp.2.1
        clear hp
        simp only[putD,zC,zB,zE,zD,Act.put,zL,zN,zM]
        refine OpGoal.plain ?_
        go_wp2_with fail
        exact⟨rfl,Ext.refl _,rfl⟩
       case o4=>
        intro xv W2 hE hp
        have r3:xv 3=_:=hp.1
        clear hp
        simp only[putD,zC,zB,zE,zD,Act.put,zL,zN,zM]
        exact OpGoal.no (by simp[yieldD,r3]) ⟨Ext.refl _,rfl⟩
       case o5=>
        intro xv W2 hE hp
        have r3:xv 3=_:=hp.1
        have r4:xv 4=_:=hp.2.1
        clear hp
        have hWW:=HEWb.out.trans ((Ext.drew W).trans hE)
        have v1:=PR.out W2 hWW
        simp only[putD,zC,zB,zE,zD,Act.put,zL,zN,zM]
        exact OpGoal.no (by simp[yieldD,r3]) ⟨Ext.refl _,rfl⟩
       case o6=>
        intro xv W2 hE hp
        have r3:xv 3=_:=hp.1
        clear hp
        simp only[putD,zC,zB,zE,zD,Act.put,zL,zN,zM]
        exact OpGoal.no (by simp[yieldD,r3]) ⟨Ext.refl _,rfl⟩
       case o7=>
        intro xv W2 hE hp
        have r3:xv 3=_:=hp.1
        have r6:xv 6=_:=hp.2.1
        clear hp
        simp only[putD,zC,zB,zE,zD,Act.put,zL,zN,zM]
        exact OpGoal.no (by simp[yieldD,r3]) ⟨Ext.refl _,rfl⟩
       case o8=>
        intro xv W2 hE hp
        have r3:xv 3=_:=hp.1
        have r7:xv 7=_:=hp.2.1
        clear hp
        simp only[putD,zC,zB,zE,zD,Act.put,zL,zN,zM]
        exact OpGoal.no (by simp[yieldD,r3]) ⟨Ext.refl _,rfl⟩
       case o9=>
        intro xv W2 hE hp
        have r3:xv 3=_:=hp.1
        have r8:xv 8=_:=hp.2.1
        clear hp
        have hWW:=HEWb.out.trans ((Ext.drew W).trans hE)
        have v1:=PR.out W2 hWW
        simp only[putD,zC,zB,zE,zD,Act.put,zL,zN,zM]
        exact OpGoal.no (by simp[yieldD,r3]) ⟨Ext.refl _,rfl⟩
       case o10=>
        intro xv W2 hE hp
        have r3:xv 3=_:=hp.1
        have r5:xv 5=_:=hp.2.1
        have r9:xv 9=_:=hp.2.2.1
        clear hp
        simp only[putD,zC,zB,zE,zD,Act.put,zL,zN,zM]
        exact OpGoal.no (by simp[yieldD,r3]) ⟨Ext.refl _,rfl⟩
       case o11=>
        intro xv W2 hE hp
        have r3:xv 3=_:=hp.1
        have r10:xv 10=_:=hp.2.1
        clear hp
        simp only[putD,zC,zB,zE,zD,Act.put,zL,zN,zM]
        refine OpGoal.plain ?_
        go_wp2_with fail
        exact⟨rfl,Ext.refl _,rfl⟩
       case last=>
        intro xv W2 hE hp
        have r0:xv 0=_:=hp.1
        have r1:xv 1=_:=hp.2.1
        have r2:xv 2=_:=hp.2.2.1
        have r3:xv 3=_:=hp.2.2.2.1
        have r4:xv 4=_:=hp.2.2.2.2.1
        have r5:xv 5=_:=hp.2.2.2.2.2.1
        have r6:xv 6=_:=hp.2.2.2.2.2.2.1
        have r7:xv 7=_:=hp.2.2.2.2.2.2.2.1
        have r8:xv 8=_:=hp.2.2.2.2.2.2.2.2.1
        have r9:xv 9=_:=hp.2.2.2.2.2.2.2.2.2.1
        have r10:xv 10=_:=hp.2.2.2.2.2.2.2.2.2.2.1
        have r11:xv 11=_:=hp.2.2.2.2.2.2.2.2.2.2.2.1
        clear hp
        simp only[putD,zC,zB,zE,zD,Act.put,zF,zG,zJ,zK,zI,zA,zL,zN,zM]
        have HEW2:=zR (HEc.out.trans (HEWb.out.trans ((Ext.drew W).trans hE)))
        have HEX:=zR (HEWb.out.trans ((Ext.drew W).trans hE))
        clear hE
        have HBRW:=zR (HBRc.out.ext (HEX.out))
        have hrx:=HBRW.out.range
        unfold Rn.cells at hrx
        go_wp2_with (first|(refine load_R rfl _ rfl br 0 _ hrx rfl rfl ?_))
        go_roundw
        case rel=>exact⟨k+1,[u],by omega,by go_num,zR (HS.out.new u HC.out HKU.out HEW2.out)⟩
        case measure=>simp[intOf];omega
     | cons u0 us'=>
      obtain⟨A0,c0,hcv,hrow⟩:=HS.out.o.form
      obtain⟨gb,rfl,hgb1,hgb2,_,hrw⟩:=hrow (by simp)
      have hlen:=HS.out.len
      obtain⟨n,hn⟩ :∃n,(u0::us').length=n:=⟨_,rfl⟩
      have hn0:0<n:=by rw[←hn];simp
      rw[hn]at hcv hlen
      subst hcv
      obtain⟨p0,hp0⟩ :∃p,u0.r.pr=p:=⟨_,rfl⟩
      have P0:Hid (∀W,Ext wb W→W.cell? ⟨gb,1,none⟩=some (.int .i64 p0)):=zR (fun W h=>by
       have:=range_ext (hrw 0 u0 rfl) hgb2 (HEc.out.trans h) 1 _ rfl
       rw[zP,zO]at this
       rw[←hp0];exact this)
      have HCC:Hid (cnt x (l.take (k+1))=if p<p0 then cnt x (l.take k) else if p=p0 then cnt x (l.take k)++[u.r] else[u.r]):=zR (by
       rw[HST.out,←HS.out.m,List.map_cons,cstep_cons HV.out,HP.out,hp0])
      have tn:decide ((0:Int)<(n:Int))=true:=by simp;omega
      clear hrow hrw hp0 hgb1 hgb2
      by_cases g1:p<p0
      ·have y1:decide (p<p0)=true:=by simpa using g1
       have HC:Hid (cnt x (l.take (k+1))=cnt x (l.take k)):=zR (by rw[HCC.out,if_pos g1])
       clear g1
       apply wp_region_seq (l:=[_,_,_,_,_,_,_,_,_,_,_,_,_,_,_,_,_]) (t:=[_]) [some 37,some 38,some 39,some 40,some 41,some 42,some 43,some 44,some 45,some 46,some 47,some 48,some 49,some 50,some 51,some 52,some 53,some 36] [[],[0],[1],[2],[3],[3,4],[3,5],[3,6],[7],[7,8],[7],[7,10],[7,11],[7,12],[7,9,13],[3,7,14],[3,15],[16]] [1,2,3,16,5,6,7,17,9,14,11,12,13,14,15,16,17] [eqv _,eqv _,eqv _,eqv _,eqv _,eqv _,eqv _,eqv _,eqv _,eqv _,eqv _,eqv _,eqv _,eqv _,eqv _,eqv _,eqv _] (by kernel_rfl) (by kernel_rfl) ⟨?o0,?o1,?o2,?o3,?o4,?o5,?o6,?o7,?o8,?o9,?o10,?o11,?o12,?o13,?o14,?o15,?o16,trivial⟩ ?last
       case o0=>
        intro xv W hE _
        simp only[putD,zC,zE]
        refine OpGoal.plain ?_
        go_wp2_with fail
        exact⟨rfl,Ext.refl _,rfl⟩
       case o1=>
        intro xv W hE hp
        have r0:xv 0=_:=hp.1
        clear hp
        have v2:=VB.out W ((Ext.drew wb).trans hE)
        have v1:=PR.out W ((Ext.drew wb).trans hE)
        have v0:=P0.out W ((Ext.drew wb).trans hE)
        simp only[putD,zC,zB,zE,zD,Act.put,zL,zN,zM]
        refine OpGoal.plain ?_
        go_wp2_with fail
        exact⟨rfl,Ext.refl _,rfl⟩
       case o2|o3=>
        intro xv W hE hp
        try have q0:xv _=_:=hp.1
        try have q1:xv _=_:=hp.2.1
        clear hp
        simp only[putD,zC,zB,zE,zD,Act.put,zL,zN,zM]
        refine OpGoal.plain ?_
        go_wp2_with fail
        exact⟨rfl,Ext.refl _,rfl⟩
       case o4=>
        intro xv W hE hp
        have r3:xv 3=_:=hp.1
        clear hp
        simp only[putD,zC,zB,zE,zD,Act.put,zL,zN,zM]
        refine OpGoal.yes (by simp[yieldD,r3]) ?_
        go_wp2_with fail
        exact⟨rfl,Ext.refl _,rfl⟩
       case o5=>
        intro xv W hE hp
        have r3:xv 3=_:=hp.1
        have r4:xv 4=_:=hp.2.1
        clear hp
        simp only[putD,zC,zB,zE,zD,Act.put,zL,zN,zM]
        refine OpGoal.yes (by simp[yieldD,r3]) ?_
        go_wp2_with fail
        exact⟨rfl,Ext.refl _,rfl⟩
       case o6=>
        intro xv W hE hp
        have r3:xv 3=_:=hp.1
        have r5:xv 5=_:=hp.2.1
        clear hp
        simp only[putD,zC,zB,zE,zD,Act.put,zL,zN,zM]
        refine OpGoal.yes (by simp[yieldD,r3]) ?_
        go_wp2_with fail
        exact⟨rfl,Ext.refl _,rfl⟩
       case o7=>
        intro xv W hE hp
        have r3:xv 3=_:=hp.1
        have r6:xv 6=_:=hp.2.1
        clear hp
        simp only[putD,zC,zB,zE,zD,Act.put,zL,zN,zM]
        refine OpGoal.yes (by simp[yieldD,r3]) ?_
        go_wp2_with fail
        exact⟨rfl,Ext.refl _,rfl⟩
       case o8=>
        intro xv W hE hp
        have r7:xv 7=_:=hp.1
        clear hp
        simp only[putD,zC,zB,zE,zD,Act.put,zL,zN,zM]
        refine OpGoal.yes (by simp[yieldD,r7]) ?_
        go_wp2_with fail
        exact⟨rfl,Ext.refl _,rfl⟩
       case o9=>
        intro xv W hE hp
        have r7:xv 7=_:=hp.1
        have r8:xv 8=_:=hp.2.1
        clear hp
        have v2:=VB.out W ((Ext.drew wb).trans hE)
        have v1:=PR.out W ((Ext.drew wb).trans hE)
        have v0:=P0.out W ((Ext.drew wb).trans hE)
        simp only[putD,zC,zB,zE,zD,Act.put,zL,zN,zM]
        refine OpGoal.yes (by simp[yieldD,r7]) ?_
        go_wp2_with fail
        exact⟨rfl,Ext.refl _,rfl⟩
       case o10=>
        intro xv W hE hp
        have r7:xv 7=_:=hp.1
        clear hp
        simp only[putD,zC,zB,zE,zD,Act.put,zL,zN,zM]
        refine OpGoal.yes (by simp[yieldD,r7]) ?_
        go_wp2_with fail
        exact⟨rfl,Ext.refl _,rfl⟩
       case o11=>
        intro xv W hE hp
        have r7:xv 7=_:=hp.1
        have r10:xv 10=_:=hp.2.1
        clear hp
        simp only[putD,zC,zB,zE,zD,Act.put,zL,zN,zM]
        refine OpGoal.yes (by simp[yieldD,r7]) ?_
        go_wp2_with fail
        exact⟨rfl,Ext.refl _,rfl⟩
       case o12=>
        intro xv W hE hp
        have r7:xv 7=_:=hp.1
        have r11:xv 11=_:=hp.2.1
        clear hp
        simp only[putD,zC,zB,zE,zD,Act.put,zL,zN,zM]
        refine OpGoal.yes (by simp[yieldD,r7]) ?_
        go_wp2_with fail
        exact⟨rfl,Ext.refl _,rfl⟩
       case o13=>
        intro xv W hE hp
        have r7:xv 7=_:=hp.1
        have r12:xv 12=_:=hp.2.1
        clear hp
        have v2:=VB.out W ((Ext.drew wb).trans hE)
        have v1:=PR.out W ((Ext.drew wb).trans hE)
        have v0:=P0.out W ((Ext.drew wb).trans hE)
        simp only[putD,zC,zB,zE,zD,Act.put,zL,zN,zM]
        refine OpGoal.yes (by simp[yieldD,r7]) ?_
        go_wp2_with fail
        exact⟨rfl,Ext.refl _,rfl⟩
       case o14=>
        intro xv W hE hp
        have r7:xv 7=_:=hp.1
        have r9:xv 9=_:=hp.2.1
        have r13:xv 13=_:=hp.2.2.1
        clear hp
        simp only[putD,zC,zB,zE,zD,Act.put,zL,zN,zM]
        refine OpGoal.yes (by simp[yieldD,r7]) ?_
        go_wp2_with fail
        exact⟨rfl,Ext.refl _,rfl⟩
       case o15=>
        intro xv W hE hp
        have r3:xv 3=_:=hp.1
        have r7:xv 7=_:=hp.2.1
        have r14:xv 14=_:=hp.2.2.1
        clear hp
        simp only[putD,zC,zB,zE,zD,Act.put,zL,zN,zM]
        refine OpGoal.yes (by simp[yieldD,r3]) ?_
        go_wp2_with fail
        exact⟨rfl,Ext.refl _,rfl⟩
       case o16=>
        intro xv W hE hp
        have r3:xv 3=_:=hp.1
        have r15:xv 15=_:=hp.2.1
        clear hp
        simp only[putD,zC,zB,zE,zD,Act.put,zL,zN,zM]
        refine OpGoal.plain ?_
        go_wp2_with fail
        exact⟨rfl,Ext.refl _,rfl⟩
       case last=>
        intro xv W hE hp
        have r0:xv 0=_:=hp.1
        have r1:xv 1=_:=hp.2.1
        have r2:xv 2=_:=hp.2.2.1
        have r3:xv 3=_:=hp.2.2.2.1
        have r4:xv 4=_:=hp.2.2.2.2.1
        have r5:xv 5=_:=hp.2.2.2.2.2.1
        have r6:xv 6=_:=hp.2.2.2.2.2.2.1
        have r7:xv 7=_:=hp.2.2.2.2.2.2.2.1
        have r8:xv 8=_:=hp.2.2.2.2.2.2.2.2.1
        have r9:xv 9=_:=hp.2.2.2.2.2.2.2.2.2.1
        have r10:xv 10=_:=hp.2.2.2.2.2.2.2.2.2.2.1
        have r11:xv 11=_:=hp.2.2.2.2.2.2.2.2.2.2.2.1
        have r12:xv 12=_:=hp.2.2.2.2.2.2.2.2.2.2.2.2.1
        have r13:xv 13=_:=hp.2.2.2.2.2.2.2.2.2.2.2.2.2.1
        have r14:xv 14=_:=hp.2.2.2.2.2.2.2.2.2.2.2.2.2.2.1
        have r15:xv 15=_:=hp.2.2.2.2.2.2.2.2.2.2.2.2.2.2.2.1
        have r16:xv 16=_:=hp.2.2.2.2.2.2.2.2.2.2.2.2.2.2.2.2.1
        clear hp
        simp only[putD,zC,zB,zE,zD,Act.put,zF,zG,zJ,zK,zI,zA,zL,zN,zM]
        have HEW:=zR (HEc.out.trans ((Ext.drew wb).trans hE))
        clear hE
        go_wp2_with fail
        go_roundw
        case rel=>exact⟨k+1,u0::us',by omega,by go_num,zR (HS.out.keep HC.out HEW.out)⟩
        case measure=>simp[intOf];omega
      ·have y1:decide (p<p0)=false:=by simpa using g1
       by_cases g2:p=p0
       ·have y2:(p == p0)=true:=by rw[beq_iff_eq];exact g2
        have HC:Hid (cnt x (l.take (k+1))=cnt x (l.take k)++[u.r]):=zR (by rw[HCC.out,if_neg g1,if_pos g2])
        clear g1 g2
        apply wp_region_seq (l:=[_,_,_,_,_,_,_,_,_,_,_,_,_,_,_,_,_]) (t:=[_]) [some 37,some 38,some 39,some 40,some 41,some 42,some 43,some 44,some 45,some 46,some 47,some 48,some 49,some 50,some 51,some 52,some 53,some 36] [[],[0],[1],[2],[3],[3,4],[3,5],[3,6],[7],[7,8],[7],[7,10],[7,11],[7,12],[7,9,13],[3,7,14],[3,15],[16]] [1,2,3,16,5,6,7,17,9,14,11,12,13,14,15,16,17] [eqv _,eqv _,eqv _,eqv _,eqv _,eqv _,eqv _,eqv _,eqv _,eqv _,eqv _,eqv _,eqv _,eqv _,eqv _,eqv _,eqv _] (by kernel_rfl) (by kernel_rfl) ⟨?o0,?o1,?o2,?o3,?o4,?o5,?o6,?o7,?o8,?o9,?o10,?o11,?o12,?o13,?o14,?o15,?o16,trivial⟩ ?last
        case o0=>
         intro xv W hE _
         simp only[putD,zC,zE]
         refine OpGoal.plain ?_
         go_wp2_with fail
         exact⟨rfl,Ext.refl _,rfl⟩
        case o1=>
         intro xv W hE hp
         have r0:xv 0=_:=hp.1
         clear hp
         have v2:=VB.out W ((Ext.drew wb).trans hE)
         have v1:=PR.out W ((Ext.drew wb).trans hE)
         have v0:=P0.out W ((Ext.drew wb).trans hE)
         simp only[putD,zC,zB,zE,zD,Act.put,zL,zN,zM]
         refine OpGoal.plain ?_
         go_wp2_with fail
         exact⟨rfl,Ext.refl _,rfl⟩
        case o2|o3=>
         intro xv W hE hp
         try have q0:xv _=_:=hp.1
         try have q1:xv _=_:=hp.2.1
         clear hp
         simp only[putD,zC,zB,zE,zD,Act.put,zL,zN,zM]
         refine OpGoal.plain ?_
         go_wp2_with fail
         exact⟨rfl,Ext.refl _,rfl⟩
        case o4=>
         intro xv W hE hp
         have r3:xv 3=_:=hp.1
         clear hp
         simp only[putD,zC,zB,zE,zD,Act.put,zL,zN,zM]
         refine OpGoal.yes (by simp[yieldD,r3]) ?_
         go_wp2_with fail
         exact⟨rfl,Ext.refl _,rfl⟩
        case o5=>
         intro xv W hE hp
         have r3:xv 3=_:=hp.1
         have r4:xv 4=_:=hp.2.1
         clear hp
         simp only[putD,zC,zB,zE,zD,Act.put,zL,zN,zM]
         refine OpGoal.yes (by simp[yieldD,r3]) ?_
         go_wp2_with fail
         exact⟨rfl,Ext.refl _,rfl⟩
        case o6=>
         intro xv W hE hp
         have r3:xv 3=_:=hp.1
         have r5:xv 5=_:=hp.2.1
         clear hp
         simp only[putD,zC,zB,zE,zD,Act.put,zL,zN,zM]
         refine OpGoal.yes (by simp[yieldD,r3]) ?_
         go_wp2_with fail
         exact⟨rfl,Ext.refl _,rfl⟩
        case o7=>
         intro xv W hE hp
         have r3:xv 3=_:=hp.1
         have r6:xv 6=_:=hp.2.1
         clear hp
         simp only[putD,zC,zB,zE,zD,Act.put,zL,zN,zM]
         refine OpGoal.yes (by simp[yieldD,r3]) ?_
         go_wp2_with fail
         exact⟨rfl,Ext.refl _,rfl⟩
        case o8=>
         intro xv W hE hp
         have r7:xv 7=_:=hp.1
         clear hp
         simp only[putD,zC,zB,zE,zD,Act.put,zL,zN,zM]
         refine OpGoal.yes (by simp[yieldD,r7]) ?_
         go_wp2_with fail
         exact⟨rfl,Ext.refl _,rfl⟩
        case o9=>
         intro xv W hE hp
         have r7:xv 7=_:=hp.1
         have r8:xv 8=_:=hp.2.1
         clear hp
         have v2:=VB.out W ((Ext.drew wb).trans hE)
         have v1:=PR.out W ((Ext.drew wb).trans hE)
         have v0:=P0.out W ((Ext.drew wb).trans hE)
         simp only[putD,zC,zB,zE,zD,Act.put,zL,zN,zM]
         refine OpGoal.yes (by simp[yieldD,r7]) ?_
         go_wp2_with fail
         exact⟨rfl,Ext.refl _,rfl⟩
        case o10=>
         intro xv W hE hp
         have r7:xv 7=_:=hp.1
         clear hp
         simp only[putD,zC,zB,zE,zD,Act.put,zL,zN,zM]
         refine OpGoal.yes (by simp[yieldD,r7]) ?_
         go_wp2_with fail
         exact⟨rfl,Ext.refl _,rfl⟩
        case o11=>
         intro xv W hE hp
         have r7:xv 7=_:=hp.1
         have r10:xv 10=_:=hp.2.1
         clear hp
         simp only[putD,zC,zB,zE,zD,Act.put,zL,zN,zM]
         refine OpGoal.yes (by simp[yieldD,r7]) ?_
         go_wp2_with fail
         exact⟨rfl,Ext.refl _,rfl⟩
        case o12=>
         intro xv W hE hp
         have r7:xv 7=_:=hp.1
         have r11:xv 11=_:=hp.2.1
         clear hp
         simp only[putD,zC,zB,zE,zD,Act.put,zL,zN,zM]
         refine OpGoal.yes (by simp[yieldD,r7]) ?_
         go_wp2_with fail
         exact⟨rfl,Ext.refl _,rfl⟩
        case o13=>
         intro xv W hE hp
         have r7:xv 7=_:=hp.1
         have r12:xv 12=_:=hp.2.1
         clear hp
         have v2:=VB.out W ((Ext.drew wb).trans hE)
         have v1:=PR.out W ((Ext.drew wb).trans hE)
         have v0:=P0.out W ((Ext.drew wb).trans hE)
         simp only[putD,zC,zB,zE,zD,Act.put,zL,zN,zM]
         refine OpGoal.yes (by simp[yieldD,r7]) ?_
         go_wp2_with fail
         exact⟨rfl,Ext.refl _,rfl⟩
        case o14=>
         intro xv W hE hp
         have r7:xv 7=_:=hp.1
         have r9:xv 9=_:=hp.2.1
         have r13:xv 13=_:=hp.2.2.1
         clear hp
         simp only[putD,zC,zB,zE,zD,Act.put,zL,zN,zM]
         refine OpGoal.yes (by simp[yieldD,r7]) ?_
         go_wp2_with fail
         exact⟨rfl,Ext.refl _,rfl⟩
        case o15=>
         intro xv W hE hp
         have r3:xv 3=_:=hp.1
         have r7:xv 7=_:=hp.2.1
         have r14:xv 14=_:=hp.2.2.1
         clear hp
         simp only[putD,zC,zB,zE,zD,Act.put,zL,zN,zM]
         refine OpGoal.yes (by simp[yieldD,r3]) ?_
         go_wp2_with fail
         exact⟨rfl,Ext.refl _,rfl⟩
        case o16=>
         intro xv W hE hp
         have r3:xv 3=_:=hp.1
         have r15:xv 15=_:=hp.2.1
         clear hp
         simp only[putD,zC,zB,zE,zD,Act.put,zL,zN,zM]
         refine OpGoal.plain ?_
         go_wp2_with fail
         exact⟨rfl,Ext.refl _,rfl⟩
        case last=>
         intro xv W hE hp
         have r0:xv 0=_:=hp.1
         have r1:xv 1=_:=hp.2.1
         have r2:xv 2=_:=hp.2.2.1
         have r3:xv 3=_:=hp.2.2.2.1
         have r4:xv 4=_:=hp.2.2.2.2.1
         have r5:xv 5=_:=hp.2.2.2.2.2.1
         have r6:xv 6=_:=hp.2.2.2.2.2.2.1
         have r7:xv 7=_:=hp.2.2.2.2.2.2.2.1
         have r8:xv 8=_:=hp.2.2.2.2.2.2.2.2.1
         have r9:xv 9=_:=hp.2.2.2.2.2.2.2.2.2.1
         have r10:xv 10=_:=hp.2.2.2.2.2.2.2.2.2.2.1
         have r11:xv 11=_:=hp.2.2.2.2.2.2.2.2.2.2.2.1
         have r12:xv 12=_:=hp.2.2.2.2.2.2.2.2.2.2.2.2.1
         have r13:xv 13=_:=hp.2.2.2.2.2.2.2.2.2.2.2.2.2.1
         have r14:xv 14=_:=hp.2.2.2.2.2.2.2.2.2.2.2.2.2.2.1
         have r15:xv 15=_:=hp.2.2.2.2.2.2.2.2.2.2.2.2.2.2.2.1
         have r16:xv 16=_:=hp.2.2.2.2.2.2.2.2.2.2.2.2.2.2.2.2.1
         clear hp
         simp only[putD,zC,zB,zE,zD,Act.put,zF,zG,zJ,zK,zI,zA,zL,zN,zM]
         have HEWb:=zR ((Ext.drew wb).trans hE)
         clear hE
         go_upto_region 11 with fail
         apply wp_region_seq (l:=[_,_,_,_,_,_,_,_,_,_,_,_]) (t:=[_]) [some 55,some 56,some 57,some 58,some 59,some 60,some 61,some 62,some 63,some 64,some 65,some 66,some 54] [[],[0],[1],[2],[3],[3,4],[3],[3,6],[3,7],[3,8],[3,5,9],[3,10],[11]] [1,2,3,12,5,10,7,8,9,10,11,12] [eqv _,eqv _,eqv _,eqv _,eqv _,eqv _,eqv _,eqv _,eqv _,eqv _,eqv _,eqv _] (by kernel_rfl) (by kernel_rfl) ⟨?o0,?o1,?o2,?o3,?o4,?o5,?o6,?o7,?o8,?o9,?o10,?o11,trivial⟩ ?last
         case o0|o1|o2|o3=>
          intro xv W2 hE hp
          try have q0:xv _=_:=hp.1
          try have q1:xv _=_:=hp.2.1
          clear hp
          simp only[putD,zC,zB,zE,zD,Act.put,zL,zN,zM]
          refine OpGoal.plain ?_
          go_wp2_with fail
          exact⟨rfl,Ext.refl _,rfl⟩
         case o4=>
          intro xv W2 hE hp
          have r3:xv 3=_:=hp.1
          clear hp
          simp only[putD,zC,zB,zE,zD,Act.put,zL,zN,zM]
          refine OpGoal.yes (by simp[yieldD,r3]) ?_
          go_wp2_with fail
          exact⟨rfl,Ext.refl _,rfl⟩
         case o5=>
          intro xv W2 hE hp
          have r3:xv 3=_:=hp.1
          have r4:xv 4=_:=hp.2.1
          clear hp
          have hWW:=HEWb.out.trans ((Ext.drew W).trans hE)
          have v1:=PR.out W2 hWW
          have v0:=P0.out W2 hWW
          simp only[putD,zC,zB,zE,zD,Act.put,zL,zN,zM]
          refine OpGoal.yes (by simp[yieldD,r3]) ?_
          go_wp2_with fail
          exact⟨rfl,Ext.refl _,rfl⟩
         case o6=>
          intro xv W2 hE hp
          have r3:xv 3=_:=hp.1
          clear hp
          simp only[putD,zC,zB,zE,zD,Act.put,zL,zN,zM]
          refine OpGoal.yes (by simp[yieldD,r3]) ?_
          go_wp2_with fail
          exact⟨rfl,Ext.refl _,rfl⟩
         case o7=>
          intro xv W2 hE hp
          have r3:xv 3=_:=hp.1
          have r6:xv 6=_:=hp.2.1
          clear hp
          simp only[putD,zC,zB,zE,zD,Act.put,zL,zN,zM]
          refine OpGoal.yes (by simp[yieldD,r3]) ?_
          go_wp2_with fail
          exact⟨rfl,Ext.refl _,rfl⟩
         case o8=>
          intro xv W2 hE hp
          have r3:xv 3=_:=hp.1
          have r7:xv 7=_:=hp.2.1
          clear hp
          simp only[putD,zC,zB,zE,zD,Act.put,zL,zN,zM]
          refine OpGoal.yes (by simp[yieldD,r3]) ?_
          go_wp2_with fail
          exact⟨rfl,Ext.refl _,rfl⟩
         case o9=>
          intro xv W2 hE hp
          have r3:xv 3=_:=hp.1
          have r8:xv 8=_:=hp.2.1
          clear hp
          have hWW:=HEWb.out.trans ((Ext.drew W).trans hE)
          have v1:=PR.out W2 hWW
          have v0:=P0.out W2 hWW
          simp only[putD,zC,zB,zE,zD,Act.put,zL,zN,zM]
          refine OpGoal.yes (by simp[yieldD,r3]) ?_
          go_wp2_with fail
          exact⟨rfl,Ext.refl _,rfl⟩
         case o10=>
          intro xv W2 hE hp
          have r3:xv 3=_:=hp.1
          have r5:xv 5=_:=hp.2.1
          have r9:xv 9=_:=hp.2.2.1
          clear hp
          simp only[putD,zC,zB,zE,zD,Act.put,zL,zN,zM]
          refine OpGoal.yes (by simp[yieldD,r3]) ?_
          go_wp2_with fail
          exact⟨rfl,Ext.refl _,rfl⟩
         case o11=>
          intro xv W2 hE hp
          have r3:xv 3=_:=hp.1
          have r10:xv 10=_:=hp.2.1
          clear hp
          simp only[putD,zC,zB,zE,zD,Act.put,zL,zN,zM]
          refine OpGoal.plain ?_
          go_wp2_with fail
          exact⟨rfl,Ext.refl _,rfl⟩
         case last=>
          intro xv W2 hE hp
          have r0:xv 0=_:=hp.1
          have r1:xv 1=_:=hp.2.1
          have r2:xv 2=_:=hp.2.2.1
          have r3:xv 3=_:=hp.2.2.2.1
          have r4:xv 4=_:=hp.2.2.2.2.1
          have r5:xv 5=_:=hp.2.2.2.2.2.1
          have r6:xv 6=_:=hp.2.2.2.2.2.2.1
          have r7:xv 7=_:=hp.2.2.2.2.2.2.2.1
          have r8:xv 8=_:=hp.2.2.2.2.2.2.2.2.1
          have r9:xv 9=_:=hp.2.2.2.2.2.2.2.2.2.1
          have r10:xv 10=_:=hp.2.2.2.2.2.2.2.2.2.2.1
          have r11:xv 11=_:=hp.2.2.2.2.2.2.2.2.2.2.2.1
          clear hp
          simp only[putD,zC,zB,zE,zD,Act.put,zF,zG,zJ,zK,zI,zA,zL,zN,zM]
          have HEW2:=zR (HEc.out.trans (HEWb.out.trans ((Ext.drew W).trans hE)))
          have HEX:=zR (HEWb.out.trans ((Ext.drew W).trans hE))
          clear hE
          have HBRW:=zR (HBRc.out.ext HEX.out)
          have hrx:=HBRW.out.range
          unfold Rn.cells at hrx
          have HOWN:Hid (OwnR (W2.alloc (.cells u.cells.toArray 49)) w3.heap.size (.slice (some ⟨gb,0,none⟩) n c0) (u0::us')):=zR ((HS.out.o.ext HEW2.out).ext (Ext.alloc _ _))
          have HCG:Hid (∀(j:Nat) (t:Rn),[u][j]?=some t→(W2.alloc (.cells u.cells.toArray 49)).rangeAt W2.heap.size (0+j*30) t.cells):=zR (fun j t ht=>by
           match j,ht with
           | 0,ht=>simp only[List.getElem?_cons_zero,zQ]at ht;subst ht;exact range_new W2 u.cells _
           | j+1,ht=>simp at ht)
          have hu2:(u0::us').length+[u].length<4294967296:=by rw[hn];simp;omega
          have hb2:w3.heap.size≤(W2.alloc (.cells u.cells.toArray 49)).heap.size:=Nat.le_trans (HS.out.e.trans HEW2.out).sz (by simp)
          go_wp2_with (first|(refine load_R rfl _ rfl br 0 _ hrx rfl rfl ?_)|(at_builtin;refine app_R rfl 67 69 rfl w3.heap.size (.slice (some ⟨gb,0,none⟩) n c0) (u0::us') rfl HOWN.out W2.heap.size 0 1 [u] rfl HCG.out hu2 hb2 ?_;intro v' wz ho hgz hnz;obtain⟨A1,c1,hv1,hf1⟩:=OwnR.form ho;subst hv1;clear hf1))
          go_roundw
          case rel=>exact⟨k+1,(u0::us')++[u],by omega,by go_num,zR (HS.out.app u HC.out HKU.out (HEW2.out.trans (Ext.alloc _ _)) (show OwnR wz w3.heap.size (.slice A1 (us'.length+1+1) c1) ((u0::us')++[u]) by rw[show((u0::us')++[u]).length=us'.length+1+1 by simp]at ho;exact ho) hgz)⟩
          case measure=>simp[intOf];omega
       ·have y2:(p == p0)=false:=by rw[beq_eq_false_iff_ne];exact g2
        have HC:Hid (cnt x (l.take (k+1))=[u.r]):=zR (by rw[HCC.out,if_neg g1,if_neg g2])
        clear g1 g2
        apply wp_region_seq (l:=[_,_,_,_,_,_,_,_,_,_,_,_,_,_,_,_,_]) (t:=[_]) [some 37,some 38,some 39,some 40,some 41,some 42,some 43,some 44,some 45,some 46,some 47,some 48,some 49,some 50,some 51,some 52,some 53,some 36] [[],[0],[1],[2],[3],[3,4],[3,5],[3,6],[7],[7,8],[7],[7,10],[7,11],[7,12],[7,9,13],[3,7,14],[3,15],[16]] [1,2,3,16,5,6,7,17,9,14,11,12,13,14,15,16,17] [eqv _,eqv _,eqv _,eqv _,eqv _,eqv _,eqv _,eqv _,eqv _,eqv _,eqv _,eqv _,eqv _,eqv _,eqv _,eqv _,eqv _] (by kernel_rfl) (by kernel_rfl) ⟨?o0,?o1,?o2,?o3,?o4,?o5,?o6,?o7,?o8,?o9,?o10,?o11,?o12,?o13,?o14,?o15,?o16,trivial⟩ ?last
        case o0=>
         intro xv W hE _
         simp only[putD,zC,zE]
         refine OpGoal.plain ?_
         go_wp2_with fail
         exact⟨rfl,Ext.refl _,rfl⟩
        case o1=>
         intro xv W hE hp
         have r0:xv 0=_:=hp.1
         clear hp
         have v2:=VB.out W ((Ext.drew wb).trans hE)
         have v1:=PR.out W ((Ext.drew wb).trans hE)
         have v0:=P0.out W ((Ext.drew wb).trans hE)
         simp only[putD,zC,zB,zE,zD,Act.put,zL,zN,zM]
         refine OpGoal.plain ?_
         go_wp2_with fail
         exact⟨rfl,Ext.refl _,rfl⟩
        case o2|o3=>
         intro xv W hE hp
         try have q0:xv _=_:=hp.1
         try have q1:xv _=_:=hp.2.1
         clear hp
         simp only[putD,zC,zB,zE,zD,Act.put,zL,zN,zM]
         refine OpGoal.plain ?_
         go_wp2_with fail
         exact⟨rfl,Ext.refl _,rfl⟩
        case o4=>
         intro xv W hE hp
         have r3:xv 3=_:=hp.1
         clear hp
         simp only[putD,zC,zB,zE,zD,Act.put,zL,zN,zM]
         refine OpGoal.yes (by simp[yieldD,r3]) ?_
         go_wp2_with fail
         exact⟨rfl,Ext.refl _,rfl⟩
        case o5=>
         intro xv W hE hp
         have r3:xv 3=_:=hp.1
         have r4:xv 4=_:=hp.2.1
         clear hp
         simp only[putD,zC,zB,zE,zD,Act.put,zL,zN,zM]
         refine OpGoal.yes (by simp[yieldD,r3]) ?_
         go_wp2_with fail
         exact⟨rfl,Ext.refl _,rfl⟩
        case o6=>
         intro xv W hE hp
         have r3:xv 3=_:=hp.1
         have r5:xv 5=_:=hp.2.1
         clear hp
         simp only[putD,zC,zB,zE,zD,Act.put,zL,zN,zM]
         refine OpGoal.yes (by simp[yieldD,r3]) ?_
         go_wp2_with fail
         exact⟨rfl,Ext.refl _,rfl⟩
        case o7=>
         intro xv W hE hp
         have r3:xv 3=_:=hp.1
         have r6:xv 6=_:=hp.2.1
         clear hp
         simp only[putD,zC,zB,zE,zD,Act.put,zL,zN,zM]
         refine OpGoal.yes (by simp[yieldD,r3]) ?_
         go_wp2_with fail
         exact⟨rfl,Ext.refl _,rfl⟩
        case o8=>
         intro xv W hE hp
         have r7:xv 7=_:=hp.1
         clear hp
         simp only[putD,zC,zB,zE,zD,Act.put,zL,zN,zM]
         refine OpGoal.yes (by simp[yieldD,r7]) ?_
         go_wp2_with fail
         exact⟨rfl,Ext.refl _,rfl⟩
        case o9=>
         intro xv W hE hp
         have r7:xv 7=_:=hp.1
         have r8:xv 8=_:=hp.2.1
         clear hp
         have v2:=VB.out W ((Ext.drew wb).trans hE)
         have v1:=PR.out W ((Ext.drew wb).trans hE)
         have v0:=P0.out W ((Ext.drew wb).trans hE)
         simp only[putD,zC,zB,zE,zD,Act.put,zL,zN,zM]
         refine OpGoal.yes (by simp[yieldD,r7]) ?_
         go_wp2_with fail
         exact⟨rfl,Ext.refl _,rfl⟩
        case o10=>
         intro xv W hE hp
         have r7:xv 7=_:=hp.1
         clear hp
         simp only[putD,zC,zB,zE,zD,Act.put,zL,zN,zM]
         refine OpGoal.yes (by simp[yieldD,r7]) ?_
         go_wp2_with fail
         exact⟨rfl,Ext.refl _,rfl⟩
        case o11=>
         intro xv W hE hp
         have r7:xv 7=_:=hp.1
         have r10:xv 10=_:=hp.2.1
         clear hp
         simp only[putD,zC,zB,zE,zD,Act.put,zL,zN,zM]
         refine OpGoal.yes (by simp[yieldD,r7]) ?_
         go_wp2_with fail
         exact⟨rfl,Ext.refl _,rfl⟩
        case o12=>
         intro xv W hE hp
         have r7:xv 7=_:=hp.1
         have r11:xv 11=_:=hp.2.1
         clear hp
         simp only[putD,zC,zB,zE,zD,Act.put,zL,zN,zM]
         refine OpGoal.yes (by simp[yieldD,r7]) ?_
         go_wp2_with fail
         exact⟨rfl,Ext.refl _,rfl⟩
        case o13=>
         intro xv W hE hp
         have r7:xv 7=_:=hp.1
         have r12:xv 12=_:=hp.2.1
         clear hp
         have v2:=VB.out W ((Ext.drew wb).trans hE)
         have v1:=PR.out W ((Ext.drew wb).trans hE)
         have v0:=P0.out W ((Ext.drew wb).trans hE)
         simp only[putD,zC,zB,zE,zD,Act.put,zL,zN,zM]
         refine OpGoal.yes (by simp[yieldD,r7]) ?_
         go_wp2_with fail
         exact⟨rfl,Ext.refl _,rfl⟩
        case o14=>
         intro xv W hE hp
         have r7:xv 7=_:=hp.1
         have r9:xv 9=_:=hp.2.1
         have r13:xv 13=_:=hp.2.2.1
         clear hp
         simp only[putD,zC,zB,zE,zD,Act.put,zL,zN,zM]
         refine OpGoal.yes (by simp[yieldD,r7]) ?_
         go_wp2_with fail
         exact⟨rfl,Ext.refl _,rfl⟩
        case o15=>
         intro xv W hE hp
         have r3:xv 3=_:=hp.1
         have r7:xv 7=_:=hp.2.1
         have r14:xv 14=_:=hp.2.2.1
         clear hp
         simp only[putD,zC,zB,zE,zD,Act.put,zL,zN,zM]
         refine OpGoal.yes (by simp[yieldD,r3]) ?_
         go_wp2_with fail
         exact⟨rfl,Ext.refl _,rfl⟩
        case o16=>
         intro xv W hE hp
         have r3:xv 3=_:=hp.1
         have r15:xv 15=_:=hp.2.1
         clear hp
         simp only[putD,zC,zB,zE,zD,Act.put,zL,zN,zM]
         refine OpGoal.plain ?_
         go_wp2_with fail
         exact⟨rfl,Ext.refl _,rfl⟩
        case last=>
         intro xv W hE hp
         have r0:xv 0=_:=hp.1
         have r1:xv 1=_:=hp.2.1
         have r2:xv 2=_:=hp.2.2.1
         have r3:xv 3=_:=hp.2.2.2.1
         have r4:xv 4=_:=hp.2.2.2.2.1
         have r5:xv 5=_:=hp.2.2.2.2.2.1
         have r6:xv 6=_:=hp.2.2.2.2.2.2.1
         have r7:xv 7=_:=hp.2.2.2.2.2.2.2.1
         have r8:xv 8=_:=hp.2.2.2.2.2.2.2.2.1
         have r9:xv 9=_:=hp.2.2.2.2.2.2.2.2.2.1
         have r10:xv 10=_:=hp.2.2.2.2.2.2.2.2.2.2.1
         have r11:xv 11=_:=hp.2.2.2.2.2.2.2.2.2.2.2.1
         have r12:xv 12=_:=hp.2.2.2.2.2.2.2.2.2.2.2.2.1
         have r13:xv 13=_:=hp.2.2.2.2.2.2.2.2.2.2.2.2.2.1
         have r14:xv 14=_:=hp.2.2.2.2.2.2.2.2.2.2.2.2.2.2.1
         have r15:xv 15=_:=hp.2.2.2.2.2.2.2.2.2.2.2.2.2.2.2.1
         have r16:xv 16=_:=hp.2.2.2.2.2.2.2.2.2.2.2.2.2.2.2.2.1
         clear hp
         simp only[putD,zC,zB,zE,zD,Act.put,zF,zG,zJ,zK,zI,zA,zL,zN,zM]
         have HEWb:=zR ((Ext.drew wb).trans hE)
         clear hE
         go_upto_region 11 with fail
         apply wp_region_seq (l:=[_,_,_,_,_,_,_,_,_,_,_,_]) (t:=[_]) [some 55,some 56,some 57,some 58,some 59,some 60,some 61,some 62,some 63,some 64,some 65,some 66,some 54] [[],[0],[1],[2],[3],[3,4],[3],[3,6],[3,7],[3,8],[3,5,9],[3,10],[11]] [1,2,3,12,5,10,7,8,9,10,11,12] [eqv _,eqv _,eqv _,eqv _,eqv _,eqv _,eqv _,eqv _,eqv _,eqv _,eqv _,eqv _] (by kernel_rfl) (by kernel_rfl) ⟨?o0,?o1,?o2,?o3,?o4,?o5,?o6,?o7,?o8,?o9,?o10,?o11,trivial⟩ ?last
         case o0|o1|o2|o3=>
          intro xv W2 hE hp
          try have q0:xv _=_:=hp.1
          try have q1:xv _=_:=hp.2.1
          clear hp
          simp only[putD,zC,zB,zE,zD,Act.put,zL,zN,zM]
          refine OpGoal.plain ?_
          go_wp2_with fail
          exact⟨rfl,Ext.refl _,rfl⟩
         case o4=>
          intro xv W2 hE hp
          have r3:xv 3=_:=hp.1
          clear hp
          simp only[putD,zC,zB,zE,zD,Act.put,zL,zN,zM]
          refine OpGoal.yes (by simp[yieldD,r3]) ?_
          go_wp2_with fail
          exact⟨rfl,Ext.refl _,rfl⟩
         case o5=>
          intro xv W2 hE hp
          have r3:xv 3=_:=hp.1
          have r4:xv 4=_:=hp.2.1
          clear hp
          have hWW:=HEWb.out.trans ((Ext.drew W).trans hE)
          have v1:=PR.out W2 hWW
          have v0:=P0.out W2 hWW
          simp only[putD,zC,zB,zE,zD,Act.put,zL,zN,zM]
          refine OpGoal.yes (by simp[yieldD,r3]) ?_
          go_wp2_with fail
          exact⟨rfl,Ext.refl _,rfl⟩
         case o6=>
          intro xv W2 hE hp
          have r3:xv 3=_:=hp.1
          clear hp
          simp only[putD,zC,zB,zE,zD,Act.put,zL,zN,zM]
          refine OpGoal.yes (by simp[yieldD,r3]) ?_
          go_wp2_with fail
          exact⟨rfl,Ext.refl _,rfl⟩
         case o7=>
          intro xv W2 hE hp
          have r3:xv 3=_:=hp.1
          have r6:xv 6=_:=hp.2.1
          clear hp
          simp only[putD,zC,zB,zE,zD,Act.put,zL,zN,zM]
          refine OpGoal.yes (by simp[yieldD,r3]) ?_
          go_wp2_with fail
          exact⟨rfl,Ext.refl _,rfl⟩
         case o8=>
          intro xv W2 hE hp
          have r3:xv 3=_:=hp.1
          have r7:xv 7=_:=hp.2.1
          clear hp
          simp only[putD,zC,zB,zE,zD,Act.put,zL,zN,zM]
          refine OpGoal.yes (by simp[yieldD,r3]) ?_
          go_wp2_with fail
          exact⟨rfl,Ext.refl _,rfl⟩
         case o9=>
          intro xv W2 hE hp
          have r3:xv 3=_:=hp.1
          have r8:xv 8=_:=hp.2.1
          clear hp
          have hWW:=HEWb.out.trans ((Ext.drew W).trans hE)
          have v1:=PR.out W2 hWW
          have v0:=P0.out W2 hWW
          simp only[putD,zC,zB,zE,zD,Act.put,zL,zN,zM]
          refine OpGoal.yes (by simp[yieldD,r3]) ?_
          go_wp2_with fail
          exact⟨rfl,Ext.refl _,rfl⟩
         case o10=>
          intro xv W2 hE hp
          have r3:xv 3=_:=hp.1
          have r5:xv 5=_:=hp.2.1
          have r9:xv 9=_:=hp.2.2.1
          clear hp
          simp only[putD,zC,zB,zE,zD,Act.put,zL,zN,zM]
          refine OpGoal.yes (by simp[yieldD,r3]) ?_
          go_wp2_with fail
          exact⟨rfl,Ext.refl _,rfl⟩
         case o11=>
          intro xv W2 hE hp
          have r3:xv 3=_:=hp.1
          have r10:xv 10=_:=hp.2.1
          clear hp
          simp only[putD,zC,zB,zE,zD,Act.put,zL,zN,zM]
          refine OpGoal.plain ?_
          go_wp2_with fail
          exact⟨rfl,Ext.refl _,rfl⟩
         case last=>
          intro xv W2 hE hp
          have r0:xv 0=_:=hp.1
          have r1:xv 1=_:=hp.2.1
          have r2:xv 2=_:=hp.2.2.1
          have r3:xv 3=_:=hp.2.2.2.1
          have r4:xv 4=_:=hp.2.2.2.2.1
          have r5:xv 5=_:=hp.2.2.2.2.2.1
          have r6:xv 6=_:=hp.2.2.2.2.2.2.1
          have r7:xv 7=_:=hp.2.2.2.2.2.2.2.1
          have r8:xv 8=_:=hp.2.2.2.2.2.2.2.2.1
          have r9:xv 9=_:=hp.2.2.2.2.2.2.2.2.2.1
          have r10:xv 10=_:=hp.2.2.2.2.2.2.2.2.2.2.1
          have r11:xv 11=_:=hp.2.2.2.2.2.2.2.2.2.2.2.1
          clear hp
          simp only[putD,zC,zB,zE,zD,Act.put,zF,zG,zJ,zK,zI,zA,zL,zN,zM]
          have HEW2:=zR (HEc.out.trans (HEWb.out.trans ((Ext.drew W).trans hE)))
          have HEX:=zR (HEWb.out.trans ((Ext.drew W).trans hE))
          clear hE
          have HBRW:=zR (HBRc.out.ext (HEX.out))
          have hrx:=HBRW.out.range
          unfold Rn.cells at hrx
          go_wp2_with (first|(refine load_R rfl _ rfl br 0 _ hrx rfl rfl ?_))
          go_roundw
          case rel=>exact⟨k+1,[u],by omega,by go_num,zR (HS.out.new u HC.out HKU.out HEW2.out)⟩
          case measure=>simp[intOf];omega
   ·obtain rfl:k=l.length:=by omega
    have tk:decide (l.length<l.length)=false:=by simp
    have HC:Hid (us.map (·.r)=cnt x l):=zR (by rw[HS.out.m,List.take_length])
    have HEw:=zR (HE3.out.trans HS.out.e)
    have HZr:=zR (HZ3.out.ext HS.out.e)
    have hbk:w.heap.size+1<wr.heap.size:=HZr.out.lt
    obtain⟨A0,c0,hcv,hrow⟩:=HS.out.o.form
    have hc0 :∀u∈us,u.r.ok:=fun u hu=>HOK.out _ (cnt_sub x l (by rw[←HC.out];exact List.mem_map_of_mem hu))
    rcases us with _|⟨u0,_|⟨u1,us'⟩⟩
    ·subst hcv
     have HL2:Hid (lookL l x=((0,0,0),[],0)):=zR (by rw[HL.out,←HC.out];rfl)
     obtain⟨z0,z1,z2⟩:=HZr.out.cells
     obtain⟨f0,f1,f2⟩:=HZr.out.free
     clear hrow hc0
     go_wp2_with fail
     exact look_fin (W:=setLk wr (w.heap.size+1) (0,0,0)) rfl (0,0,0) _ _ (setLk_z HZr.out _) rfl rfl rfl (LookR.of (setLk_ext HEw.out (by omega) _) [] HL2.out rfl)
    ·obtain⟨gb,rfl,hgb1,hgb2,_,hrw⟩:=hrow (by simp)
     subst hcv
     have hr0:=hrw 0 u0 rfl
     rw[zP]at hr0
     have HOK0:=zR (hc0 u0 (by simp))
     have HK0:=zR (HS.out.k u0 (by simp))
     have HL2:Hid (lookL l x=(lookR x u0.r,u0.r.nm,0)):=zR (by rw[HL.out,←HC.out];rfl)
     clear hrow hrw hc0 hgb1 hgb2
     go_upto_region 20 with(first|(refine load_R rfl _ rfl gb 0 u0.cells hr0 rfl rfl ?_)|(refine store_R u0 rfl _ _ rfl rfl rfl ?_))
     obtain⟨wc,hwc⟩ :∃wc,wr.alloc (.cells u0.cells.toArray 49)=wc:=⟨_,rfl⟩
     have hB:=RnB.new wr u0
     rw[hwc]at hB ⊢
     have hEc:Ext wr wc:=by rw[←hwc];exact Ext.alloc _ _
     obtain⟨bs,hbs⟩ :∃b,wr.heap.size=b:=⟨_,rfl⟩
     obtain⟨bk,hbk'⟩ :∃b,w.heap.size+1=b:=⟨_,rfl⟩
     obtain⟨bx,hbx'⟩ :∃b,w.heap.size=b:=⟨_,rfl⟩
     rw[hbs]at hB hbk ⊢
     rw[hbk']at HZr hbk ⊢
     have HB':Hid (EvB wr bx x):=zR (by rw[←hbx'];exact HB3.out.ext HS.out.e)
     rw[hbx']at ⊢
     have hne1:bx≠bk:=by omega
     have hne2:bs≠bk:=by omega
     obtain⟨n1,hn1⟩ :∃n,numb u0.r.e2 x 255=n:=⟨_,rfl⟩
     obtain⟨n2,hn2⟩ :∃n,numb u0.r.e3 x 16=n:=⟨_,rfl⟩
     obtain⟨n3,hn3⟩ :∃n,numb u0.r.e4 x 8=n:=⟨_,rfl⟩
     have HLX:Hid (lookR x u0.r=(n1,n2,n3)):=zR (by unfold lookR;rw[hn1,hn2,hn3])
     have FR:Hid (∀W,LkS bk (n1,n2,n3) wc.drew W→W.rangeAt bs 0 u0.cells):=zR (fun W h=>((hB.ext (Ext.drew wc)).own h.1 (by simp;omega)).range)
     have FE:Hid (∀W,LkS bk (n1,n2,n3) wc.drew W→EvB W bx x):=zR (fun W h=>((HB'.out.ext (hEc.trans (Ext.drew wc))).own h.1 (by simp;omega)))
     have FZ:Hid (∀W,LkS bk (n1,n2,n3) wc.drew W→LkZ W bk∨LkB W bk (n1,n2,n3)):=zR (fun W h=>h.2.1 (.inl (HZr.out.ext (hEc.trans (Ext.drew wc)))))
     have FK:Hid (∀W,LkS bk (n1,n2,n3) wc.drew W→u0.kidsB W W.heap.size d):=zR (fun W h=>by
      have h1:=(HK0.out.ext (HEw.out.trans (hEc.trans (Ext.drew wc))))
      have h2:u0.kids wc.drew (fun b=>b<bx) d:=((HK0.out.below (hbx'▸(HEw.out.trans (hEc.trans (Ext.drew wc))).below)).more fun b hb=>by omega)
      exact(h2.keep fun b hb o=>grown_cell h.1 (by have:=h1;have hs:=(HEw.out.trans (hEc.trans (Ext.drew wc))).sz;omega) (by simp;omega) o).more fun b hb=>by have hs:=(HEw.out.trans (hEc.trans (Ext.drew wc))).sz;have:=h.1.size;omega)
     have LM2:Hid (∀W,LkS bk (n1,n2,n3) wc.drew W→Calls Tryz.prog 39 #[.agg (u0.r.e2.cells u0.A2 u0.c2).toArray,.int .i64 255,.pointer (some ⟨bx,0,none⟩)] W fun r w'=>r=.returned (.int .i64 n1)∧Ext W w'):=zR (fun W h=>by
      have:=limited_any u0.r.e2 255 u0.A2 u0.c2 d x bx W (FK.out W h).k2 HOK0.out.2.2.2.1.2 HOK0.out.2.2.2.1.1 (FE.out W h) (by decide)
      rw[hn1]at this;exact this)
     have LM3:Hid (∀W,LkS bk (n1,n2,n3) wc.drew W→Calls Tryz.prog 39 #[.agg (u0.r.e3.cells u0.A3 u0.c3).toArray,.int .i64 16,.pointer (some ⟨bx,0,none⟩)] W fun r w'=>r=.returned (.int .i64 n2)∧Ext W w'):=zR (fun W h=>by
      have:=limited_any u0.r.e3 16 u0.A3 u0.c3 d x bx W (FK.out W h).k3 HOK0.out.2.2.2.2.1.2 HOK0.out.2.2.2.2.1.1 (FE.out W h) (by decide)
      rw[hn2]at this;exact this)
     have LM4:Hid (∀W,LkS bk (n1,n2,n3) wc.drew W→Calls Tryz.prog 39 #[.agg (u0.r.e4.cells u0.A4 u0.c4).toArray,.int .i64 8,.pointer (some ⟨bx,0,none⟩)] W fun r w'=>r=.returned (.int .i64 n3)∧Ext W w'):=zR (fun W h=>by
      have:=limited_any u0.r.e4 8 u0.A4 u0.c4 d x bx W (FK.out W h).k4 HOK0.out.2.2.2.2.2.2 HOK0.out.2.2.2.2.2.1 (FE.out W h) (by decide)
      rw[hn3]at this;exact this)
     have HEc:=zR (HEw.out.trans hEc)
     clear hwc hB hEc hbs hn1 hn2 hn3 hr0
     apply wp_region_rel (E:=LkS bk (n1,n2,n3)) (LkS.refl bk (n1,n2,n3)) (@LkS.trans bk (n1,n2,n3)) (l:=[_,_,_,_,_,_,_,_,_,_,_,_,_,_,_,_]) (t:=[_,_]) [some 94,some 95,some 96,some 97,some 98,some 99,some 100,some 101,some 102,some 103,some 104,some 105,some 106,some 107,some 108,none,some 5,some 6] [[],[],[1],[0,2],[],[],[5],[4,6],[],[],[9],[8,10],[3,7,11],[],[13],[12],[14],[]] [16,16,16,16,16,16,16,16,16,16,16,16,16,16,16,16] [eqr _,eqr _,(eqr (.agg (u0.r.e2.cells u0.A2 u0.c2).toArray)),(eqr (.int .i64 n1)),eqr _,eqr _,(eqr (.agg (u0.r.e3.cells u0.A3 u0.c3).toArray)),(eqr (.int .i64 n2)),eqr _,eqr _,(eqr (.agg (u0.r.e4.cells u0.A4 u0.c4).toArray)),(eqr (.int .i64 n3)),eqr _,eqr _,(eqr (.string ⟨u0.r.nm.toArray⟩)),(lkP bk (n1,n2,n3))] (by kernel_rfl) (by kernel_rfl) ⟨?o0,?o1,?o2,?o3,?o4,?o5,?o6,?o7,?o8,?o9,?o10,?o11,?o12,?o13,?o14,?o15,trivial⟩ ?last
     case o0|o1|o4|o5|o8|o9|o13=>
      intro xv W hE hp
      try have q0:xv _=_:=hp.1
      try have q1:xv _=_:=hp.2.1
      try have q2:xv _=_:=hp.2.2.1
      clear hp
      simp only[putD,zC,zB,zE,zD,Act.put,zL,zN,zM]
      refine OpGoal.plain ?_
      go_wp2_with fail
      exact⟨rfl,(LkS.refl bk (n1,n2,n3)) _,rfl⟩
     case o2=>
      intro xv W hE hp
      have r1:xv 1=_:=hp.1
      clear hp
      simp only[putD,zC,zB,zE,zD,Act.put,zL,zN,zM]
      refine OpGoal.plain ?_
      have l2:=range2 (FR.out W hE)
      rw[zO]at l2
      refine load_E rfl _ rfl bs 9 _ l2 rfl r1 ?_
      go_wp2_with fail
      exact⟨rfl,LkS.refl _ _ _,rfl⟩
     case o3=>
      intro xv W hE hp
      have r0:xv 0=_:=hp.1
      have r2:xv 2=_:=hp.2.1
      clear hp
      simp only[putD,zC,zB,zE,zD,Act.put,zL,zN,zM]
      refine OpGoal.plain ?_
      go_wp2_with fail
      refine(LM2.out W hE).mono ?_
      rintro r w' ⟨rfl,hE9⟩
      go_wp2_with fail
      exact⟨rfl,LkS.ext hE9,rfl⟩
     case o6=>
      intro xv W hE hp
      have r5:xv 5=_:=hp.1
      clear hp
      simp only[putD,zC,zB,zE,zD,Act.put,zL,zN,zM]
      refine OpGoal.plain ?_
      have l3:=range3 (FR.out W hE)
      rw[zO]at l3
      refine load_E rfl _ rfl bs 16 _ l3 rfl r5 ?_
      go_wp2_with fail
      exact⟨rfl,LkS.refl _ _ _,rfl⟩
     case o7=>
      intro xv W hE hp
      have r4:xv 4=_:=hp.1
      have r6:xv 6=_:=hp.2.1
      clear hp
      simp only[putD,zC,zB,zE,zD,Act.put,zL,zN,zM]
      refine OpGoal.plain ?_
      go_wp2_with fail
      refine(LM3.out W hE).mono ?_
      rintro r w' ⟨rfl,hE9⟩
      go_wp2_with fail
      exact⟨rfl,LkS.ext hE9,rfl⟩
     case o10=>
      intro xv W hE hp
      have r9:xv 9=_:=hp.1
      clear hp
      simp only[putD,zC,zB,zE,zD,Act.put,zL,zN,zM]
      refine OpGoal.plain ?_
      have l4:=range4 (FR.out W hE)
      rw[zO]at l4
      refine load_E rfl _ rfl bs 23 _ l4 rfl r9 ?_
      go_wp2_with fail
      exact⟨rfl,LkS.refl _ _ _,rfl⟩
     case o11=>
      intro xv W hE hp
      have r8:xv 8=_:=hp.1
      have r10:xv 10=_:=hp.2.1
      clear hp
      simp only[putD,zC,zB,zE,zD,Act.put,zL,zN,zM]
      refine OpGoal.plain ?_
      go_wp2_with fail
      refine(LM4.out W hE).mono ?_
      rintro r w' ⟨rfl,hE9⟩
      go_wp2_with fail
      exact⟨rfl,LkS.ext hE9,rfl⟩
     case o12=>
      intro xv W hE hp
      have r3:xv 3=_:=hp.1
      have r7:xv 7=_:=hp.2.1
      have r11:xv 11=_:=hp.2.2.1
      clear hp
      simp only[putD,zC,zB,zE,zD,Act.put,zL,zN,zM]
      refine OpGoal.plain ?_
      go_wp2_with fail
      exact⟨rfl,(LkS.refl bk (n1,n2,n3)) _,rfl⟩
     case o14=>
      intro xv W hE hp
      have r13:xv 13=_:=hp.1
      clear hp
      have hnm:=(FR.out W hE) 0 _ rfl
      simp only[putD,zC,zB,zE,zD,Act.put,zL,zN,zM]
      refine OpGoal.plain ?_
      go_wp2_with fail
      exact⟨rfl,LkS.refl _ _ _,rfl⟩
     case o15=>
      intro xv W hE hp
      have r12:xv 12=_:=hp.1
      clear hp
      obtain⟨⟨z0,z1,z2,y0,y1,y2⟩,f0,f1,f2⟩:=lk_cells (FZ.out W hE)
      simp only[putD,zC,zB,zE,zD,Act.put,zL,zN,zM]
      refine OpGoal.plain ?_
      go_wp2_with fail
      have hp:=LkS.put (FZ.out W hE)
      exact⟨rfl,fun v=>⟨hp.1,hp.2⟩⟩
     case last=>
      intro xv W hE hp
      have r0:xv 0=_:=hp.1
      have r1:xv 1=_:=hp.2.1
      have r2:xv 2=_:=hp.2.2.1
      have r3:xv 3=_:=hp.2.2.2.1
      have r4:xv 4=_:=hp.2.2.2.2.1
      have r5:xv 5=_:=hp.2.2.2.2.2.1
      have r6:xv 6=_:=hp.2.2.2.2.2.2.1
      have r7:xv 7=_:=hp.2.2.2.2.2.2.2.1
      have r8:xv 8=_:=hp.2.2.2.2.2.2.2.2.1
      have r9:xv 9=_:=hp.2.2.2.2.2.2.2.2.2.1
      have r10:xv 10=_:=hp.2.2.2.2.2.2.2.2.2.2.1
      have r11:xv 11=_:=hp.2.2.2.2.2.2.2.2.2.2.2.1
      have r12:xv 12=_:=hp.2.2.2.2.2.2.2.2.2.2.2.2.1
      have r13:xv 13=_:=hp.2.2.2.2.2.2.2.2.2.2.2.2.2.1
      have r14:xv 14=_:=hp.2.2.2.2.2.2.2.2.2.2.2.2.2.2.1
      have r15:=hp.2.2.2.2.2.2.2.2.2.2.2.2.2.2.2.1
      clear hp
      simp only[putD,zC,zB,zE,zD,Act.put,zF,zG,zJ,zK,zI,zA,zL,zN,zM]
      have hB2:LkB W bk (n1,n2,n3):=r15
      have hr14:xv 14=.string ⟨u0.r.nm.toArray⟩:=r14
      have hEf:Ext w W:=Below.trans (HEc.out.trans (Ext.drew wc)) (below_row' hE.1 (HEc.out.trans (Ext.drew wc)).sz (fun g e=>by simp only[zQ]at e;omega))
      rw[hr14]
      clear r0 r1 r2 r3 r4 r5 r6 r7 r8 r9 r10 r11 r12 r13 r14 r15 hr14 hE
      go_wp2_with fail
      exact look_fin (W:=W) rfl (n1,n2,n3) _ _ hB2 rfl rfl rfl (LookR.of hEf u0.r.nm (by rw[HL2.out,HLX.out]) rfl)
    ·obtain⟨gb,rfl,hgb1,hgb2,_,hrw⟩:=hrow (by simp)
     have hs3:w.heap.size+1<w3.heap.size:=HZ3.out.lt
     subst hcv
     have hq0:=hrw 0 u0 rfl 0 _ rfl
     have hq1:=hrw 1 u1 rfl 0 _ rfl
     rw[zP,zO]at hq0
     rw[Nat.one_mul,Nat.add_zero]at hq1
     obtain⟨m,hm⟩ :∃m,(u0::u1::us').length=m:=⟨_,rfl⟩
     have hm1:1<m:=by rw[←hm];simp
     have z0:=(hc0 u0 (by simp)).1
     have z1:=(hc0 u1 (by simp)).1
     have HL2:Hid (lookL l x=((0,0,0),clashT u0.r u1.r,31)):=zR (by rw[HL.out,←HC.out];rfl)
     obtain⟨D0,hD0⟩ :∃D:ByteArray,⟨u0.r.nm.toArray⟩=D:=⟨_,rfl⟩
     obtain⟨D1,hD1⟩ :∃D:ByteArray,⟨u1.r.nm.toArray⟩=D:=⟨_,rfl⟩
     have y0:D0.size<4294967296:=by rw[←hD0];simpa[ByteArray.size]using z0
     have y1:D1.size<4294967296:=by rw[←hD1];simpa[ByteArray.size]using z1
     have HDD:Hid (D0++⟨#[47]⟩++D1=⟨(clashT u0.r u1.r).toArray⟩):=zR (by
      rw[←hD0,←hD1,show(⟨#[47]⟩:ByteArray)=⟨([47]:List UInt8).toArray⟩ from rfl,ba_append,ba_append];simp[clashT])
     have hsz:(D0++⟨#[47]⟩).size=D0.size+1:=by rw[ByteArray.size_append];rfl
     obtain⟨bk,hbk'⟩ :∃b,w.heap.size+1=b:=⟨_,rfl⟩
     rw[hbk']at HZr hbk hs3 ⊢
     rw[hD0]at hq0
     rw[hD1]at hq1
     rw[hm]
     have FZ:Hid (∀W,LkS bk (0,0,0) wr.drew W→LkZ W bk∨LkB W bk (0,0,0)):=zR (fun W h=>h.2.1 (.inl (HZr.out.ext (Ext.drew wr))))
     have F0:Hid (∀W,LkS bk (0,0,0) wr.drew W→W.cell? ⟨gb,0,none⟩=some (.string D0)):=zR (fun W h=>(grown_cell h.1 (by simpa using hgb2) (by simp;omega) 0).trans (((Ext.drew wr).old (p:=⟨gb,0,none⟩) hgb2).trans hq0))
     have F1:Hid (∀W,LkS bk (0,0,0) wr.drew W→W.cell? ⟨gb,30,none⟩=some (.string D1)):=zR (fun W h=>(grown_cell h.1 (by simpa using hgb2) (by simp;omega) 30).trans (((Ext.drew wr).old (p:=⟨gb,30,none⟩) hgb2).trans hq1))
     clear hrow hrw hc0 hq0 hq1 z0 z1 hD0 hD1 hm
     go_upto_region 17 with fail
     apply wp_region_rel (E:=LkS bk (0,0,0)) (LkS.refl bk (0,0,0)) (@LkS.trans bk (0,0,0)) (l:=[_,_,_,_,_,_,_,_,_,_,_,_]) (t:=[_,_]) [some 79,some 80,some 81,some 82,some 83,some 84,some 85,some 86,some 87,some 88,some 89,none,some 5,some 6] [[],[],[1],[2],[3],[4],[],[6],[7],[8],[5,9],[0],[10],[]] [12,12,12,12,12,12,12,12,12,12,12,12] [eqr _,eqr _,eqr _,eqr _,eqr _,eqr _,eqr _,eqr _,eqr _,eqr _,eqr _,(lkP bk (0,0,0))] (by kernel_rfl) (by kernel_rfl) ⟨?o0,?o1,?o2,?o3,?o4,?o5,?o6,?o7,?o8,?o9,?o10,?o11,trivial⟩ ?last
     case o0|o1|o2|o3|o6|o7|o8=>
      intro xv W hE hp
      try have q0:xv _=_:=hp.1
      try have q1:xv _=_:=hp.2.1
      clear hp
      simp only[putD,zC,zB,zE,zD,Act.put,zL,zN,zM]
      refine OpGoal.plain ?_
      go_wp2_with fail
      exact⟨rfl,(LkS.refl bk (0,0,0)) _,rfl⟩
     case o4|o9=>
      intro xv W hE hp
      try have q0:xv _=_:=hp.1
      try have q1:xv _=_:=hp.2.1
      clear hp
      have f0:=F0.out W hE
      have f1:=F1.out W hE
      simp only[putD,zC,zB,zE,zD,Act.put,zL,zN,zM]
      refine OpGoal.plain ?_
      go_wp2_with fail
      exact⟨rfl,(LkS.refl bk (0,0,0)) _,rfl⟩
     case o5|o10=>
      intro xv W hE hp
      try have q0:xv _=_:=hp.1
      try have q1:xv _=_:=hp.2.1
      clear hp
      simp only[putD,zC,zB,zE,zD,Act.put,zL,zN,zM]
      refine OpGoal.plain ?_
      go_wp2_with fail
      exact⟨rfl,(LkS.refl bk (0,0,0)) _,rfl⟩
     case o11=>
      intro xv W hE hp
      have r0:xv 0=_:=hp.1
      clear hp
      obtain⟨⟨z0,z1,z2,y0,y1,y2⟩,f0,f1,f2⟩:=lk_cells (FZ.out W hE)
      simp only[putD,zC,zB,zE,zD,Act.put,zL,zN,zM]
      refine OpGoal.plain ?_
      go_wp2_with fail
      have hp:=LkS.put (FZ.out W hE)
      exact⟨rfl,fun v=>⟨hp.1,hp.2⟩⟩
     case last=>
      intro xv W hE hp
      have r0:xv 0=_:=hp.1
      have r1:xv 1=_:=hp.2.1
      have r2:xv 2=_:=hp.2.2.1
      have r3:xv 3=_:=hp.2.2.2.1
      have r4:xv 4=_:=hp.2.2.2.2.1
      have r5:xv 5=_:=hp.2.2.2.2.2.1
      have r6:xv 6=_:=hp.2.2.2.2.2.2.1
      have r7:xv 7=_:=hp.2.2.2.2.2.2.2.1
      have r8:xv 8=_:=hp.2.2.2.2.2.2.2.2.1
      have r9:xv 9=_:=hp.2.2.2.2.2.2.2.2.2.1
      have r10:xv 10=_:=hp.2.2.2.2.2.2.2.2.2.2.1
      have r11:=hp.2.2.2.2.2.2.2.2.2.2.2.1
      clear hp
      simp only[putD,zC,zB,zE,zD,Act.put,zF,zG,zJ,zK,zI,zA,zL,zN,zM]
      have hB2:LkB W bk (0,0,0):=r11
      have hr10:xv 10=.string (D0++⟨#[47]⟩++D1):=r10
      rw[HDD.out]at hr10
      have hEf:Ext w W:=Below.trans (HEw.out.trans (Ext.drew wr)) (below_row' hE.1 (HEw.out.trans (Ext.drew wr)).sz (fun g e=>by simp only[zQ]at e;omega))
      rw[hr10]
      clear r0 r1 r2 r3 r4 r5 r6 r7 r8 r9 r10 r11 hr10 hE
      go_wp2_with fail
      exact look_fin (W:=W) rfl (0,0,0) _ _ hB2 rfl rfl rfl (LookR.of hEf (clashT u0.r u1.r) HL2.out rfl)
 ·have ye:(E == 0)=false:=by rw[beq_eq_false_iff_ne];exact e0
  have HL:Hid (lookL l x=((0,0,0),[],E)):=zR (by unfold lookL;rw[HCE.out,if_pos e0])
  clear e0
  obtain⟨z0,z1,z2⟩:=HZ3.out.cells
  obtain⟨f0,f1,f2⟩:=HZ3.out.free
  go_wp2_with fail
  exact look_fin (W:=setLk w3 (w.heap.size+1) (0,0,0)) rfl (0,0,0) _ _ (setLk_z HZ3.out _) rfl rfl rfl (LookR.of (setLk_ext HE3.out (by omega) _) [] HL.out rfl)
end Go.Proofs.YtmiencglfhpmeaaGreatDoor
