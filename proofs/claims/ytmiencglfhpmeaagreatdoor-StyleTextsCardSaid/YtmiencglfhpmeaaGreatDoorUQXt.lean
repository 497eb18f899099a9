/- The contract of the reference's piece, by that of its whole. -/
import Derived.Test.YtmiencglfhpmeaaGreatDoorUQXs
import Derived.Test.YtmiencglfhpmeaaGreatDoorUQXp
import Derived.Deep.RegionWith
import Derived.IntWalk
open List renaming getElem?_eq_getElem → zA, length_cons → zB, length_map → zC, mem_cons → zD, not_mem_nil → zE
open Nat renaming le_refl → zF
open Option renaming bind_some → zG, isSome → zH, some.injEq → zI
open Go.Lib renaming hid → zJ
set_option linter.unusedSimpArgs false
set_option linter.unusedVariables false
namespace Go.Proofs.YtmiencglfhpmeaaGreatDoor
open Go.RowKit Hach
def RPl (ts:List Tok) (k:Bool) (res:Option (Ex×List Tok)) (x:Ex) (r:List Tok) (k':Bool):Prop:=r.length≤ts.length∧(k=true→k'=true)∧(k=false→match res with
 | some p=>k'=false∧x=p.1∧r=p.2
 | none=>k'=true)
def RRead (b:Nat) (w:World) (ts:List Tok) (k:Bool) (res:Option (Ex×List Tok)) (e:Ending) (w':World):Prop:=w.grownBy w' (some b) ∧∃x r k',ExpR w x e w'∧RL w' b r k'∧RPl ts k res x r k'
def RPieceC (n:Nat):Prop :=∀(b:Nat) (ts:List Tok) (k:Bool) (w:World),RL w b ts k→2*ts.length+1≤n→Calls Tryz.prog 143 #[rp b] w (RRead b w ts k (pieceF n false ts))
def RWholeC (n:Nat):Prop :=∀(b:Nat) (ts:List Tok) (k:Bool) (w:World),RL w b ts k→2*ts.length+2≤n→Calls Tryz.prog 114 #[rp b] w (RRead b w ts k (wholeF n false ts))
theorem rfin {fn:Func}{t:Tmp}(hr:fn.results=#[.cell t 47]) {b blk:Nat}{w wr:World}{ts:List Tok}{k:Bool}{res:Option (Ex×List Tok)}(x:Ex) (r:List Tok) (k':Bool) (hz:Zero7 wr blk) (hblk:w.heap.size≤blk) (hb:b<w.heap.size) (hg:w.grownBy wr (some b)) (hrl:RL wr b r k')
  (A:Option Addr) (n c d:Nat) (hn:n=x.l.length) (hk:ExL wr (fun k=>w.heap.size≤k∧k<wr.heap.size∧k≠blk) d A x.l) {tmps:Array Value}(ht:tmps.getD t undef=.pointer (some ⟨blk,0,none⟩)) (hpl:RPl ts k res x r k') :
  bodyPost Tryz.prog fn (RRead b w ts k res) Exit.ret ⟨tmps,[]⟩ (set7 wr blk x (.slice A n c)):=by
 have hG:=set7_grown wr blk x (.slice A n c)
 have hS:=set7_size wr blk x (.slice A n c)
 refine bodyPost_ret (results_blk hr (set7_in hz x _) tmps ht) rfl ⟨grown_new hg hblk hG,x,r,k',⟨A,c,d,by subst hn;rfl,?_⟩,hrl.own hG (fun y e=>by simp only[zI]at e;omega),hpl⟩
 exact(hk.keep fun k hk o=>grown_cell hG hk.2.1 (by simp;exact fun e=>hk.2.2 e.symm) o).more fun k hk=>⟨hk.1,by rw[hS];exact hk.2.1⟩
theorem takeT_some' {u:Tok}{ts r:List Tok}(h:takeT u ts=some r):ts=u::r:=by
 cases ts with
 | nil=>cases h
 | cons t q=>
  by_cases ht:t=u
  ·rw[show takeT u (t::q)=some q from if_pos ht]at h
   rw[Option.some.inj h,ht]
  ·rw[show takeT u (t::q)=none from if_neg ht]at h
   cases h
theorem TakeR.left {b:Nat}{w w':World}{ts:List Tok}{k:Bool}{u:Tok}{e:Ending}(h:TakeR b w ts k u e w'):e=.returned (.tuple #[])∧w.grownBy w' (some b) ∧∃r k',RL w' b r k'∧r.length≤ts.length∧((takeT u ts=some r∧k'=k)∨(takeT u ts=none∧r=ts∧k'=true)):=by
 obtain⟨he,hg,h⟩:=h
 refine⟨he,hg,?_⟩
 cases hq:takeT u ts with
 | none=>rw[hq]at h;exact⟨ts,true,h,zF _,.inr ⟨rfl,rfl,rfl⟩⟩
 | some r=>
  rw[hq]at h
  refine⟨r,k,h,?_,.inl ⟨rfl,rfl⟩⟩
  rw[takeT_some' hq];simp
theorem Zero7.lt' {w:World}{blk:Nat}(h:Zero7 w blk):blk<w.heap.size:=(Array.getElem?_eq_some_iff.1 h).1
abbrev InBlkC (W:World) (b:Nat) (op var ty n:Int) (bb:Bool) (s:List UInt8):Prop:=W.cell? ⟨b,0,none⟩=some (.int .i64 op)∧W.cell? ⟨b,1,none⟩=some (.int .i64 var)∧W.cell? ⟨b,2,none⟩=some (.int .i64 ty)∧W.cell? ⟨b,3,none⟩=some (.int .i64 n)∧W.cell? ⟨b,4,none⟩=some (.bool bb)∧W.cell? ⟨b,5,none⟩=some (.string ⟨s.toArray⟩)∧W.cell? ⟨b,6,none⟩=some (.slice none 0 0)
set_option maxRecDepth 100000 in
set_option maxHeartbeats 8000000 in
theorem rpiece_step (n:Nat) (hw:RWholeC n):RPieceC (n+1):=by
 intro b ts k w hrs hn
 have hbl:=hrs.lt
 have HTK:=zJ hrs.toks
 have hz:=Zero7.new w
 obtain⟨w0,hw0⟩ :∃w0,w.alloc (.cells zero7 47)=w0:=⟨_,rfl⟩
 have hE0:Ext w w0:=by rw[←hw0];exact Ext.alloc _ _
 have hs0:w0.heap.size=w.heap.size+1:=by rw[←hw0];simp
 rw[hw0]at hz
 have hrs0:=hrs.ext hE0
 have HW:=zJ hw0
 have hs0':w.heap.size+1≤w0.heap.size:=by omega
 have hG0:w.grownBy w0 (some b):=grown_of hE0 _
 have HBK:=zJ (show some w.heap.size≠some b by simp;omega)
 have HN:=zJ (rnext_any hrs0)
 unfold zero7 at HW
 clear hw0 hs0 hrs
 cases ts with
 | nil=>
  unfold hd bs at HN
  simp only[List.headD_nil]at HN
  unfold rp at *
  go_enter Tryz.func143,Tryz.ntmps143
  go_upto_region 1 with fail
  rw[HW.out]
  go_wp2_with fail
  refine HN.out.mono ?_
  rintro e w1 ⟨rfl,hE1⟩
  have hz1:=hz.own (grown_of hE1 none) (by simp)
  obtain⟨A,c,h1,h2⟩:=hrs0.ext hE1
  obtain⟨c0,c1,g0,g1⟩:=h1.cells
  have hG1:=grown_trans (grown_trans hG0 (grown_of hE1 (some b))) (grown_set w1 b 1 (.bool true))
  have hrl2:RL (w1.setCell ⟨b,1,none⟩ (.bool true)) b [] true:=⟨A,c,h1.set1 true,h2.own h1.lt (grown_set _ _ _ _) (fun x e=>by simp only[zI]at e;omega)⟩
  have hz2:=hz1.own (grown_set w1 b 1 (.bool true)) HBK.out
  clear h1 h2
  obtain⟨u0,u1,u2,u3,u4,u5,u6⟩:=hz2.cells
  obtain⟨f0,f1,f2,f3,f4,f5,f6⟩:=hz2.free
  go_wp2_with fail
  exact rfin rfl zeroE [] true hz2 (zF _) hbl hG1 hrl2 none 0 0 0 rfl (ExL.nil _ _ _ _) rfl ⟨zF _,fun _=>rfl,fun _=>rfl⟩
 | cons t r=>
  have hit:=HTK.out.1 t (by simp)
  obtain⟨D,hD⟩ :∃D:ByteArray,⟨t.toArray⟩=D:=⟨_,rfl⟩
  have HD:=zJ hD
  have hDz:=bs_list t [] D hD
  rw[decide_eq_false hit.1.ne]at hDz
  have hDz2:D.toList.isEmpty=false:=by
   have:D.toList=t:=by rw[←hD,ByteArray.toList_eq]
   rw[this];exact str_ne hit.1.ne
  have hq40:=bs_list t [40] D hD
  have HIT:=zJ hit
  have hlr:2*r.length+2≤n:=by simp only[zB]at hn;omega
  have TK:=zJ (fun(W:World) (h:RL W b (t::r) k)=>rtake_any h t hit.1.ne)
  unfold hd at HN
  simp only[List.headD_cons]at HN
  unfold rp bs at *
  rw[hD]at HN
  simp only[hD]at TK
  clear hit hD
  by_cases h40:t=[40]
  ·rw[decide_eq_true h40]at hq40
   obtain⟨res,hres⟩ :∃res,wholeF n false r=res:=⟨_,rfl⟩
   have HP:=zJ (show pieceF (n+1) false (t::r)=res.bind fun p=>(takeT [41] p.2).bind fun r1=>some (p.1,r1) by rw[pieceF,if_pos h40,hres])
   have HWH:=zJ (fun(W:World) (h:RL W b r k)=>hw b r k W h hlr)
   rw[hres]at HWH
   clear h40 hres hw
   go_enter Tryz.func143,Tryz.ntmps143
   go_upto_region 1 with fail
   rw[HW.out]
   go_wp2_with fail
   refine HN.out.mono ?_
   rintro e w1 ⟨rfl,hE1⟩
   go_wp2_with fail
   refine(TK.out _ (hrs0.ext hE1)).mono ?_
   rintro e w2 ⟨rfl,hg2,hr2⟩
   rw[takeT_hit']at hr2
   go_wp2_with fail
   refine(HWH.out _ hr2).mono ?_
   rintro e w3 ⟨hg3,x,r3,k3,⟨A,c,d,rfl,hX⟩,hr3,hpl⟩
   have hG3:=grown_trans (grown_trans (grown_trans hG0 (grown_of hE1 (some b))) hg2) hg3
   have hz3:=((hz.own (grown_of hE1 none) (by simp)).own hg2 HBK.out).own hg3 HBK.out
   have hE4:Ext w3 (w3.alloc (.cells (x.cells A c).toArray 47)):=Ext.alloc _ _
   have hin4:=InBlk.new2 w3 x A c
   have hr4:=hr3.ext hE4
   have TK4:=zJ (rtake_any hr4 [41] (by simp))
   have hz4:=hz3.own (grown_of hE4 none) (by simp)
   have hG4:=grown_trans hG3 (grown_of hE4 (some b))
   have hw23:w0.heap.size≤w2.heap.size∧w2.heap.size≤w3.heap.size:=by have h1:=hE1.sz;have h2:=hg2.size;have h3:=hg3.size;omega
   have hb3:b<w3.heap.size:=hr3.lt
   obtain⟨i0,i1,i2,i3,i4,i5,i6⟩:=hin4.cells
   have HPL:=zJ hpl
   unfold rp bs at TK4
   unfold Ex.cells at *
   clear hr3 hr4 hz3 hG3 hE1 hg2 hg3 hr2 hpl
   go_wp2_with fail
   refine TK4.out.mono ?_
   rintro e w5 hTR
   obtain⟨rfl,hg5,r5,k5,hr5,hl5,hk5⟩:=hTR.left
   have HK5:=zJ hk5
   have hin5:=hin4.own hg5 (by simp;omega)
   obtain⟨y0,y1,y2,y3,y4,y5,y6⟩:=hin5.cells
   have hz5:=hz4.own hg5 HBK.out
   have hG5:=grown_trans hG4 hg5
   obtain⟨u0,u1,u2,u3,u4,u5,u6⟩:=hz5.cells
   obtain⟨f0,f1,f2,f3,f4,f5,f6⟩:=hz5.free
   have hX5:ExL w5 (fun k=>w.heap.size≤k∧k<w5.heap.size∧k≠w.heap.size) d A x.l:=by
    have h5:=hg5.size
    have h4:=hE4.sz
    exact(((hX.keep fun k hk o=>hE4.old (p:=⟨k,o,none⟩) hk.2).keep fun k hk o=>grown_cell hg5 (by omega) (by simp;omega) o)).more fun k hk=>⟨by omega,by omega,by omega⟩
   have HX5:=zJ hX5
   clear hX hX5 hk5 hTR i0 i1 i2 i3 i4 i5 i6
   go_wp2_with fail
   refine rfin rfl x r5 k5 hz5 (zF _) hbl hG5 hr5 A _ c d rfl HX5.out rfl ?_
   obtain⟨p1,p2,p3⟩:=HPL.out
   refine⟨by rw[zB];omega,fun hk=>?_,fun hk=>?_⟩
   ·rcases HK5.out with⟨_,e⟩|⟨_,_,e⟩
    ·rw[e];exact p2 hk
    ·exact e
   ·rw[HP.out]
    have p4:=p3 hk
    cases res with
    | none=>
     simp only at p4
     rcases HK5.out with⟨_,e⟩|⟨_,_,e⟩
     ·show k5=true;rw[e];exact p4
     ·exact e
    | some p=>
     obtain⟨y,q⟩:=p
     simp only at p4
     obtain⟨e1,e2,e3⟩:=p4
     subst e2;subst e3
     simp only[zG]
     rcases HK5.out with⟨h,e⟩|⟨h,_,e⟩
     ·rw[h];exact⟨by rw[e];exact e1,rfl,rfl⟩
     ·rw[h];exact e
  ·rw[decide_eq_false h40]at hq40
   have HP0:=zJ (show pieceF (n+1) false (t::r)=pieceR t r from pieceF_rest n false t r h40)
   have htl:=(HTK.out.1 t (by simp)).2
   have IX:=zJ (show ∀(g:Nat) W,RowS W g nmL→Calls Tryz.prog 144 #[.slice (some ⟨g,0,none⟩) 9 9,.string D] W fun e w'=>e=.returned (.int .i64 (ixI nmL t))∧w'=W from fun g W hR=>by
    have h:=rindex_any nmL t g W hR (by decide)
    unfold bs at h
    rw[HD.out]at h
    exact h)
   have CN:=zJ (fun(W:World)=>const_any t HIT.out.1 htl W)
   unfold bs at CN
   rw[HD.out]at CN
   clear h40 hw htl
   cases hix:ix nmL t with
   | some j=>
    have HP:=zJ (show pieceF (n+1) false (t::r)=some (exVar j,r) by rw[HP0.out];unfold pieceR;rw[hix])
    have hi:ixI nmL t=(j:Int):=by unfold ixI;rw[hix]
    have hk9:j<9:=ix_lt hix
    rw[hi]at IX
    clear hix hi CN
    go_enter Tryz.func143,Tryz.ntmps143
    go_upto_region 1 with fail
    rw[HW.out]
    go_wp2_with fail
    refine HN.out.mono ?_
    rintro e w1 ⟨rfl,hE1⟩
    go_wp2_with fail
    refine(TK.out _ (hrs0.ext hE1)).mono ?_
    rintro e w2 ⟨rfl,hg2,hr2⟩
    rw[takeT_hit']at hr2
    go_wp2_with fail
    refine(rNames_any _).mono ?_
    rintro e w3 ⟨rfl,hrow,hE3⟩
    have h9:nmL.length=9:=rfl
    simp only[h9]
    have hG3:=grown_trans (grown_trans (grown_trans hG0 (grown_of hE1 (some b))) hg2) (grown_of hE3 (some b))
    have hz3:=((hz.own (grown_of hE1 none) (by simp)).own hg2 HBK.out).own (grown_of hE3 none) (by simp)
    have hr3:=hr2.ext hE3
    obtain⟨u0,u1,u2,u3,u4,u5,u6⟩:=hz3.cells
    obtain⟨f0,f1,f2,f3,f4,f5,f6⟩:=hz3.free
    clear h9 hg2 hE1 hr2
    go_wp2_with fail
    refine(IX.out _ _ hrow).mono ?_
    rintro e w' ⟨rfl,rfl⟩
    go_wp2_with fail
    exact rfin rfl (exVar j) r k hz3 (zF _) hbl hG3 hr3 none 0 0 0 rfl (ExL.nil _ _ _ _) rfl ⟨by simp,fun h=>h,fun h=>by rw[HP.out];exact⟨h,rfl,rfl⟩⟩
   | none=>
    have hi:ixI nmL t = -1:=by unfold ixI;rw[hix]
    have HP:=zJ (show pieceF (n+1) false (t::r)=(constOf t).bind fun v=>some (exCon v,r) by rw[HP0.out];unfold pieceR;rw[hix])
    rw[hi]at IX
    clear hix hi
    go_enter Tryz.func143,Tryz.ntmps143
    go_upto_region 1 with fail
    rw[HW.out]
    go_wp2_with fail
    refine HN.out.mono ?_
    rintro e w1 ⟨rfl,hE1⟩
    go_wp2_with fail
    refine(TK.out _ (hrs0.ext hE1)).mono ?_
    rintro e w2 ⟨rfl,hg2,hr2⟩
    rw[takeT_hit']at hr2
    go_wp2_with fail
    refine(rNames_any _).mono ?_
    rintro e w3 ⟨rfl,hrow,hE3⟩
    have h9:nmL.length=9:=rfl
    simp only[h9]
    have hG3:=grown_trans (grown_trans (grown_trans hG0 (grown_of hE1 (some b))) hg2) (grown_of hE3 (some b))
    have hz3:=((hz.own (grown_of hE1 none) (by simp)).own hg2 HBK.out).own (grown_of hE3 none) (by simp)
    have hr3:=hr2.ext hE3
    clear h9
    go_wp2_with fail
    refine(IX.out _ _ hrow).mono ?_
    rintro e w' ⟨rfl,rfl⟩
    go_wp2_with fail
    refine(CN.out _).mono ?_
    rintro e w4 ⟨⟨x,hxl,rfl,hxv⟩,hE4⟩
    obtain⟨op,var,ty,nn,bb,ss,l⟩:=x
    obtain rfl:l=[]:=hxl
    have hE5:Ext w4 (w4.alloc (.cells #[.int .i64 op,.int .i64 var,.int .i64 ty,.int .i64 nn,.bool bb,.string ⟨ss.toArray⟩,.slice none 0 0] 47)):=Ext.alloc _ _
    have hin5:InBlk (w4.alloc (.cells #[.int .i64 op,.int .i64 var,.int .i64 ty,.int .i64 nn,.bool bb,.string ⟨ss.toArray⟩,.slice none 0 0] 47)) w4.heap.size (.mk op var ty nn bb ss []) (.slice none 0 0):=InBlk.new2 w4 (.mk op var ty nn bb ss []) none 0
    have hz5:=(hz3.own (grown_of hE4 none) (by simp)).own (grown_of hE5 none) (by simp)
    have hG5:=grown_trans (grown_trans hG3 (grown_of hE4 (some b))) (grown_of hE5 (some b))
    have hr5:=(hr3.ext hE4).ext hE5
    have HXV:=zJ hxv
    have hsz5:w.heap.size<w4.heap.size∧b<w4.heap.size:=by have h1:=hz5.lt';have h2:=(hr3.ext hE4).lt;have h3:=hE1.sz;have h4:=hg2.size;have h5:=hE3.sz;have h6:=hE4.sz;omega
    obtain⟨i0,i1,i2,i3,i4,i5,i6⟩:=(show InBlkC _ w4.heap.size op var ty nn bb ss from hin5.cells)
    have HSZ5:=zJ hsz5
    clear hg2 hE1 hr2 hr3 hG3 hz3 hxv hsz5
    cases hct:constOf t with
    | some v=>
     rw[hct]at HP
     have HX:=zJ (HXV.out v hct)
     obtain⟨u0,u1,u2,u3,u4,u5,u6⟩:=hz5.cells
     obtain⟨f0,f1,f2,f3,f4,f5,f6⟩:=hz5.free
     rw[show(Ex.mk op var ty nn bb ss []).cells none 0=[.int .i64 op,.int .i64 var,.int .i64 ty,.int .i64 nn,.bool bb,.string ⟨ss.toArray⟩,.slice none 0 0] from rfl]
     simp only[zH]
     clear hct
     go_wp2_with fail
     exact rfin rfl (.mk op var ty nn bb ss []) r k hz5 (zF _) hbl hG5 hr5 none 0 0 0 rfl (ExL.nil _ _ _ _) rfl ⟨by simp,fun h=>h,fun h=>by rw[HP.out];exact⟨h,HX.out,rfl⟩⟩
    | none=>
     rw[hct]at HP
     obtain⟨A,c,h1,h2⟩:=hr5
     obtain⟨c0,c1,g0,g1⟩:=h1.cells
     have hgs:=grown_set (w4.alloc (.cells #[.int .i64 op,.int .i64 var,.int .i64 ty,.int .i64 nn,.bool bb,.string ⟨ss.toArray⟩,.slice none 0 0] 47)) b 1 (.bool true)
     have hG6:=grown_trans hG5 hgs
     have hz6:=hz5.own hgs HBK.out
     have hin6:=hin5.own hgs (by simp;have:=HSZ5.out;omega)
     have hr6:RL _ b r true:=⟨A,c,h1.set1 true,h2.own h1.lt hgs (fun x e=>by simp only[zI]at e;omega)⟩
     obtain⟨u0,u1,u2,u3,u4,u5,u6⟩:=hz6.cells
     obtain⟨f0,f1,f2,f3,f4,f5,f6⟩:=hz6.free
     obtain⟨j0,j1,j2,j3,j4,j5,j6⟩:=(show InBlkC _ w4.heap.size op var ty nn bb ss from hin6.cells)
     rw[show(Ex.mk op var ty nn bb ss []).cells none 0=[.int .i64 op,.int .i64 var,.int .i64 ty,.int .i64 nn,.bool bb,.string ⟨ss.toArray⟩,.slice none 0 0] from rfl]
     simp only[zH]
     clear hct h1 h2 i0 i1 i2 i3 i4 i5 i6
     go_wp2_with fail
     exact rfin rfl (.mk op var ty nn bb ss []) r true hz6 (zF _) hbl hG6 hr6 none 0 0 0 rfl (ExL.nil _ _ _ _) rfl ⟨by simp,fun h=>rfl,fun h=>by rw[HP.out];rfl⟩
end Go.Proofs.YtmiencglfhpmeaaGreatDoor
namespace Go.Proofs.YtmiencglfhpmeaaGreatDoor
open Go.RowKit Hach
theorem RPl.not {n:Nat}{r r':List Tok}{x:Ex}{k':Bool}(h:RPl r false (pieceF n false r) x r' k'):RPl ([110,111,116]::r) false (wholeF (n+1) false ([110,111,116]::r)) (exOp 3 [x]) r' k':=by
 obtain⟨h1,h2,h3⟩:=h
 have h4:=h3 rfl
 refine⟨by rw[zB];omega,fun h=>(by cases h),fun _=>?_⟩
 rw[whole_not]
 cases hp:pieceF n false r with
 | none=>rw[hp]at h4;exact h4
 | some p=>
  rw[hp]at h4
  obtain⟨a,b,c⟩:=h4
  subst b;subst c
  exact⟨a,rfl,rfl⟩
def Tk (u:Tok) (ts r:List Tok) (k k':Bool):Prop:=(takeT u ts=some r∧k'=k)∨(takeT u ts=none∧r=ts∧k'=true)
theorem Tk.bad {u:Tok}{ts r:List Tok}{k k':Bool}(h:Tk u ts r k k') (hk:k=true):k'=true:=by
 rcases h with⟨_,e⟩|⟨_,_,e⟩
 ·rw[e];exact hk
 ·exact e
theorem RPl.ite {n:Nat}{r r0 r1 r2 r3 r4:List Tok}{x0 x1 x2:Ex}{k0 k1 k2 k3 k4:Bool}(h0:RPl r false (pieceF n false r) x0 r0 k0) (t1:Tk [116,104,101,110] r0 r1 k0 k1) (l1:r1.length≤r0.length) (h1:RPl r1 k1 (pieceF n false r1) x1 r2 k2) (t2:Tk [101,108,115,101] r2 r3 k2 k3) (l2:r3.length≤r2.length) (h2:RPl r3 k3 (pieceF n false r3) x2 r4 k4) :
  RPl ([105,102]::r) false (wholeF (n+1) false ([105,102]::r)) (exOp 13 [x0,x1,x2]) r4 k4:=by
 obtain⟨a1,a2,a3⟩:=h0
 obtain⟨b1,b2,b3⟩:=h1
 obtain⟨c1,c2,c3⟩:=h2
 refine⟨by rw[zB];omega,fun h=>(by cases h),fun _=>?_⟩
 have a4:=a3 rfl
 rw[whole_if]
 cases hp:pieceF n false r with
 | none=>rw[hp]at a4;exact c2 (t2.bad (b2 (t1.bad a4)))
 | some p=>
  rw[hp]at a4
  obtain⟨e1,e2,e3⟩:=a4
  subst e2;subst e3
  simp only[zG]
  rcases t1 with⟨q1,q2⟩|⟨q1,q2,q3⟩
  ·rw[show takeT tThen p.2=some r1 from q1,zG]
   rw[q2]at b2 b3
   have b4:=b3 e1
   cases hp1:pieceF n false r1 with
   | none=>rw[hp1]at b4;exact c2 (t2.bad b4)
   | some p1=>
    rw[hp1]at b4
    obtain⟨f1,f2,f3⟩:=b4
    subst f2;subst f3
    simp only[zG]
    rcases t2 with⟨s1,s2⟩|⟨s1,s2,s3⟩
    ·rw[show takeT tElse p1.2=some r3 from s1,zG]
     rw[s2]at c2 c3
     have c4:=c3 f1
     cases hp2:pieceF n false r3 with
     | none=>rw[hp2]at c4;exact c4
     | some p2=>
      rw[hp2]at c4
      obtain⟨g1,g2,g3⟩:=c4
      subst g2;subst g3
      exact⟨g1,rfl,rfl⟩
    ·rw[show takeT tElse p1.2=none from s1];exact c2 s3
  ·rw[show takeT tThen p.2=none from q1];exact c2 (t2.bad (b2 q3))
theorem whole_tail (n:Nat) (ts:List Tok) (h1:hd ts≠[110,111,116]) (h2:hd ts≠[105,102]):wholeF (n+1) false ts=(pieceF n false ts).bind fun p=>tailF n false p.1 p.2:=by
 cases ts with
 | nil=>rw[piece_nil];rfl
 | cons t r=>exact whole_two n false t r h1 h2
theorem RPl.one {n:Nat}{ts r0:List Tok}{x0:Ex}{k0:Bool}(hn1:hd ts≠[110,111,116]) (hn2:hd ts≠[105,102]) (h0:RPl ts false (pieceF n false ts) x0 r0 k0) (hi:ix wdL (hd r0)=none):RPl ts false (wholeF (n+1) false ts) x0 r0 k0:=by
 obtain⟨a1,a2,a3⟩:=h0
 refine⟨a1,a2,fun _=>?_⟩
 have a4:=a3 rfl
 rw[whole_tail n ts hn1 hn2]
 cases hp:pieceF n false ts with
 | none=>rw[hp]at a4;exact a4
 | some p=>
  rw[hp]at a4
  obtain⟨e1,e2,e3⟩:=a4
  subst e2;subst e3
  simp only[zG]
  have:tailF n false p.1 p.2=some (p.1,p.2):=by
   cases hq:p.2 with
   | nil=>rw[tailF_nil,if_neg (by simp)]
   | cons o l=>rw[hq]at hi;exact tailF_none hi
  rw[this]
  exact⟨e1,rfl,rfl⟩
theorem RPl.two {n j:Nat}{ts r' r1:List Tok}{o:Tok}{x0 x1:Ex}{k0 k1:Bool}(hn1:hd ts≠[110,111,116]) (hn2:hd ts≠[105,102]) (h0:RPl ts false (pieceF n false ts) x0 (o::r') k0) (hi:ix wdL o=some j) (h1:RPl r' k0 (pieceF n false r') x1 r1 k1):RPl ts false (wholeF (n+1) false ts) (exOp (4+(j:Int)) [x0,x1]) r1 k1:=by
 obtain⟨a1,a2,a3⟩:=h0
 obtain⟨b1,b2,b3⟩:=h1
 refine⟨by rw[zB]at a1;omega,fun h=>(by cases h),fun _=>?_⟩
 have a4:=a3 rfl
 rw[whole_tail n ts hn1 hn2]
 cases hp:pieceF n false ts with
 | none=>rw[hp]at a4;exact b2 a4
 | some p=>
  rw[hp]at a4
  obtain⟨e1,e2,e3⟩:=a4
  obtain⟨p1,p2⟩:=p
  simp only at e2 e3
  subst e2;subst e3
  simp only[zG]
  rw[tailF_some hi]
  have b4:=b3 e1
  cases hp1:pieceF n false r' with
  | none=>rw[hp1]at b4;exact b4
  | some p1=>
   rw[hp1]at b4
   obtain⟨f1,f2,f3⟩:=b4
   subst f2;subst f3
   exact⟨f1,rfl,rfl⟩
set_option maxRecDepth 100000 in
set_option maxHeartbeats 8000000 in
theorem rwhole_step (n:Nat) (hpc:RPieceC n):RWholeC (n+1):=by
 intro b ts k w hrs hn
 have hbl:=hrs.lt
 have hz:=Zero7.new w
 obtain⟨w0,hw0⟩ :∃w0,w.alloc (.cells zero7 47)=w0:=⟨_,rfl⟩
 have hE0:Ext w w0:=by rw[←hw0];exact Ext.alloc _ _
 have hs0:w0.heap.size=w.heap.size+1:=by rw[←hw0];simp
 rw[hw0]at hz
 have hrs0:=hrs.ext hE0
 have HW:=zJ hw0
 have hs0':w.heap.size+1≤w0.heap.size:=by omega
 have hG0:w.grownBy w0 (some b):=grown_of hE0 _
 have HBK:=zJ (show some w.heap.size≠some b by simp;omega)
 have NX:=zJ (fun(ts:List Tok) (k:Bool) (W:World) (h:RL W b ts k)=>rnext_any h)
 have TK:=zJ (fun(u:Tok) (hu:u≠[]) (ts:List Tok) (k:Bool) (W:World) (h:RL W b ts k)=>rtake_any h u hu)
 have PC:=zJ (fun(ts:List Tok) (k:Bool) (W:World) (h:RL W b ts k) (hl:2*ts.length+1≤n)=>hpc b ts k W h hl)
 unfold zero7 at HW
 clear hw0 hs0 hrs hpc
 obtain⟨A0,cc0,h1,h2⟩:=id hrs0
 obtain⟨q0,q1,g0,g1⟩:=h1.cells
 clear h1 h2
 cases k with
 | true=>
  obtain⟨u0,u1,u2,u3,u4,u5,u6⟩:=hz.cells
  obtain⟨f0,f1,f2,f3,f4,f5,f6⟩:=hz.free
  unfold rp
  go_enter Tryz.func114,Tryz.ntmps114
  go_upto_region 1 with fail
  rw[HW.out]
  go_wp2_with fail
  exact rfin rfl zeroE ts true hz (zF _) hbl hG0 hrs0 none 0 0 0 rfl (ExL.nil _ _ _ _) rfl ⟨zF _,fun _=>rfl,fun h=>by cases h⟩
 | false=>
  obtain⟨D,hD⟩ :∃D:ByteArray,⟨(hd ts).toArray⟩=D:=⟨_,rfl⟩
  have HD:=zJ hD
  have hqN:=bs_list (hd ts) [110,111,116] D hD
  have hqI:=bs_list (hd ts) [105,102] D hD
  have NX0:=zJ (fun(W:World) (h:RL W b ts false)=>NX.out ts false W h)
  unfold rp bs at *
  rw[hD]at NX0
  clear hD
  by_cases hN:hd ts=[110,111,116]
  ·rw[decide_eq_true hN]at hqN
   obtain⟨r,rfl⟩ :∃r,ts=[110,111,116]::r:=by
    cases ts with
    | nil=>cases hN
    | cons t r=>exact⟨r,by rw[show t=[110,111,116] from hN]⟩
   have hlr:2*r.length+1≤n:=by simp only[zB]at hn;omega
   clear hN hqI
   go_enter Tryz.func114,Tryz.ntmps114
   go_upto_region 1 with fail
   rw[HW.out]
   go_wp2_with fail
   refine(NX0.out _ hrs0).mono ?_
   rintro e w1 ⟨rfl,hE1⟩
   go_wp2_with fail
   refine(TK.out [110,111,116] (by simp) _ _ _ (hrs0.ext hE1)).mono ?_
   rintro e w2 ⟨rfl,hg2,hr2⟩
   rw[takeT_hit']at hr2
   go_wp2_with fail
   refine(PC.out r false _ hr2 hlr).mono ?_
   rintro e w3 ⟨hg3,x,r3,k3,⟨A,c,d,rfl,hX⟩,hr3,hpl⟩
   have hG3:=grown_trans (grown_trans (grown_trans hG0 (grown_of hE1 (some b))) hg2) hg3
   have hz3:=((hz.own (grown_of hE1 none) (by simp)).own hg2 HBK.out).own hg3 HBK.out
   have hw23:w0.heap.size≤w2.heap.size:=by have h1:=hE1.sz;have h2:=hg2.size;omega
   have hE4:Ext w3 (w3.alloc (.cells #[.int .i64 x.op,.int .i64 x.var,.int .i64 x.ty,.int .i64 x.n,.bool x.b,.string ⟨x.s.toArray⟩,.slice A x.l.length c] 47)):=Ext.alloc _ _
   have hz4:=hz3.own (grown_of hE4 none) (by simp)
   have hr4:=hr3.ext hE4
   have hG4:=grown_trans hG3 (grown_of hE4 (some b))
   have hs3:=hg3.size
   have HX:=zJ hX
   have HPL:=zJ hpl
   obtain⟨u0,u1,u2,u3,u4,u5,u6⟩:=hz4.cells
   obtain⟨f0,f1,f2,f3,f4,f5,f6⟩:=hz4.free
   unfold Ex.cells
   clear hX hpl hr3 hz3 hG3
   go_wp2_with fail
   refine rfin rfl (exOp 3 [x]) r3 k3 hz4 (zF _) hbl hG4 hr4 (some ⟨w3.heap.size,0,none⟩) 1 1 (d+1) rfl ?_ rfl HPL.out.not
   refine ExL.row (us:=[⟨x,A,c⟩]) ⟨by omega,by simp,by omega⟩ ?_ ?_
   ·intro u hu
    simp only[List.mem_singleton]at hu
    subst hu
    exact(HX.out.keep fun k hk o=>hE4.old (p:=⟨k,o,none⟩) hk.2).more fun k hk=>⟨by omega,Nat.lt_of_lt_of_le hk.2 hE4.sz,by omega⟩
   ·intro i v hi
    rw[World.cell?_alloc_new]
    simpa[Nd.cells,Ex.cells]using hi
  ·rw[decide_eq_false hN]at hqN
   by_cases hI:hd ts=[105,102]
   ·rw[decide_eq_true hI]at hqI
    obtain⟨r,rfl⟩ :∃r,ts=[105,102]::r:=by
     cases ts with
     | nil=>cases hI
     | cons t r=>exact⟨r,by rw[show t=[105,102] from hI]⟩
    have hlr:2*r.length+3≤n:=by simp only[zB]at hn;omega
    clear hN hI
    go_enter Tryz.func114,Tryz.ntmps114
    go_upto_region 1 with fail
    rw[HW.out]
    go_wp2_with fail
    refine(NX0.out _ hrs0).mono ?_
    rintro e w1 ⟨rfl,hE1⟩
    have hrA:=hrs0.ext hE1
    go_wp2_with fail
    refine(NX0.out _ hrA).mono ?_
    rintro e w2 ⟨rfl,hE2⟩
    have hrB:=hrA.ext hE2
    go_wp2_with fail
    refine(TK.out [105,102] (by simp) _ _ _ hrB).mono ?_
    rintro e w3 ⟨rfl,hg3,hr3⟩
    rw[takeT_hit']at hr3
    have hG3:=grown_trans (grown_trans (grown_trans hG0 (grown_of hE1 (some b))) (grown_of hE2 (some b))) hg3
    have hz3:=((hz.own (grown_of hE1 none) (by simp)).own (grown_of hE2 none) (by simp)).own hg3 HBK.out
    have hs03:w0.heap.size≤w3.heap.size:=by have h1:=hE1.sz;have h2:=hE2.sz;have h3:=hg3.size;omega
    clear hrA hrB hE1 hE2 hg3 q0 q1 g0 g1
    go_wp2_with fail
    refine(PC.out r false _ hr3 (by omega)).mono ?_
    rintro e w4 ⟨hg4,x0,r0,k0,⟨A0,c0,d0,rfl,hX0⟩,hr4,hpl0⟩
    have hlen0:=hpl0.1
    have HPL0:=zJ hpl0
    have hEa:Ext w4 (w4.alloc (.cells (x0.cells A0 c0).toArray 47)):=Ext.alloc _ _
    have hina:=InBlk.new2 w4 x0 A0 c0
    have hGa:=grown_trans (grown_trans hG3 hg4) (grown_of hEa (some b))
    have hza:=(hz3.own hg4 HBK.out).own (grown_of hEa none) (by simp)
    have hra:=hr4.ext hEa
    have hs34:=hg4.size
    have hXa:ExL _ (fun k=>w.heap.size<k∧k<w4.heap.size) d0 A0 x0.l:=(hX0.keep fun k hk o=>hEa.old (p:=⟨k,o,none⟩) hk.2).more fun k hk=>⟨by omega,hk.2⟩
    have hb4:=hr4.lt
    obtain⟨wa,hwa⟩ :∃wa,w4.alloc (.cells (x0.cells A0 c0).toArray 47)=wa:=⟨_,rfl⟩
    have hsa:w4.heap.size<wa.heap.size:=by rw[←hwa];simp
    rw[hwa]at hina hGa hza hra hXa
    have HWA:=zJ hwa
    unfold Ex.cells at HWA ⊢
    clear hwa hEa hG3 hz3 hr3 hr4 hX0 hpl0 hg4
    go_upto_region 9 with fail
    rw[HWA.out]
    go_wp2_with fail
    refine(TK.out [116,104,101,110] (by simp) _ _ _ hra).mono ?_
    rintro e w5 hTR
    obtain⟨rfl,hg5,r1,k1,hr5,hl5,hk5⟩:=hTR.left
    have HT5:=zJ (show Tk [116,104,101,110] r0 r1 k0 k1 from hk5)
    have hG5:=grown_trans hGa hg5
    have hz5:=hza.own hg5 HBK.out
    have hin5:=hina.own hg5 (by simp;omega)
    have hX5:ExL w5 (fun k=>w.heap.size<k∧k<w4.heap.size) d0 A0 x0.l:=hXa.keep fun k hk o=>grown_cell hg5 (by omega) (by have:=hk.1;simp;omega) o
    have hs5:=hg5.size
    clear hk5 hTR hGa hza hina hra hXa hg5
    go_wp2_with fail
    refine(PC.out r1 k1 _ hr5 (by omega)).mono ?_
    rintro e w6 ⟨hg6,x1,r2,k2,⟨A1,c1,d1,rfl,hX1⟩,hr6,hpl1⟩
    have hlen1:=hpl1.1
    have HPL1:=zJ hpl1
    have hEb:Ext w6 (w6.alloc (.cells (x1.cells A1 c1).toArray 47)):=Ext.alloc _ _
    have hinb:=InBlk.new2 w6 x1 A1 c1
    have hGb:=grown_trans (grown_trans hG5 hg6) (grown_of hEb (some b))
    have hzb:=(hz5.own hg6 HBK.out).own (grown_of hEb none) (by simp)
    have hrb:=hr6.ext hEb
    have hs6:=hg6.size
    have hina6:=(hin5.own hg6 (by simp;omega)).ext hEb
    have hX06:ExL _ (fun k=>w.heap.size<k∧k<w4.heap.size) d0 A0 x0.l:=(hX5.keep fun k hk o=>grown_cell hg6 (by omega) (by have:=hk.1;simp;omega) o).keep fun k hk o=>hEb.old (p:=⟨k,o,none⟩) (by show k<_;omega)
    have hXb:ExL _ (fun k=>w.heap.size<k∧k<w6.heap.size) d1 A1 x1.l:=(hX1.keep fun k hk o=>hEb.old (p:=⟨k,o,none⟩) hk.2).more fun k hk=>⟨by omega,hk.2⟩
    obtain⟨wb,hwb⟩ :∃wb,w6.alloc (.cells (x1.cells A1 c1).toArray 47)=wb:=⟨_,rfl⟩
    have hsb:w6.heap.size<wb.heap.size:=by rw[←hwb];simp
    rw[hwb]at hinb hGb hzb hrb hina6 hX06 hXb
    have HWB:=zJ hwb
    unfold Ex.cells at HWB ⊢
    clear hwb hEb hG5 hz5 hr5 hr6 hX1 hpl1 hg6 hin5 hX5
    go_upto_region 11 with fail
    rw[HWB.out]
    go_wp2_with fail
    refine(TK.out [101,108,115,101] (by simp) _ _ _ hrb).mono ?_
    rintro e w7 hTR
    obtain⟨rfl,hg7,r3,k3,hr7,hl7,hk7⟩:=hTR.left
    have HT7:=zJ (show Tk [101,108,115,101] r2 r3 k2 k3 from hk7)
    have hG7:=grown_trans hGb hg7
    have hz7:=hzb.own hg7 HBK.out
    have hina7:=hina6.own hg7 (by simp;omega)
    have hinb7:=hinb.own hg7 (by simp;omega)
    have hX07:ExL w7 (fun k=>w.heap.size<k∧k<w4.heap.size) d0 A0 x0.l:=hX06.keep fun k hk o=>grown_cell hg7 (by omega) (by have:=hk.1;simp;omega) o
    have hX17:ExL w7 (fun k=>w.heap.size<k∧k<w6.heap.size) d1 A1 x1.l:=hXb.keep fun k hk o=>grown_cell hg7 (by omega) (by have:=hk.1;simp;omega) o
    have hs7:=hg7.size
    have HX07:=zJ hX07
    have HX17:=zJ hX17
    have hl3:2*r3.length+1≤n:=by omega
    obtain⟨a0,a1,a2,a3,a4,a5,a6⟩:=hina7.cells
    obtain⟨b0,b1,b2,b3,b4,b5,b6⟩:=hinb7.cells
    clear hk7 hTR hGb hzb hina6 hinb hrb hX06 hXb hX07 hX17 hg7
    go_wp2_with fail
    go_region_with (go_at_call 143;refine(PC.out r3 k3 _ (by first|exact hr7.ext (Ext.drew _)|exact hr7) hl3).mono ?_;rintro e w8 ⟨hg8,x2,r4,k4,⟨A2,c2,d2,rfl,hX2⟩,hr8,hpl2⟩;unfold Ex.cells;have hg78:w7.grownBy w8 (some b):=(by first|exact hg8|exact grown_trans (grown_of (Ext.drew _) _) hg8);have hz8:=hz7.own hg78 HBK.out;have hina8:=hina7.own hg78 (by simp;omega);have hinb8:=hinb7.own hg78 (by simp;omega);obtain⟨j0,j1,j2,j3,j4,j5,j6⟩:=hina8.cells;obtain⟨k0',k1',k2',k3',k4',k5',k6'⟩:=hinb8.cells;have hE9:Ext w8 (w8.alloc (.cells #[.int .i64 x0.op,.int .i64 x0.var,.int .i64 x0.ty,.int .i64 x0.n,.bool x0.b,.string ⟨x0.s.toArray⟩,.slice A0 x0.l.length c0,.int .i64 x1.op,.int .i64 x1.var,.int .i64 x1.ty,.int .i64 x1.n,.bool x1.b,.string ⟨x1.s.toArray⟩,.slice A1 x1.l.length c1,.int .i64 x2.op,.int .i64 x2.var,.int .i64 x2.ty,.int .i64 x2.n,.bool x2.b,.string ⟨x2.s.toArray⟩,.slice A2 x2.l.length c2] 47)):=Ext.alloc _ _;have hz9:=hz8.own (grown_of hE9 none) (by simp);obtain⟨u0,u1,u2,u3,u4,u5,u6⟩:=hz9.cells;obtain⟨f0,f1,f2,f3,f4,f5,f6⟩:=hz9.free)
    all_goals
     go_wp2_with fail
     have hs8:=hg78.size
     have hr9:=hr8.ext hE9
     have hG9:=grown_trans (grown_trans hG7 hg78) (grown_of hE9 (some b))
     have hX08:=HX07.out.keep fun k hk o=>grown_cell hg78 (by omega) (by have:=hk.1;simp;omega) o
     have hX18:=HX17.out.keep fun k hk o=>grown_cell hg78 (by omega) (by have:=hk.1;simp;omega) o
     refine rfin rfl (exOp 13 [x0,x1,x2]) r4 k4 hz9 (zF _) hbl hG9 hr9 (some ⟨w8.heap.size,0,none⟩) 3 3 (d0+d1+d2+1) rfl ?_ rfl (RPl.ite HPL0.out HT5.out hl5 HPL1.out HT7.out hl7 hpl2)
     refine ExL.row (us:=[⟨x0,A0,c0⟩,⟨x1,A1,c1⟩,⟨x2,A2,c2⟩]) ⟨by omega,by simp,by omega⟩ ?_ ?_
     ·intro u hu
      simp only[zD,zE,or_false]at hu
      rcases hu with rfl|rfl|rfl
      ·exact((hX08.keep fun k hk o=>hE9.old (p:=⟨k,o,none⟩) (by show k<_;omega)).more fun k hk=>⟨by omega,by have:=hE9.sz;omega,by omega⟩).deep (by omega)
      ·exact((hX18.keep fun k hk o=>hE9.old (p:=⟨k,o,none⟩) (by show k<_;omega)).more fun k hk=>⟨by omega,by have:=hE9.sz;omega,by omega⟩).deep (by omega)
      ·exact((hX2.keep fun k hk o=>hE9.old (p:=⟨k,o,none⟩) hk.2).more fun k hk=>⟨by have h1:w7.heap.size≤k:=hk.1;omega,by have:=hE9.sz;have:=hk.2;omega,by have h1:w7.heap.size≤k:=hk.1;omega⟩).deep (by omega)
     ·intro i v hi
      rw[World.cell?_alloc_new]
      simpa[Nd.cells,Ex.cells]using hi
   ·rw[decide_eq_false hI]at hqI
    have HNI:=zJ (And.intro hN hI)
    clear hN hI
    go_enter Tryz.func114,Tryz.ntmps114
    go_upto_region 1 with fail
    rw[HW.out]
    go_wp2_with fail
    refine(NX0.out _ hrs0).mono ?_
    rintro e w1 ⟨rfl,hE1⟩
    have hrA:=hrs0.ext hE1
    go_wp2_with fail
    refine(NX0.out _ hrA).mono ?_
    rintro e w2 ⟨rfl,hE2⟩
    have hrB:=hrA.ext hE2
    have hG3:=grown_trans (grown_trans hG0 (grown_of hE1 (some b))) (grown_of hE2 (some b))
    have hz3:=(hz.own (grown_of hE1 none) (by simp)).own (grown_of hE2 none) (by simp)
    have hs03:w0.heap.size≤w2.heap.size:=by have h1:=hE1.sz;have h2:=hE2.sz;omega
    clear hrA hE1 hE2 q0 q1 g0 g1
    go_wp2_with fail
    refine(PC.out ts false _ hrB (by omega)).mono ?_
    rintro e w4 ⟨hg4,x0,r0,k0,⟨A0,c0,d0,rfl,hX0⟩,hr4,hpl0⟩
    have hlen0:=hpl0.1
    have HPL0:=zJ hpl0
    have hEa:Ext w4 (w4.alloc (.cells (x0.cells A0 c0).toArray 47)):=Ext.alloc _ _
    have hina:=InBlk.new2 w4 x0 A0 c0
    have hGa:=grown_trans (grown_trans hG3 hg4) (grown_of hEa (some b))
    have hza:=(hz3.own hg4 HBK.out).own (grown_of hEa none) (by simp)
    have hra:=hr4.ext hEa
    have hs34:=hg4.size
    have hXa:ExL _ (fun k=>w.heap.size<k∧k<w4.heap.size) d0 A0 x0.l:=(hX0.keep fun k hk o=>hEa.old (p:=⟨k,o,none⟩) hk.2).more fun k hk=>⟨by omega,hk.2⟩
    have hb4:=hr4.lt
    obtain⟨wa,hwa⟩ :∃wa,w4.alloc (.cells (x0.cells A0 c0).toArray 47)=wa:=⟨_,rfl⟩
    have hsa:w4.heap.size<wa.heap.size:=by rw[←hwa];simp
    rw[hwa]at hina hGa hza hra hXa
    have HWA:=zJ hwa
    unfold Ex.cells at HWA ⊢
    clear hwa hEa hG3 hz3 hr4 hX0 hpl0 hg4 hrB
    go_upto_region 15 with fail
    rw[HWA.out]
    go_wp2_with fail
    refine(rOps_any _).mono ?_
    rintro e w5 ⟨rfl,hrow,hE5⟩
    have h9:wdL.length=9:=rfl
    simp only[h9]
    have hr5:=hra.ext hE5
    have IX:=zJ (show ∀(g:Nat) W (u:Tok),RowS W g wdL→Calls Tryz.prog 144 #[.slice (some ⟨g,0,none⟩) 9 9,.string ⟨u.toArray⟩] W fun e w'=>e=.returned (.int .i64 (ixI wdL u))∧w'=W from fun g W u hR=>rindex_any wdL u g W hR (by decide))
    have NX5:=zJ (NX.out r0 k0 _ hr5)
    clear h9
    go_wp2_with fail
    refine NX5.out.mono ?_
    rintro e w6 ⟨rfl,hE6⟩
    have hEs:=hE5.trans hE6
    have hr6:=hra.ext hEs
    have hz6:=hza.own (grown_of hEs none) (by simp)
    have hG6:=grown_trans hGa (grown_of hEs (some b))
    have hin6:=hina.ext hEs
    have hX6:ExL w6 (fun k=>w.heap.size<k∧k<w4.heap.size) d0 A0 x0.l:=hXa.keep fun k hk o=>hEs.old (p:=⟨k,o,none⟩) (by show k<_;omega)
    have hs6:=hEs.sz
    have hrow6:=hrow.ext hE6
    clear hE5 hE6 hEs hra hza hGa hina hXa hr5 hrow
    go_wp2_with fail
    refine(IX.out _ _ (hd r0) hrow6).mono ?_
    rintro e w' ⟨rfl,rfl⟩
    obtain⟨i0,i1,i2,i3,i4,i5,i6⟩:=hin6.cells
    cases hix:ix wdL (hd r0) with
    | none=>
     have hi:ixI wdL (hd r0) = -1:=by unfold ixI;rw[hix]
     rw[hi]
     have HPLx:=zJ (RPl.one HNI.out.1 HNI.out.2 HPL0.out hix)
     have HX6:=zJ hX6
     obtain⟨u0,u1,u2,u3,u4,u5,u6⟩:=hz6.cells
     obtain⟨f0,f1,f2,f3,f4,f5,f6⟩:=hz6.free
     clear hix hi hX6
     go_wp2_with fail
     exact rfin rfl x0 r0 k0 hz6 (zF _) hbl hG6 hr6 A0 _ c0 d0 rfl (HX6.out.more fun k hk=>⟨by omega,by omega,by omega⟩) rfl HPLx.out
    | some j=>
     have hi:ixI wdL (hd r0)=(j:Int):=by unfold ixI;rw[hix]
     have hj9:j<9:=ix_lt hix
     rw[hi]
     obtain⟨o,r',rfl⟩ :∃o r',r0=o::r':=by
      cases r0 with
      | nil=>exact absurd (show ix wdL []=some j from hix) (by rw[show ix wdL []=none by decide];simp)
      | cons o r'=>exact⟨o,r',rfl⟩
     have ho:hd (o::r')=o:=rfl
     have hone:o≠[]:=by rintro rfl;exact absurd (show ix wdL []=some j from hix) (by rw[show ix wdL []=none by decide];simp)
     have HIX:=zJ (show ix wdL o=some j from hix)
     have NX6:=zJ (NX.out (o::r') k0 _ hr6)
     have TK6:=zJ (fun(W:World) (h:RL W b (o::r') k0)=>TK.out o hone (o::r') k0 W h)
     rw[ho]at NX6
     clear hix hi ho
     go_wp2_with fail
     refine NX6.out.mono ?_
     rintro e w7 ⟨rfl,hE7⟩
     go_wp2_with fail
     refine(TK6.out _ (hr6.ext hE7)).mono ?_
     rintro e w8 ⟨rfl,hg8,hr8⟩
     rw[takeT_hit']at hr8
     have hg68:=grown_trans (grown_of hE7 (some b)) hg8
     have hz8:=hz6.own hg68 HBK.out
     have hG8:=grown_trans hG6 hg68
     have hin8:=hin6.own hg68 (by simp;omega)
     have hX8:ExL w8 (fun k=>w.heap.size<k∧k<w4.heap.size) d0 A0 x0.l:=hX6.keep fun k hk o=>grown_cell hg68 (by omega) (by have:=hk.1;simp;omega) o
     have hs8:=hg68.size
     have HX8:=zJ hX8
     have hl8:2*r'.length+1≤n:=by rw[zB]at hlen0;omega
     clear i0 i1 i2 i3 i4 i5 i6 hg68 hE7 hg8 hX6 hX8 hin6 hz6 hG6 hrow6
     obtain⟨i0,i1,i2,i3,i4,i5,i6⟩:=hin8.cells
     have hwr:IntKind.i64.wrap (4+(j:Int))=4+(j:Int):=IntWalk.i64_in _ (by omega)
     go_wp2_with fail
     go_region_with (go_at_call 143;refine(PC.out r' k0 _ (by first|exact hr8.ext (Ext.drew _)|exact hr8) hl8).mono ?_;rintro e w9 ⟨hg9,x1,r1,k1,⟨A1,c1,d1,rfl,hX1⟩,hr9,hpl1⟩;unfold Ex.cells;have hg89:w8.grownBy w9 (some b):=(by first|exact hg9|exact grown_trans (grown_of (Ext.drew _) _) hg9);have hz9:=hz8.own hg89 HBK.out;have hin9:=hin8.own hg89 (by simp;omega);obtain⟨j0,j1,j2,j3,j4,j5,j6⟩:=hin9.cells;have hE10:Ext w9 (w9.alloc (.cells #[.int .i64 x0.op,.int .i64 x0.var,.int .i64 x0.ty,.int .i64 x0.n,.bool x0.b,.string ⟨x0.s.toArray⟩,.slice A0 x0.l.length c0,.int .i64 x1.op,.int .i64 x1.var,.int .i64 x1.ty,.int .i64 x1.n,.bool x1.b,.string ⟨x1.s.toArray⟩,.slice A1 x1.l.length c1] 47)):=Ext.alloc _ _;have hz10:=hz9.own (grown_of hE10 none) (by simp);obtain⟨u0,u1,u2,u3,u4,u5,u6⟩:=hz10.cells;obtain⟨f0,f1,f2,f3,f4,f5,f6⟩:=hz10.free)
     all_goals
      go_wp2_with fail
      have hs9:=hg89.size
      have hr10:=hr9.ext hE10
      have hG10:=grown_trans (grown_trans hG8 hg89) (grown_of hE10 (some b))
      have hX9:=HX8.out.keep fun k hk o=>grown_cell hg89 (by omega) (by have:=hk.1;simp;omega) o
      refine rfin rfl (exOp (4+(j:Int)) [x0,x1]) r1 k1 hz10 (zF _) hbl hG10 hr10 (some ⟨w9.heap.size,0,none⟩) 2 2 (d0+d1+1) rfl ?_ rfl (RPl.two HNI.out.1 HNI.out.2 HPL0.out HIX.out hpl1)
      refine ExL.row (us:=[⟨x0,A0,c0⟩,⟨x1,A1,c1⟩]) ⟨by omega,by simp,by omega⟩ ?_ ?_
      ·intro u hu
       simp only[zD,zE,or_false]at hu
       rcases hu with rfl|rfl
       ·exact((hX9.keep fun k hk o=>hE10.old (p:=⟨k,o,none⟩) (by show k<_;omega)).more fun k hk=>⟨by omega,by have:=hE10.sz;omega,by omega⟩).deep (by omega)
       ·exact((hX1.keep fun k hk o=>hE10.old (p:=⟨k,o,none⟩) hk.2).more fun k hk=>⟨by have h1:w8.heap.size≤k:=hk.1;omega,by have:=hE10.sz;have:=hk.2;omega,by have h1:w8.heap.size≤k:=hk.1;omega⟩).deep (by omega)
      ·intro i v hi
       rw[World.cell?_alloc_new]
       simpa[Nd.cells,Ex.cells]using hi
theorem rboth_any :∀n,RWholeC n∧RPieceC n
 | 0=>⟨fun b ts k w _ h=>absurd h (by omega),fun b ts k w _ h=>absurd h (by omega)⟩
 | n+1=>⟨rwhole_step n (rboth_any n).2,rpiece_step n (rboth_any n).1⟩
end Go.Proofs.YtmiencglfhpmeaaGreatDoor
namespace Go.Proofs.YtmiencglfhpmeaaGreatDoor
open Go.RowKit Hach
theorem RL.new {w:World}{base:Nat}{v:Value}{ts:List Tok}(hO:OwnC 9 w base v (ts.map txv)) (ht:(∀t∈ts,IsTok t∧t.length≤4096)∧ts.length≤4096):RL (w.alloc (.cells #[v,.bool false] 161)) w.heap.size ts false:=by
 have hE:Ext w (w.alloc (.cells #[v,.bool false] 161)):=Ext.alloc _ _
 have hA:RdrAt (w.alloc (.cells #[v,.bool false] 161)) w.heap.size v false:=Go.heap_alloc_new _ _
 obtain⟨A,c,e,hR⟩:=hO.form
 rw[zC]at e
 have hcap:ts≠[]→ts.length≤c:=fun hne=>by
  rcases hO.2 with⟨rfl,hn⟩|⟨g,cap,cur,rfl,hb,hg,hn,_⟩
  ·rw[zC]at hn;exact absurd (List.length_eq_zero_iff.1 hn) hne
  ·simp only[Value.slice.injEq]at e
   rw[zC]at hn
   omega
 subst e
 refine⟨A,c,hA,ht.1,ht.2,fun hne=>⟨hcap hne,?_⟩⟩
 obtain⟨g,eA,hg,hc⟩:=hR (by simpa using hne)
 refine⟨g,0,eA,hg,fun j hj=>?_⟩
 have:=hc j (txv ts[j]) (by rw[List.getElem?_map,zA hj];rfl)
 rw[Nat.zero_add,hE.old (p:=⟨g,j,none⟩) hg,this]
 simp[List.getD,zA hj,bs,txv,sv]
theorem parse_read {s:List UInt8}{ts:List Tok}{x:Ex}{r:List Tok}{k':Bool}(h1:lt s=(ts,false)) (hpl:RPl ts false (wholeF (2*ts.length+2) false ts) x r k'):readT s=if k'=false∧r=[] then some x else none:=by
 obtain⟨_,_,h3⟩:=hpl
 have h4:=h3 rfl
 rw[readT_eq h1 rfl]
 unfold readR
 rw[if_neg (by simp)]
 cases hp:wholeF (2*ts.length+2) false ts with
 | none=>rw[hp]at h4;rw[if_neg (by rw[show k'=true from h4];simp)]
 | some p=>
  obtain⟨y,q⟩:=p
  rw[hp]at h4
  obtain⟨e1,e2,e3⟩:=h4
  simp only at e2 e3
  subst e2;subst e3
  cases r with
  | nil=>rw[if_pos ⟨e1,rfl⟩]
  | cons t l=>rw[if_neg (by simp)]
set_option maxRecDepth 100000 in
set_option maxHeartbeats 8000000 in
theorem rparse_any (s:List UInt8) (hs:s.length<4294967296) (w:World):Calls Tryz.prog 93 #[.string ⟨s.toArray⟩] w (ParseQ s w):=by
 have hsz:=toArr_size s
 have hz:=Zero7.new w
 have hE0:Ext w (w.alloc (.cells zero7 47)):=Ext.alloc _ _
 obtain⟨w0,hw0⟩ :∃w0,w.alloc (.cells zero7 47)=w0:=⟨_,rfl⟩
 have hs0:w0.heap.size=w.heap.size+1:=by rw[←hw0];simp
 rw[hw0]at hz hE0
 have HW:=zJ hw0
 have HS0:=zJ hs0
 have hin0:InBlk w0 w.heap.size zeroE (.slice none 0 0):=hz
 unfold zero7 at HW
 have TK:=zJ (tokens_any s w0 hs)
 obtain⟨D,hD⟩ :∃D:ByteArray,(⟨s.toArray⟩:ByteArray)=D:=⟨_,rfl⟩
 have HD:=zJ hD
 rw[hD]at hsz TK ⊢
 obtain⟨n,hn⟩ :∃n,s.length=n:=⟨_,rfl⟩
 rw[hn]at hsz hs
 have HN:=zJ hn
 have hEz :∀wr,Ext w wr→ExL wr (fun k=>w.heap.size<k∧k<wr.heap.size) 0 none zeroE.l:=fun wr _=>ExL.nil _ _ _ _
 clear hw0 hs0 hD hn
 by_cases h1:4096<n
 ·have t1:decide ((4096:Int)<(n:Int))=true:=by simp;omega
  have HP:Hid (parseE s=(zeroE,2)):=zJ (by unfold parseE;rw[HN.out,if_pos h1])
  obtain⟨u0,u1,u2,u3,u4,u5,u6⟩:=hz.cells
  obtain⟨f0,f1,f2,f3,f4,f5,f6⟩:=hz.free
  clear h1
  go_enter Tryz.func93,Tryz.ntmps93
  go_upto_region 1 with fail
  rw[HW.out]
  go_wp2_with fail
  exact parse_fin rfl zeroE 2 HP.out hE0 hin0 none 0 0 0 rfl (hEz _ hE0) rfl rfl
 ·have t1:decide ((4096:Int)<(n:Int))=false:=by simp;omega
  have hn4:n≤4096:=by omega
  obtain⟨⟨ts,bad⟩,hlt⟩ :∃p,lt s=p:=⟨_,rfl⟩
  have HLT:=zJ hlt
  have hto:(∀t∈ts,IsTok t∧t.length≤4096)∧ts.length≤4096:=by
   obtain⟨i1,i2⟩:=lt_toks s.length s (zF _)
   rw[hlt]at i1 i2
   have:=HN.out
   simp only at i1 i2
   exact⟨fun t ht=>⟨(i1 t ht).1,by have:=(i1 t ht).2;omega⟩,by omega⟩
  have HTO:=zJ hto
  rw[hlt]at TK
  clear h1 hlt hto
  go_enter Tryz.func93,Tryz.ntmps93
  go_upto_region 1 with fail
  rw[HW.out]
  go_wp2_with fail
  refine TK.out.mono ?_
  rintro e w1 ⟨hbad,hgood⟩
  cases bad with
  | true=>
   obtain⟨rfl,hE1⟩:=hbad rfl
   have HP:Hid (parseE s=(zeroE,4)):=zJ (by rw[parse_eq (by have:=HN.out;omega) (readT_eq HLT.out rfl)];rfl)
   have hz1:=hz.own (grown_of hE1 none) (by simp)
   have hin1:InBlk w1 w.heap.size zeroE (.slice none 0 0):=hz1
   have hEf:=hE0.trans hE1
   obtain⟨u0,u1,u2,u3,u4,u5,u6⟩:=hz1.cells
   obtain⟨f0,f1,f2,f3,f4,f5,f6⟩:=hz1.free
   clear hbad hgood
   go_wp2_with fail
   exact parse_fin rfl zeroE 4 HP.out hEf hin1 none 0 0 0 rfl (hEz _ hEf) rfl rfl
  | false=>
   obtain⟨v,rfl,hO,hE1⟩:=hgood rfl
   obtain⟨A0,c0,e0,_⟩:=hO.form
   rw[zC]at e0
   obtain⟨n0,hn0⟩ :∃n0,ts.length=n0:=⟨_,rfl⟩
   rw[hn0]at e0
   subst e0
   have hrl:=RL.new hO HTO.out
   have hE2:Ext w1 (w1.alloc (.cells #[.slice A0 n0 c0,.bool false] 161)):=Ext.alloc _ _
   have hz2:=(hz.own (grown_of hE1 none) (by simp)).own (grown_of hE2 none) (by simp)
   have hE02:=(hE0.trans hE1).trans hE2
   have WH:=zJ ((rboth_any (2*ts.length+2)).1 w1.heap.size ts false _ hrl (zF _))
   have hs1:=hE1.sz
   have HS1:=zJ hs1
   clear hbad hgood hO hrl hs1 hn0
   go_wp2_with fail
   unfold rp at WH
   refine WH.out.mono ?_
   rintro e w3 ⟨hg3,x,r,k',⟨A,c,d,rfl,hX⟩,hr3,hpl⟩
   have HRT:=zJ (parse_read HLT.out hpl)
   have hE3:=ext_of_grown hE02 hg3 (by have:=HS1.out;have:=HS0.out;omega)
   have hz3:=hz2.own hg3 (by simp;have:=HS1.out;have:=HS0.out;omega)
   have hE4:Ext w3 (w3.alloc (.cells (x.cells A c).toArray 47)):=Ext.alloc _ _
   have hin4:=InBlk.new2 w3 x A c
   have hz4:=hz3.own (grown_of hE4 none) (by simp)
   have hr4:=hr3.ext hE4
   have hEf4:=hE3.trans hE4
   have hX4:ExL (w3.alloc (.cells (x.cells A c).toArray 47)) (fun k=>w.heap.size<k∧k<w3.heap.size) d A x.l:=(hX.keep fun k hk o=>hE4.old (p:=⟨k,o,none⟩) hk.2).more fun k hk=>⟨by have:=HS1.out;have:=HS0.out;have h1:=hk.1;simp at h1;omega,hk.2⟩
   have hb3:=hr3.lt
   have hw3:w.heap.size<w3.heap.size:=hz3.lt'
   obtain⟨wa,hwa⟩ :∃wa,w3.alloc (.cells (x.cells A c).toArray 47)=wa:=⟨_,rfl⟩
   have hsa:w3.heap.size<wa.heap.size:=by rw[←hwa];simp
   rw[hwa]at hin4 hz4 hr4 hEf4 hX4
   have HWA:=zJ hwa
   obtain⟨A2,c2,h1,h2⟩:=hr4
   obtain⟨q0,q1,g0,g1⟩:=h1.cells
   obtain⟨i0,i1,i2,i3,i4,i5,i6⟩:=hin4.cells
   obtain⟨u0,u1,u2,u3,u4,u5,u6⟩:=hz4.cells
   obtain⟨f0,f1,f2,f3,f4,f5,f6⟩:=hz4.free
   have hinz:InBlk wa w.heap.size zeroE (.slice none 0 0):=hz4
   have HX4:=zJ hX4
   unfold Ex.cells at HWA ⊢
   clear hwa hE4 hz2 hz3 hX hX4 hpl hg3 hr3 h1 h2 hE02 hE2
   cases k' with
   | true=>
    have HP:Hid (parseE s=(zeroE,4)):=zJ (by rw[parse_eq (by have:=HN.out;omega) HRT.out,if_neg (by simp)];rfl)
    go_upto_region 8 with fail
    rw[HWA.out]
    go_wp2_with fail
    exact parse_fin rfl zeroE 4 HP.out hEf4 hinz none 0 0 0 rfl (hEz _ hEf4) rfl rfl
   | false=>
    cases r with
    | cons t l=>
     have HP:Hid (parseE s=(zeroE,4)):=zJ (by rw[parse_eq (by have:=HN.out;omega) HRT.out,if_neg (by simp)];rfl)
     obtain⟨m,hm⟩ :∃m,(t::l).length=m:=⟨_,rfl⟩
     have hm0:0<m:=by rw[←hm];simp
     rw[hm]at q0
     clear hm
     go_upto_region 8 with fail
     rw[HWA.out]
     go_wp2_with fail
     exact parse_fin rfl zeroE 4 HP.out hEf4 hinz none 0 0 0 rfl (hEz _ hEf4) rfl rfl
    | nil=>
     have HR:=zJ (show readT s=some x by rw[HRT.out,if_pos ⟨rfl,rfl⟩])
     rw[List.length_nil]at q0
     obtain⟨hok,hsx⟩:=readT_ok HR.out (by have:=HN.out;omega)
     have CK:=zJ (rCheck_any x d A c wa (HX4.out.more fun k hk=>by omega) (by omega) hok)
     have HP1:Hid (parseE s=if chkE x=0 then(x,0) else(zeroE,chkE x)):=zJ (by rw[parse_eq (by have:=HN.out;omega) HR.out];rfl)
     obtain⟨T,hT⟩ :∃T,chkT x=T:=⟨_,rfl⟩
     obtain⟨K,hK⟩ :∃K,chkE x=K:=⟨_,rfl⟩
     unfold Ex.cells at CK
     rw[hT,hK]at CK
     rw[hK]at HP1
     clear hT hK hok hsx
     go_upto_region 8 with fail
     rw[HWA.out]
     go_wp2_with fail
     refine CK.out.mono ?_
     rintro e w5 ⟨rfl,hE5⟩
     have hinz5:=hinz.ext hE5
     have hEf5:=hEf4.trans hE5
     have hX5:ExL w5 (fun k=>w.heap.size<k∧k<w5.heap.size) d A x.l:=(HX4.out.keep fun k hk o=>hE5.old (p:=⟨k,o,none⟩) (by show k<_;omega)).more fun k hk=>⟨hk.1,by have:=hE5.sz;omega⟩
     have HX5:=zJ hX5
     obtain⟨p0,p1,p2,p3,p4,p5,p6⟩:=(hin4.ext hE5).cells
     obtain⟨v0,v1,v2,v3,v4,v5,v6⟩:=hinz5.cells
     obtain⟨e0,e1,e2,e3,e4,e5,e6⟩:=hinz5.free7
     clear i0 i1 i2 i3 i4 i5 i6 u0 u1 u2 u3 u4 u5 u6 f0 f1 f2 f3 f4 f5 f6 hX5
     by_cases hK0:K=0
     ·subst hK0
      go_wp2_with fail
      exact parse_fin rfl x 0 (by rw[HP1.out];rfl) hEf5 hinz5 A x.l.length c d rfl HX5.out rfl rfl
     ·have tK:(K != 0)=true:=by simpa using hK0
      have HP2:=zJ (show parseE s=(zeroE,K) by rw[HP1.out,if_neg hK0])
      clear hK0
      go_wp2_with fail
      exact parse_fin rfl zeroE K HP2.out hEf5 hinz5 none 0 0 0 rfl (hEz _ hEf5) rfl rfl
end Go.Proofs.YtmiencglfhpmeaaGreatDoor
