/- The contract of expr.text. -/
import Derived.Test.YtmiencglfhpmeaaGreatDoorUQXj
open List renaming cons_append → zA, foldl_cons → zB, foldl_nil → zC, getD_cons_succ → zD, getD_cons_zero → zE, getElem?_map → zF, getElem_mem → zG, length_cons → zH, length_map → zI, length_nil → zJ, map_eq_nil_iff → zK, nil_append → zL, range_succ → zM, range_zero → zN, setIfInBounds_toArray → zO, set_cons_succ → zP, set_cons_zero → zQ
open Nat renaming add_assoc → zR, add_zero → zS, lt_of_le_of_lt → zT, lt_of_lt_of_le → zU, one_mul → zV, reduceAdd → zW, reduceMul → zX, zero_mul → zY
open Go.Lib renaming hid → zZ
set_option linter.unusedSimpArgs false
set_option linter.unusedVariables false
namespace Go.Proofs.YtmiencglfhpmeaaGreatDoor
open Go.RowKit Hach
def sv (p:List UInt8):ByteArray:=⟨p.toArray⟩
theorem sv_size (p:List UInt8):(sv p).size=p.length:=by show p.toArray.size=_;simp
theorem sv_app (a b:List UInt8):sv a++sv b=sv (a++b):=ba_append a b
def txv (p:List UInt8):Value:=.string (sv p)
theorem Rt.len3 {e:Ex}{t:Int}(h:Rt e t):e.l.length≤3:=by
 rcases h.inv with⟨_,hl,_⟩|⟨_,hl,_⟩|⟨_,_,a,hl,ha⟩|⟨_,_,a,b,hl,ha,hb⟩|⟨_,_,s,a,b,hl,ha,hb⟩|⟨_,_,a,b,hl,ha,hb⟩|⟨_,_,a,b,hl,ha,hb⟩|⟨_,a,b,c,hl,ha,hb,hc⟩<;>simp[hl]
theorem Ex.kid_size {e:Ex}{k:Nat}(hk:k<e.l.length):(e.l[k]).size≤e.size:=by
 have h1:=Ex.size_mem (zG hk)
 have:=e.kids_lt
 omega
theorem Rt.inv5 {e:Ex}{t:Int}(h:Rt e t):(e.op=1∧e.l=[]∧vlRight e.vl=true)∨(e.op=2∧e.l=[]∧(1≤e.var∧e.var≤9))∨(e.op=3 ∧∃a s,e.l=[a]∧Rt a s) ∨
  ((4≤e.op∧e.op≤12) ∧∃a b s s',e.l=[a,b]∧Rt a s∧Rt b s')∨(e.op=13 ∧∃a b c s s' s'',e.l=[a,b,c]∧Rt a s∧Rt b s'∧Rt c s''):=by
 rcases h.inv with⟨h6,hl,hr,ht⟩|⟨h6,hl,hr,ht⟩|⟨h6,ht,a,hl,ha⟩|⟨h6,ht,a,b,hl,ha,hb⟩|⟨h6,ht,s,a,b,hl,ha,hb⟩|⟨h6,ht,a,b,hl,ha,hb⟩|⟨h6,ht,a,b,hl,ha,hb⟩|⟨h6,a,b,c,hl,ha,hb,hc⟩
 ·exact .inl ⟨h6,hl,hr⟩
 ·exact .inr (.inl ⟨h6,hl,hr⟩)
 ·exact .inr (.inr (.inl ⟨h6,a,_,hl,ha⟩))
 ·exact .inr (.inr (.inr (.inl ⟨by omega,a,b,_,_,hl,ha,hb⟩)))
 ·exact .inr (.inr (.inr (.inl ⟨by omega,a,b,_,_,hl,ha,hb⟩)))
 ·exact .inr (.inr (.inr (.inl ⟨by omega,a,b,_,_,hl,ha,hb⟩)))
 ·exact .inr (.inr (.inr (.inl ⟨by omega,a,b,_,_,hl,ha,hb⟩)))
 ·exact .inr (.inr (.inr (.inr ⟨h6,a,b,c,_,_,_,hl,ha,hb,hc⟩)))
def ptS (s:ByteArray):SP:=⟨fun v W =>∃a:Addr,v=.pointer (some a)∧a.block<W.heap.size∧W.cell? a=some (.string s),fun h hE=>by
 obtain⟨a,e,h1,h2⟩:=h
 exact⟨a,e,zU h1 hE.sz,(hE.old h1).trans h2⟩⟩
theorem kid_piece {e y:Ex}{s:Int}(hs:e.size<1048576) (hy:Rt y s) (hm:y∈e.l):(sv y.piece).size<1073741824:=by
 have h1:=piece_len y
 have h2:=text_len hy
 have h4:=Ex.size_mem hm
 have h5:=e.kids_lt
 rw[sv_size];omega
theorem two_text {e a b:Ex}(h:4≤e.op∧e.op≤12) (hl:e.l=[a,b]):sv e.text=sv a.piece++sv [32]++sv (wdL.getD (e.op-4).toNat [])++sv [32]++sv b.piece:=by
 rw[e.text_eq,hl,sv_app,sv_app,sv_app,sv_app]
 unfold tx
 rw[if_neg (by omega),if_neg (by omega),if_neg (by omega),if_neg (by omega)]
 simp[Ex.pieces_map]
set_option maxRecDepth 100000 in
set_option maxHeartbeats 8000000 in
theorem text_any (d:Nat) :∀(e:Ex) (t:Int) (A:Option Addr) (c:Nat) (w:World),Rt e t→ExB w w.heap.size d A e.l→e.ok→e.size<1048576→Tabs w →
  Calls Tryz.prog 85 #[.agg (e.cells A c).toArray] w fun r w'=>r=.returned (.string (sv e.text))∧Ext w w':=by
 induction d using Nat.strongRecOn with
 | _ d ih=>
  intro e t A c w hrt hX hok hsz htab
  have HOK:=zZ hok
  have HRT:=zZ hrt
  have HSZ:=zZ hsz
  have HTB:=zZ htab
  have hlen:=hrt.len3
  have HV:=zZ e.text_eq
  obtain⟨w0,hw0⟩ :∃w0,w.alloc (.cells (e.cells A c).toArray 47)=w0:=⟨_,rfl⟩
  have hE0:Ext w w0:=by rw[←hw0];exact Ext.alloc _ _
  have hBx:Box w0 w.heap.size e A c:=by rw[←hw0];exact Box.new w e A c 47
  have HW:=zZ hw0
  have hlt0:=hBx.lt
  have HBx:=zZ hBx
  have y6:=hBx.c6
  unfold Ex.cells
  unfold Ex.cells at HW
  clear hw0 hBx hok hrt hsz htab
  go_enter Tryz.func85,Tryz.ntmps85
  go_upto_region 2 with fail
  rw[HW.out]
  go_wp2_with fail
  go_loopw [3,13] (fun lv kv wr =>∃k:Nat,k≤e.l.length∧kv=.int .i64 k∧OwnC 9 wr w0.heap.size lv (((Ex.pieces e.l).take k).map txv)∧Ext w0 wr) (fun _ kv _=>e.l.length-(intOf kv).toNat)
  case atStart=>exact⟨0,Nat.zero_le _,rfl,OwnC.nil _ _ _,Ext.refl _⟩
  case round=>
   obtain⟨k,hk,rfl,hO,hE⟩:=hrel
   have hEa:Ext w wr:=hE0.trans hE
   by_cases hlt:k<e.l.length
   ·obtain⟨b,o,A',c',d',hd,rfl,hb,hX',hOne⟩:=hX.at_ hlt
    obtain⟨s,hs⟩:=HRT.out.kid hlt
    have ihx:=ih d' (by omega)
    have hokx:=HOK.out.at_ hlt
    have hszx:(e.l[k]).size<1048576:=zT (Ex.kid_size hlt) HSZ.out
    obtain⟨r0,r1,r2,r3,r4,r5,r6⟩:=hOne.ext hb hEa
    have hXr:=hX'.ext hEa
    have htk:=Ex.pieces_take e.l hlt
    have tk:decide (k<e.l.length)=true:=by simp;omega
    have hus:(((Ex.pieces e.l).take k).map txv).length<4294967296:=by rw[zI,List.length_take];omega
    obtain⟨us,hus2⟩ :∃us,((Ex.pieces e.l).take k).map txv=us:=⟨_,rfl⟩
    rw[hus2]at hO hus
    have HUS:=zZ hus2
    obtain⟨A0,c0,hv0,hf0⟩:=hO.form
    subst hv0
    have HD:=zZ hd
    have htl:=text_len hs
    clear hOne hX' hX hd hus2 hf0
    generalize e.l[k]=y at *
    have IH:=zZ (fun(W:World) (h:Ext wr W)=>ihx y s A' c' W hs (hXr.ext h) hokx hszx (HTB.out.ext (hEa.trans h)))
    simp only[Ex.cells]at IH
    have hbs:(sv y.text).size<1073741824:=by rw[sv_size];omega
    have hyl:y.l.length≤3:=hs.len3
    have HPC:=zZ (show y.piece=if y.l.isEmpty then y.text else 40::(y.text++[41]) from rfl)
    have HTX:Hid (sv y.text=sv y.text):=zZ rfl
    obtain⟨B,hB⟩ :∃B,sv y.text=B:=⟨_,rfl⟩
    have HB:=zZ hB
    rw[hB]at IH hbs
    have HTK:Hid (((Ex.pieces e.l).take (k+1)).map txv=us++[txv y.piece]):=zZ (by rw[htk,List.map_append,HUS.out];rfl)
    clear ihx hokx htk hs hszx htl hB
    go_wp2_with fail
    refine(IH.out _ (Ext.alloc _ _)).mono ?_
    rintro r' w1 ⟨rfl,hEt⟩
    have hE1:Ext wr w1:=(Ext.alloc _ _).trans hEt
    have b6:=((Box.new wr y A' c' 47).ext hEt).c6
    have hO1:=hO.ext hE1
    have hbase:w0.heap.size≤w1.heap.size:=by have h2:=hE1.sz;have h3:=hE.sz;omega
    clear r0 r1 r2 r3 r4 r5 r6 y6
    have key :∀X:ByteArray,X=sv y.piece→Hid ((w1.alloc (.cells #[.string X] 9)).cell? ⟨w1.heap.size,0,none⟩=some (.string X))∧OwnC 9 (w1.alloc (.cells #[.string X] 9)) w0.heap.size (.slice A0 us.length c0) us∧w0.heap.size≤(w1.alloc (.cells #[.string X] 9)).heap.size∧Ext w1 (w1.alloc (.cells #[.string X] 9)):=fun X hX=>by
     have hEa1:Ext w1 (w1.alloc (.cells #[.string X] 9)):=Ext.alloc _ _
     exact⟨zZ (by rw[World.cell?_alloc_new];rfl),hO1.ext hEa1,by have h1:=hEa1.sz;omega,hEa1⟩
    have HKEY:=zZ key
    clear key
    by_cases hl:y.l.length=0
    ·have hX:B=sv y.piece:=by rw[HPC.out,if_pos (by simpa using List.length_eq_zero_iff.1 hl),HB.out]
     obtain⟨HCG,hOa,hba,hEa1⟩:=HKEY.out B hX
     have t1:decide (0<y.l.length)=false:=by rw[hl];rfl
     have t2:decide ((0:Int)<(y.l.length:Int))=false:=by rw[hl];rfl
     have HX:=zZ hX
     rw[hl]at b6
     clear hl hX
     go_wp2_with (at_builtin;refine app_C ctyS rfl 26 28 rfl w0.heap.size (.slice A0 us.length c0) us rfl hOa w1.heap.size (.string B) rfl HCG.out rfl hus hba ?_;intro v1 wb hO2 hg2)
     go_roundw
     case rel=>exact⟨k+1,by omega,by go_num,by rw[HTK.out];unfold txv;rw[←HX.out];exact hO2,Below.trans (hE.trans (hE1.trans hEa1)) (below_row' hg2 hba (fun g e=>(hO.lt g e).1))⟩
     case measure=>simp[intOf];omega
    ·have hX:(⟨#[40]⟩++B++⟨#[41]⟩:ByteArray)=sv y.piece:=by
      rw[HPC.out,if_neg (by intro h;rw[List.isEmpty_iff]at h;rw[h]at hl;exact hl rfl),←HB.out]
      show sv [40]++sv y.text++sv [41]=_
      rw[sv_app,sv_app];rfl
     obtain⟨HCG,hOa,hba,hEa1⟩:=HKEY.out _ hX
     have t1:decide (0<y.l.length)=true:=by simp;omega
     have t2:decide ((0:Int)<(y.l.length:Int))=true:=by simp;omega
     have HX:=zZ hX
     have c1:(⟨#[40]⟩:ByteArray).size≤1:=by decide
     have c2:(⟨#[41]⟩:ByteArray).size≤1:=by decide
     clear hl hX
     go_wp2_with (at_builtin;refine app_C ctyS rfl 26 28 rfl w0.heap.size (.slice A0 us.length c0) us rfl hOa w1.heap.size (.string (⟨#[40]⟩++B++⟨#[41]⟩)) rfl HCG.out rfl hus hba ?_;intro v1 wb hO2 hg2)
     go_roundw
     case rel=>exact⟨k+1,by omega,by go_num,by rw[HTK.out];unfold txv;rw[←HX.out];exact hO2,Below.trans (hE.trans (hE1.trans hEa1)) (below_row' hg2 hba (fun g e=>(hO.lt g e).1))⟩
     case measure=>simp[intOf];omega
   ·obtain rfl:k=e.l.length:=by omega
    have hvl:(Ex.pieces e.l).length=e.l.length:=by rw[Ex.pieces_map];simp
    rw[List.take_of_length_le (by omega)]at hO
    obtain⟨A1,c1,hv1,hR⟩:=hO.form
    rw[zI,hvl]at hv1
    subst hv1
    obtain⟨n0,y0,y1,y2,y3,y4,y5,y6'⟩:=HBx.out.ext hE
    have tk:decide (e.l.length<e.l.length)=false:=by simp
    have hread :∀(j:Nat) (z:Ex),e.l[j]?=some z →∃bb,A1=some ⟨bb,0,none⟩∧bb<wr.heap.size∧wr.cell? ⟨bb,j,none⟩=some (.string (sv z.piece)):=fun j z hz=>by
     obtain⟨bb,h1,h3,h2⟩:=hR (by intro e0;rw[zK,Ex.pieces_map,zK]at e0;rw[e0]at hz;simp at hz)
     exact⟨bb,h1,h3,h2 j _ (by rw[zF,Ex.pieces_map,zF,hz];rfl)⟩
    have HRD:=zZ hread
    obtain⟨n,hn⟩ :∃n,e.l.length=n:=⟨_,rfl⟩
    have HN:=zZ hn
    rw[hn]at y6 y6' tk
    rw[hn]
    have HEr:=zZ hE
    clear hread hR hO hvl ih hX hlt hn hlen hk y6'
    have hiv:=HRT.out.inv5
    rcases hiv with⟨h6,hl,hr⟩|⟨h6,hl,hr⟩|⟨h6,a,_,hl,ha⟩|⟨h6,a,b,_,_,hl,ha,hb⟩|⟨h6,a,b,c',_,_,_,hl,ha,hb,hc⟩
    ·have hsl:e.vl.s.length<9223372036854775808:=by
      have h1:=HOK.out.s
      show e.s.length<_
      omega
     have UW:=zZ (show ∀W,Calls Tryz.prog 97 #[.agg #[.int .i64 e.ty,.int .i64 e.n,.bool e.b,.string ⟨e.s.toArray⟩]] W fun r w'=>r=.returned (unw e.vl).v∧Ext W w' from fun W=>unwrap_any e.vl hsl W)
     have HT:=zZ (show e.text=tx 1 e.var e.vl [] by rw[HV.out,h6,hl];rfl)
     have hty:=right_ty hr
     rw[h6]at y0
     clear h6 hl hsl
     have huw:unw e.vl=if e.vl.ty=1 then .int e.vl.n else if e.vl.ty=2 then .bool e.vl.b else .txt e.vl.s:=by unfold unw;rw[if_pos hr]
     rcases(by omega:e.vl.ty=1∨e.vl.ty=2∨e.vl.ty=3) with h1|h1|h1
     ·have hnb:=right_int hr h1
      have HT2:=zZ (show e.text=Lib.itoa e.vl.n by rw[HT.out];unfold tx;rw[if_pos rfl,if_pos h1])
      rw[huw,if_pos h1]at UW
      clear huw h1 hr HT hty
      generalize e.vl.n=m at *
      go_wp2_with fail
      refine(UW.out _).mono ?_
      rintro r w1 ⟨rfl,hE2⟩
      unfold Va.v
      go_wp2_with fail
      refine(itoa_any m ⟨by omega,by omega⟩ _ (HTB.out.ext (hEa.trans hE2))).mono ?_
      rintro r w2 ⟨rfl,hE3⟩
      go_wp2_with fail
      go_ret
      exact⟨by rw[HT2.out];rfl,(hEa.trans hE2).trans hE3⟩
     ·have HT2:=zZ (show e.text=Lib.formatBool e.vl.b by rw[HT.out];unfold tx;rw[if_pos rfl,if_neg (by omega),if_pos h1];cases e.vl.b<;>rfl)
      rw[huw,if_neg (by omega),if_pos h1]at UW
      clear huw h1 hr HT hty
      generalize e.vl.b=m at *
      go_wp2_with fail
      refine(UW.out _).mono ?_
      rintro r w1 ⟨rfl,hE2⟩
      unfold Va.v
      go_wp2_with fail
      refine(Tryz.strconv_FormatBool m _).mono ?_
      rintro r w2 ⟨rfl,rfl⟩
      go_wp2_with fail
      go_ret
      exact⟨by rw[HT2.out];rfl,hEa.trans hE2⟩
     ·have htt:=right_txt hr h1
      have HT2:=zZ (show sv e.text=sv [34]++sv e.vl.s++sv [34] by rw[HT.out];unfold tx;rw[if_pos rfl,if_neg (by omega),if_neg (by omega),sv_app,sv_app];rfl)
      rw[huw,if_neg (by omega),if_neg (by omega)]at UW
      have hbs:(sv e.vl.s).size≤24:=by rw[sv_size];exact htt.1
      have hVv:(Va.txt e.vl.s).v=.iface 9 (.string (sv e.vl.s)):=rfl
      rw[hVv]at UW
      have c1:(⟨#[34]⟩:ByteArray).size≤1:=by decide
      clear huw h1 hr HT hty htt hVv
      generalize sv e.vl.s=B at *
      go_wp2_with fail
      refine(UW.out _).mono ?_
      rintro r w1 ⟨rfl,hE2⟩
      go_wp2_with fail
      go_ret
      exact⟨by rw[HT2.out];rfl,hEa.trans hE2⟩
    ·obtain⟨j,hj⟩ :∃j:Nat,e.var=(j:Int)+1:=⟨(e.var-1).toNat,by omega⟩
     have hj9:j<9:=by omega
     have HT:=zZ (show e.text=nmL.getD j [] by rw[HV.out,h6];unfold tx;rw[if_neg (by omega),if_pos rfl,hj];congr 1;omega)
     rw[h6]at y0
     rw[hj]at y1
     have hlw:w.heap.size<wr.heap.size:=zU hlt0 hE.sz
     clear h6 hl hr hj
     go_wp2_with fail
     apply wp_region_seq (l:=[_,_,_,_]) (t:=[_,_,_]) [some 56,some 57,some 58,some 59,some 60,some 61,some 2] [[],[],[1],[2],[0,3],[4],[5]] [4,2,3,4] [(slS wr.heap.size nmL),eqv _,eqv _,eqv _] (by kernel_rfl) (by kernel_rfl) ⟨?o0,?o1,?o2,?o3,trivial⟩ ?last
     case o0=>
      intro xv W hE _
      simp only[putD,zC,zE]
      refine OpGoal.plain ?_
      go_wp2_with fail
      refine(names_any _).mono ?_
      rintro r w' ⟨rfl,hrow,hE5⟩
      go_wp2_with fail
      exact⟨rfl,hE5,_,rfl,by have:=hE.sz;simpa using this,hrow⟩
     case o1=>
      intro xv W hE _
      simp only[putD,zC,zE,zD]
      refine OpGoal.plain ?_
      go_wp2_with fail
      exact⟨rfl,Ext.refl _,rfl⟩
     case o2=>
      intro xv W hE hp
      have r1:xv 1=_:=hp.1
      clear hp
      have y1w:=(((Ext.drew wr).trans hE).old (p:=⟨w.heap.size,1,none⟩) hlw).trans y1
      simp only[putD,zC,zB,zE,zD,Act.put,zO,zQ,zP]
      refine OpGoal.plain ?_
      go_wp2_with fail
      exact⟨rfl,Ext.refl _,rfl⟩
     case o3=>
      intro xv W hE hp
      have r2:xv 2=_:=hp.1
      clear hp
      simp only[putD,zC,zB,zE,zD,Act.put,zO,zQ,zP]
      refine OpGoal.plain ?_
      go_wp2_with fail
      exact⟨rfl,Ext.refl _,rfl⟩
     case last=>
      intro xv W hE hp
      have r0:=hp.1
      have r1:xv 1=_:=hp.2.1
      have r2:xv 2=_:=hp.2.2.1
      have r3:xv 3=_:=hp.2.2.2.1
      clear hp
      simp only[putD,zC,zB,zE,zD,Act.put,zH,zJ,zM,zN,zL,zA,zO,zQ,zP]
      obtain⟨g,e0,hg,hrow⟩:=r0
      have hEw:Ext wr W:=(Ext.drew wr).trans hE
      have z:=hrow.2 j hj9
      rw[e0,r3]
      have h9:nmL.length=9:=rfl
      simp only[h9]
      clear r1 r2 r3 e0 hrow h9
      go_wp2_with fail
      go_ret
      exact⟨by rw[HT.out];rfl,hEa.trans hEw⟩
    ·obtain rfl:n=1:=by rw[←HN.out,hl];rfl
     obtain⟨bb,hA1,hbb,z0⟩:=HRD.out 0 a (by rw[hl];rfl)
     subst hA1
     have HT:=zZ (show sv e.text=sv (tNot++[32])++sv a.piece by rw[HV.out,h6,hl,sv_app];simp[tx,Ex.pieces_map])
     have hbs:(sv a.piece).size<1073741824:=by
      have h1:=piece_len a
      have h2:=text_len ha
      have h3:=HSZ.out
      have h4:a.size≤e.size:=by have:=Ex.kid_size (e:=e) (k:=0) (by rw[hl];simp);simpa[hl]using this
      rw[sv_size];omega
     rw[h6]at y0
     clear h6 hl ha
     generalize sv a.piece=B at *
     have c1:(⟨#[110,111,116,32]⟩:ByteArray).size≤4:=by decide
     go_wp2_with fail
     go_ret
     exact⟨by rw[HT.out];rfl,hEa⟩
    ·obtain rfl:n=2:=by rw[←HN.out,hl];rfl
     obtain⟨bb,hA1,hbb,z0⟩:=HRD.out 0 a (by rw[hl];rfl)
     obtain⟨b2,hA2,_,z1⟩:=HRD.out 1 b (by rw[hl];rfl)
     subst hA1
     obtain rfl:bb=b2:=by simpa using hA2
     have HT:=zZ (two_text h6 hl)
     have s0:=kid_piece HSZ.out ha (by rw[hl];simp)
     have s1:=kid_piece HSZ.out hb (by rw[hl];simp)
     obtain⟨j,hj⟩ :∃j:Nat,e.op=(j:Int)+4:=⟨(e.op-4).toNat,by omega⟩
     have hj9:j<9:=by omega
     have hj4:(e.op-4).toNat=j:=by omega
     rw[hj4]at HT
     have s2:(sv (wdL.getD j [])).size≤3:=by rw[sv_size];exact wd_len j
     rw[hj]at y0
     have e1:(((j:Int)+4) == 1)=false:=int_ne (by omega)
     have e2:(((j:Int)+4) == 2)=false:=int_ne (by omega)
     have e3:(((j:Int)+4) == 3)=false:=int_ne (by omega)
     have e13:(((j:Int)+4) == 13)=false:=int_ne (by omega)
     have hlw:w.heap.size<wr.heap.size:=zU hlt0 HEr.out.sz
     clear h6 hl ha hb hA2 hj hj4
     have HS:=zZ (show wdL.getD j []=wdL.getD j [] from rfl)
     generalize hB0:sv a.piece=B0 at *
     generalize hB1:sv b.piece=B1 at *
     obtain⟨B2,hB2⟩ :∃B2,sv (wdL.getD j [])=B2:=⟨_,rfl⟩
     have HB2:=zZ hB2
     rw[hB2]at s2 HT
     clear hB0 hB1 hB2
     have k1:(⟨#[32]⟩:ByteArray).size≤1:=by decide
     go_wp2_with fail
     apply wp_region_seq (l:=[_,_,_,_,_,_,_,_,_,_,_,_,_,_,_]) (t:=[_,_]) [some 84,some 85,some 86,some 87,some 88,some 89,some 90,some 91,some 92,some 93,some 94,some 95,some 96,some 97,some 98,some 99,some 2] [[],[0],[1],[2],[],[],[5],[6],[4,7],[8],[3,9],[10],[],[12],[13],[11,14],[15]] [1,2,3,10,8,6,7,8,9,10,11,15,13,14,15] [eqv _,eqv _,eqv _,eqv _,(slS wr.heap.size wdL),eqv _,eqv _,eqv _,(ptS B2),eqv _,eqv _,eqv _,eqv _,eqv _,eqv _] (by kernel_rfl) (by kernel_rfl) ⟨?o0,?o1,?o2,?o3,?o4,?o5,?o6,?o7,?o8,?o9,?o10,?o11,?o12,?o13,?o14,trivial⟩ ?last
     case o0|o1|o5|o12|o13=>
      intro xv W hE hp
      try have q0:xv _=_:=hp.1
      try have q1:xv _=_:=hp.2.1
      clear hp
      simp only[putD,zC,zB,zE,zD,Act.put,zO,zQ,zP]
      refine OpGoal.plain ?_
      go_wp2_with fail
      exact⟨rfl,Ext.refl _,rfl⟩
     case o2|o6|o14=>
      intro xv W hE hp
      try have q0:xv _=_:=hp.1
      try have q1:xv _=_:=hp.2.1
      clear hp
      have y0w:=(((Ext.drew wr).trans hE).old (p:=⟨w.heap.size,0,none⟩) hlw).trans y0
      have z0w:=(((Ext.drew wr).trans hE).old (p:=⟨bb,0,none⟩) hbb).trans z0
      have z1w:=(((Ext.drew wr).trans hE).old (p:=⟨bb,1,none⟩) hbb).trans z1
      simp only[putD,zC,zB,zE,zD,Act.put,zO,zQ,zP]
      refine OpGoal.plain ?_
      go_wp2_with fail
      exact⟨rfl,Ext.refl _,rfl⟩
     case o3|o7=>
      intro xv W hE hp
      try have q0:xv _=_:=hp.1
      try have q1:xv _=_:=hp.2.1
      clear hp
      simp only[putD,zC,zB,zE,zD,Act.put,zO,zQ,zP]
      refine OpGoal.plain ?_
      go_wp2_with fail
      exact⟨rfl,Ext.refl _,rfl⟩
     case o4=>
      intro xv W hE _
      simp only[putD,zC,zE,zD]
      refine OpGoal.plain ?_
      go_wp2_with fail
      refine(words_any _).mono ?_
      rintro r w' ⟨rfl,hrow,hE5⟩
      go_wp2_with fail
      exact⟨rfl,hE5,_,rfl,by have:=hE.sz;simpa using this,hrow⟩
     case o8=>
      intro xv W hE hp
      have r4:=hp.1
      have r7:xv 7=_:=hp.2.1
      clear hp
      obtain⟨g,e4,hg,hrow⟩:=r4
      have hz:=hrow.2 j hj9
      have hz1:=hrow.1
      have HZ:=zZ (show W.cell? ⟨g,j,none⟩=some (.string B2) by rw[←HB2.out];exact hz)
      have h9:wdL.length=9:=rfl
      rw[h9]at e4
      clear hz hrow h9
      simp only[putD,zC,zB,zE,zD,Act.put,zO,zQ,zP]
      refine OpGoal.plain ?_
      go_wp2_with fail
      exact⟨rfl,Ext.refl _,_,rfl,hz1,HZ.out⟩
     case o9=>
      intro xv W hE hp
      have r8:=hp.1
      clear hp
      have y0w:=(((Ext.drew wr).trans hE).old (p:=⟨w.heap.size,0,none⟩) hlw).trans y0
      have z0w:=(((Ext.drew wr).trans hE).old (p:=⟨bb,0,none⟩) hbb).trans z0
      have z1w:=(((Ext.drew wr).trans hE).old (p:=⟨bb,1,none⟩) hbb).trans z1
      obtain⟨ad,e8,hb8,hc8⟩:=r8
      simp only[putD,zC,zB,zE,zD,Act.put,zO,zQ,zP]
      refine OpGoal.plain ?_
      go_wp2_with fail
      exact⟨rfl,Ext.refl _,rfl⟩
     case o10|o11=>
      intro xv W hE hp
      try have q0:xv _=_:=hp.1
      try have q1:xv _=_:=hp.2.1
      clear hp
      simp only[putD,zC,zB,zE,zD,Act.put,zO,zQ,zP]
      refine OpGoal.plain ?_
      go_wp2_with fail
      exact⟨rfl,Ext.refl _,rfl⟩
     case last=>
      intro xv W hE hp
      have r0:xv 0=_:=hp.1
      have r1:xv 1=_:=hp.2.1
      have r2:xv 2=_:=hp.2.2.1
      have r3:xv 3=_:=hp.2.2.2.1
      have r4:=hp.2.2.2.2.1
      have r5:xv 5=_:=hp.2.2.2.2.2.1
      have r6:xv 6=_:=hp.2.2.2.2.2.2.1
      have r7:xv 7=_:=hp.2.2.2.2.2.2.2.1
      have r8:=hp.2.2.2.2.2.2.2.2.1
      have r9:xv 9=_:=hp.2.2.2.2.2.2.2.2.2.1
      have r10:xv 10=_:=hp.2.2.2.2.2.2.2.2.2.2.1
      have r11:xv 11=_:=hp.2.2.2.2.2.2.2.2.2.2.2.1
      have r12:xv 12=_:=hp.2.2.2.2.2.2.2.2.2.2.2.2.1
      have r13:xv 13=_:=hp.2.2.2.2.2.2.2.2.2.2.2.2.2.1
      have r14:xv 14=_:=hp.2.2.2.2.2.2.2.2.2.2.2.2.2.2.1
      clear hp
      simp only[putD,zC,zB,zE,zD,Act.put,zH,zJ,zM,zN,zL,zA,zO,zQ,zP]
      have hEw:Ext wr W:=(Ext.drew wr).trans hE
      rw[r11,r14]
      clear r0 r1 r2 r3 r4 r5 r6 r7 r8 r9 r10 r11 r12 r13 r14
      go_wp2_with fail
      go_ret
      exact⟨by rw[HT.out];rfl,hEa.trans hEw⟩
    ·obtain rfl:n=3:=by rw[←HN.out,hl];rfl
     obtain⟨bb,hA1,hbb,z0⟩:=HRD.out 0 a (by rw[hl];rfl)
     obtain⟨b2,hA2,_,z1⟩:=HRD.out 1 b (by rw[hl];rfl)
     obtain⟨b3,hA3,_,z2⟩:=HRD.out 2 c' (by rw[hl];rfl)
     subst hA1
     obtain rfl:bb=b2:=by simpa using hA2
     obtain rfl:bb=b3:=by simpa using hA3
     have HT:=zZ (show sv e.text=sv (tIf++[32])++sv a.piece++sv ([32]++tThen++[32])++sv b.piece++sv ([32]++tElse++[32])++sv c'.piece by rw[HV.out,h6,hl,sv_app,sv_app,sv_app,sv_app,sv_app];simp[tx,Ex.pieces_map])
     have hks :∀y s,Rt y s→y∈e.l→(sv y.piece).size<1073741824:=fun y s hy hm=>by
      have h1:=piece_len y
      have h2:=text_len hy
      have h3:=HSZ.out
      have h4:=Ex.size_mem hm
      have h5:=e.kids_lt
      rw[sv_size];omega
     have s0:=hks a _ ha (by rw[hl];simp)
     have s1:=hks b _ hb (by rw[hl];simp)
     have s2:=hks c' _ hc (by rw[hl];simp)
     rw[h6]at y0
     clear h6 hl ha hb hc hks hA2 hA3
     generalize sv a.piece=B0 at *
     generalize sv b.piece=B1 at *
     generalize sv c'.piece=B2 at *
     have k1:(⟨#[105,102,32]⟩:ByteArray).size≤3:=by decide
     have k2:(⟨#[32,116,104,101,110,32]⟩:ByteArray).size≤6:=by decide
     have k3:(⟨#[32,101,108,115,101,32]⟩:ByteArray).size≤6:=by decide
     go_wp2_with fail
     go_quiet (fail)
     go_wp2_with fail
     go_ret
     exact⟨by rw[HT.out];rfl,hEa.trans (ext_dn _ _)⟩
end Go.Proofs.YtmiencglfhpmeaaGreatDoor
namespace Go.Proofs.YtmiencglfhpmeaaGreatDoor
open Go.RowKit Hach
def rTextC (d:Nat):Prop :=∀(e:Ex) (t:Int) (A:Option Addr) (c:Nat) (w:World),Rt e t→ExB w w.heap.size d A e.l→e.size<1048576 →
  Calls Tryz.prog 109 #[.agg (e.cells A c).toArray] w fun r w'=>r=.returned (.string (sv e.text))∧Ext w w'
theorem leaf_iff {e:Ex}{t:Int}(h:Rt e t):e.l.isEmpty=(decide (e.op=1)||decide (e.op=2)):=by
 rcases h.inv5 with⟨h6,hl,hr⟩|⟨h6,hl,hr⟩|⟨h6,a,_,hl,ha⟩|⟨h6,a,b,_,_,hl,ha,hb⟩|⟨h6,a,b,c',_,_,_,hl,ha,hb,hc⟩
 ·simp[h6,hl]
 ·simp[h6,hl]
 ·simp[h6,hl]
 ·rw[hl,decide_eq_false (by omega),decide_eq_false (by omega)];rfl
 ·simp[h6,hl]
set_option maxRecDepth 100000 in
set_option maxHeartbeats 2000000 in
theorem piece_of {d:Nat}(h:rTextC d) (e:Ex) (t:Int) (A:Option Addr) (c:Nat) (w:World) (hrt:Rt e t) (hX:ExB w w.heap.size d A e.l) (hsz:e.size<1048576) :
  Calls Tryz.prog 132 #[.agg (e.cells A c).toArray] w fun r w'=>r=.returned (.string (sv e.piece))∧Ext w w':=by
 have HC:=zZ (fun(W:World) (hE:Ext w W)=>h e t A c W hrt (hX.ext hE) hsz)
 obtain⟨w0,hw0⟩ :∃w0,w.alloc (.cells (e.cells A c).toArray 47)=w0:=⟨_,rfl⟩
 have hE0:Ext w w0:=by rw[←hw0];exact Ext.alloc _ _
 have hBx:Box w0 w.heap.size e A c:=by rw[←hw0];exact Box.new w e A c 47
 have hlf:=leaf_iff hrt
 have HPC:=zZ (show e.piece=if e.l.isEmpty then e.text else 40::(e.text++[41]) from rfl)
 have hbs:(sv e.text).size<1073741824:=by rw[sv_size];have:=text_len hrt;omega
 unfold Ex.cells at hw0 HC ⊢
 have HW:=zZ hw0
 obtain⟨_,y0,y1,y2,y3,y4,y5,y6⟩:=hBx
 generalize hB:sv e.text=B at *
 have HB:=zZ hB
 have c1:(⟨#[40]⟩:ByteArray).size≤1:=by decide
 have c2:(⟨#[41]⟩:ByteArray).size≤1:=by decide
 clear hw0 hX hsz hrt h hB
 by_cases h1:e.op=1
 ·have t1:(e.op == 1)=true:=by simp[h1]
  have HX:=zZ (show B=sv e.piece by rw[HPC.out,hlf,h1,←HB.out];rfl)
  clear h1 hlf
  go_enter Tryz.func132,Tryz.ntmps132
  go_upto_region 1 with fail
  rw[HW.out]
  go_wp2_with fail
  refine(HC.out _ hE0).mono ?_
  rintro r w1 ⟨rfl,hE1⟩
  go_wp2_with fail
  go_ret
  exact⟨by rw[←HX.out];rfl,hE0.trans hE1⟩
 ·have t1:(e.op == 1)=false:=by simpa using h1
  by_cases h2:e.op=2
  ·have t2:(e.op == 2)=true:=by simp[h2]
   have HX:=zZ (show B=sv e.piece by rw[HPC.out,hlf,h2,←HB.out];rfl)
   clear h1 h2 hlf
   go_enter Tryz.func132,Tryz.ntmps132
   go_upto_region 1 with fail
   rw[HW.out]
   go_wp2_with fail
   refine(HC.out _ hE0).mono ?_
   rintro r w1 ⟨rfl,hE1⟩
   go_wp2_with fail
   go_ret
   exact⟨by rw[←HX.out];rfl,hE0.trans hE1⟩
  ·have t2:(e.op == 2)=false:=by simpa using h2
   have HX:=zZ (show(⟨#[40]⟩++B++⟨#[41]⟩:ByteArray)=sv e.piece by
    rw[HPC.out,hlf,decide_eq_false h1,decide_eq_false h2,←HB.out]
    show sv [40]++sv e.text++sv [41]=_
    rw[sv_app,sv_app];rfl)
   clear h1 h2 hlf
   go_enter Tryz.func132,Tryz.ntmps132
   go_upto_region 1 with fail
   rw[HW.out]
   go_wp2_with fail
   refine(HC.out _ hE0).mono ?_
   rintro r w1 ⟨rfl,hE1⟩
   go_wp2_with fail
   go_ret
   exact⟨by rw[←HX.out];rfl,hE0.trans hE1⟩
set_option maxRecDepth 100000 in
set_option maxHeartbeats 8000000 in
theorem rText_any (d:Nat):rTextC d:=by
 induction d using Nat.strongRecOn with
 | _ d ih=>
  intro e t A c w hrt hX hsz
  have HRT:=zZ hrt
  have HSZ:=zZ hsz
  have hlen:=hrt.len3
  have HV:=zZ e.text_eq
  obtain⟨w0,hw0⟩ :∃w0,w.alloc (.cells (e.cells A c).toArray 47)=w0:=⟨_,rfl⟩
  have hE0:Ext w w0:=by rw[←hw0];exact Ext.alloc _ _
  have hBx:Box w0 w.heap.size e A c:=by rw[←hw0];exact Box.new w e A c 47
  have HW:=zZ hw0
  have hlt0:=hBx.lt
  have HBx:=zZ hBx
  obtain⟨_,y0,y1,y2,y3,y4,y5,y6⟩:=hBx
  have HIH:Hid (∀(j:Nat) (hj:j<e.l.length) (B:ByteArray),sv (e.l[j]).piece=B →∃b o A' c',A=some ⟨b,o,none⟩∧b<w.heap.size∧One w b (o+j*7) (e.l[j]) A' c' ∧∀W,Ext w W→Calls Tryz.prog 132 #[.agg ((e.l[j]).cells A' c').toArray] W fun r w'=>r=.returned (.string B)∧Ext W w'):=zZ fun j hj B hB=>by
   obtain⟨b,o,A',c',d',hd,hA,hb,hX',hOne⟩:=hX.at_ hj
   obtain⟨s,hs⟩:=HRT.out.kid hj
   subst hB
   exact⟨b,o,A',c',hA,hb,hOne,fun W hW=>piece_of (ih d' (by omega)) _ s A' c' W hs (hX'.ext hW) (zT (Ex.kid_size hj) HSZ.out)⟩
  unfold Ex.cells
  unfold Ex.cells at HW
  clear hw0 hrt hsz hX ih
  go_enter Tryz.func109,Tryz.ntmps109
  go_upto_region 1 with fail
  rw[HW.out]
  have hiv:=HRT.out.inv5
  rcases hiv with⟨h6,hl,hr⟩|⟨h6,hl,hr⟩|⟨h6,a,_,hl,ha⟩|⟨h6,a,b,_,_,hl,ha,hb⟩|⟨h6,a,b,c',_,_,_,hl,ha,hb,hc⟩
  ·have HT:=zZ (show e.text=tx 1 e.var e.vl [] by rw[HV.out,h6,hl];rfl)
   have hty:=right_ty hr
   rw[h6]at y0
   clear h6 hl
   rcases(by omega:e.vl.ty=1∨e.vl.ty=2∨e.vl.ty=3) with h1|h1|h1
   ·obtain⟨n1,n2⟩:=right_int hr h1
    have HT2:=zZ (show e.text=Lib.itoa e.n by rw[HT.out];unfold tx;rw[if_pos rfl,if_pos h1];rfl)
    rw[show e.ty=1 from h1]at y2
    have n1' : -1073741824≤e.n:=n1
    have n2':e.n≤1073741824:=n2
    clear h1 hr HT hty n1 n2
    go_wp2_with fail
    refine(decimal_any e.n n1' n2' _).mono ?_
    rintro r w1 ⟨rfl,hE1⟩
    go_wp2_with fail
    go_ret
    exact⟨by rw[HT2.out];rfl,hE0.trans hE1⟩
   ·have HT2:=zZ (show e.text=if e.b=true then tTrue else tFalse by rw[HT.out];unfold tx;rw[if_pos rfl,if_neg (by omega),if_pos h1];rfl)
    rw[show e.ty=2 from h1]at y2
    clear h1 hr HT hty
    generalize e.b=m at *
    cases m
    all_goals
     go_wp2_with fail
     go_ret
     exact⟨by rw[HT2.out];rfl,hE0⟩
   ·have htt:=right_txt hr h1
    have HT2:=zZ (show sv e.text=sv [34]++sv e.s++sv [34] by rw[HT.out];unfold tx;rw[if_pos rfl,if_neg (by omega),if_neg (by omega),sv_app,sv_app];rfl)
    have hbs:(sv e.s).size≤24:=by rw[sv_size];exact htt.1
    rw[show e.ty=3 from h1]at y2
    have y5b:w0.cell? ⟨w.heap.size,5,none⟩=some (.string (sv e.s)):=y5
    have c1:(⟨#[34]⟩:ByteArray).size≤1:=by decide
    clear h1 hr HT hty htt y5
    generalize sv e.s=B at *
    go_wp2_with fail
    go_ret
    exact⟨by rw[HT2.out];rfl,hE0⟩
  ·obtain⟨j,hj⟩ :∃j:Nat,e.var=(j:Int)+1:=⟨(e.var-1).toNat,by omega⟩
   have hj9:j<9:=by omega
   have HT:=zZ (show e.text=nmL.getD j [] by rw[HV.out,h6];unfold tx;rw[if_neg (by omega),if_pos rfl,hj];congr 1;omega)
   rw[h6]at y0
   rw[hj]at y1
   clear h6 hl hr hj
   go_wp2_with fail
   apply wp_region_seq (l:=[_,_,_,_]) (t:=[_,_,_]) [some 28,some 29,some 30,some 31,some 32,some 33,some 2] [[],[],[1],[2],[0,3],[4],[5]] [4,2,3,4] [(slS w0.heap.size nmL),eqv _,eqv _,eqv _] (by kernel_rfl) (by kernel_rfl) ⟨?o0,?o1,?o2,?o3,trivial⟩ ?last
   case o0=>
    intro xv W hE _
    simp only[putD,zC,zE]
    refine OpGoal.plain ?_
    go_wp2_with fail
    refine(rNames_any _).mono ?_
    rintro r w' ⟨rfl,hrow,hE5⟩
    go_wp2_with fail
    exact⟨rfl,hE5,_,rfl,by have:=hE.sz;simpa using this,hrow⟩
   case o1=>
    intro xv W hE _
    simp only[putD,zC,zE,zD]
    refine OpGoal.plain ?_
    go_wp2_with fail
    exact⟨rfl,Ext.refl _,rfl⟩
   case o2=>
    intro xv W hE hp
    have r1:xv 1=_:=hp.1
    clear hp
    have y1w:=(((Ext.drew w0).trans hE).old (p:=⟨w.heap.size,1,none⟩) hlt0).trans y1
    simp only[putD,zC,zB,zE,zD,Act.put,zO,zQ,zP]
    refine OpGoal.plain ?_
    go_wp2_with fail
    exact⟨rfl,Ext.refl _,rfl⟩
   case o3=>
    intro xv W hE hp
    have r2:xv 2=_:=hp.1
    clear hp
    simp only[putD,zC,zB,zE,zD,Act.put,zO,zQ,zP]
    refine OpGoal.plain ?_
    go_wp2_with fail
    exact⟨rfl,Ext.refl _,rfl⟩
   case last=>
    intro xv W hE hp
    have r0:=hp.1
    have r1:xv 1=_:=hp.2.1
    have r2:xv 2=_:=hp.2.2.1
    have r3:xv 3=_:=hp.2.2.2.1
    clear hp
    simp only[putD,zC,zB,zE,zD,Act.put,zH,zJ,zM,zN,zL,zA,zO,zQ,zP]
    obtain⟨g,e0,hg,hrow⟩:=r0
    have hEw:Ext w0 W:=(Ext.drew w0).trans hE
    have z:=hrow.2 j hj9
    rw[e0,r3]
    have h9:nmL.length=9:=rfl
    simp only[h9]
    clear r1 r2 r3 e0 hrow h9
    go_wp2_with fail
    go_ret
    exact⟨by rw[HT.out];rfl,hE0.trans hEw⟩
  ·have h01:0<e.l.length:=by rw[hl];simp
   have HT:=zZ (show sv e.text=sv (tNot++[32])++sv (e.l[0]).piece by rw[HV.out,h6,sv_app];unfold tx;rw[Ex.pieces_map];simp[List.getD,h01])
   obtain⟨s,hs⟩:=HRT.out.kid h01
   have hbs:=kid_piece HSZ.out hs (zG h01)
   obtain⟨B,hB⟩ :∃B,sv (e.l[0]).piece=B:=⟨_,rfl⟩
   rw[hB]at hbs HT
   obtain⟨b,o,A',c',rfl,hb,hOne,hC⟩:=HIH.out 0 h01 B hB
   obtain⟨q7,q8,q9,q10,q11,q12,q13⟩:=hOne.ext hb hE0
   simp only[zY,zV,zS,zX,zR,zW]at q7 q8 q9 q10 q11 q12 q13
   simp only[Ex.cells]at hC
   have HC:=zZ hC
   have c1:(⟨#[110,111,116,32]⟩:ByteArray).size≤4:=by decide
   rw[h6]at y0
   clear hC hOne hb h6 hl ha hs hB
   generalize e.l[0]=y at *
   go_wp2_with fail
   refine(HC.out _ hE0).mono ?_
   rintro r w1 ⟨rfl,hE1⟩
   go_wp2_with fail
   go_ret
   exact⟨by rw[HT.out];rfl,hE0.trans hE1⟩
  ·have h01:1<e.l.length:=by rw[hl];simp
   obtain⟨j,hj⟩ :∃j:Nat,e.op=(j:Int)+4:=⟨(e.op-4).toNat,by omega⟩
   have hj9:j<9:=by omega
   have hj4:(e.op-4).toNat=j:=by omega
   have h00:0<e.l.length:=by omega
   have HT:=zZ (show sv e.text=sv (e.l[0]).piece++sv [32]++sv (wdL.getD j [])++sv [32]++sv (e.l[1]).piece by
    rw[two_text h6 hl,hj4]
    simp[hl])
   have h6':=hj
   have e1:(((j:Int)+4) == 1)=false:=int_ne (by omega)
   have e2:(((j:Int)+4) == 2)=false:=int_ne (by omega)
   have e3:(((j:Int)+4) == 3)=false:=int_ne (by omega)
   have e13:(((j:Int)+4) == 13)=false:=int_ne (by omega)
   have h00:0<e.l.length:=by rw[hl];simp
   obtain⟨_,hs0⟩:=HRT.out.kid h00
   have s0:=kid_piece HSZ.out hs0 (zG h00)
   have h01:1<e.l.length:=by rw[hl];simp
   obtain⟨_,hs1⟩:=HRT.out.kid h01
   have s1:=kid_piece HSZ.out hs1 (zG h01)
   obtain⟨B0,hB0⟩ :∃B,sv (e.l[0]).piece=B:=⟨_,rfl⟩
   rw[hB0]at s0 HT
   obtain⟨b,o,A0,c0,hA,hb0,hO0,hC0⟩:=HIH.out 0 h00 B0 hB0
   simp only[Ex.cells]at hC0
   have HC0:=zZ hC0
   have HO0:=zZ hO0
   subst hA
   obtain⟨B1,hB1⟩ :∃B,sv (e.l[1]).piece=B:=⟨_,rfl⟩
   rw[hB1]at s1 HT
   obtain⟨b1,o1,A1,c1,hA1,hb1,hO1,hC1⟩:=HIH.out 1 h01 B1 hB1
   simp only[Ex.cells]at hC1
   have HC1:=zZ hC1
   have HO1:=zZ hO1
   obtain⟨rfl,rfl⟩:b=b1∧o=o1:=by simpa using hA1
   rw[h6']at y0
   have hbw:b<w.heap.size:=hb0
   have hl0:0<e.l.length:=h00
   have hl1:1<e.l.length:=h01
   clear h6 hl ha hb hC0 hO0 hB0 hs0 hb0 hC1 hO1 hB1 hs1 hb1 hA1
   generalize e.l[0]=x0 at *
   generalize e.l[1]=x1 at *
   clear h6' hj hj4
   have sw:(sv (wdL.getD j [])).size≤3:=by rw[sv_size];exact wd_len j
   obtain⟨Bw,hBw⟩ :∃Bw,sv (wdL.getD j [])=Bw:=⟨_,rfl⟩
   have HBw:=zZ hBw
   rw[hBw]at sw HT
   clear hBw
   have k1:(⟨#[32]⟩:ByteArray).size≤1:=by decide
   go_wp2_with fail
   apply wp_region_seq (l:=[_,_,_,_,_,_,_,_,_,_,_,_,_,_,_,_,_,_,_]) (t:=[_,_]) [some 64,some 65,some 66,some 67,some 68,some 69,some 70,some 71,some 72,some 73,some 74,some 75,some 76,some 77,some 78,some 79,some 80,some 81,some 82,some 83,some 2] [[],[0],[1],[2],[3],[4],[],[],[7],[8],[6,9],[10],[5,11],[12],[],[14],[15],[16],[17],[13,18],[19]] [1,2,3,4,6,12,18,8,9,10,11,12,13,19,15,16,17,18,19] [eqv _,eqv _,eqv _,eqv _,(eqv (.string B0)),eqv _,(slS w0.heap.size wdL),eqv _,eqv _,eqv _,(ptS Bw),eqv _,eqv _,eqv _,eqv _,eqv _,eqv _,eqv _,(eqv (.string B1))] (by kernel_rfl) (by kernel_rfl) ⟨?o0,?o1,?o2,?o3,?o4,?o5,?o6,?o7,?o8,?o9,?o10,?o11,?o12,?o13,?o14,?o15,?o16,?o17,?o18,trivial⟩ ?last
   case o0|o7|o14=>
    intro xv W hE hp
    try have q0:xv _=_:=hp.1
    try have q1:xv _=_:=hp.2.1
    clear hp
    simp only[putD,zC,zB,zE,zD,Act.put,zO,zQ,zP]
    refine OpGoal.plain ?_
    go_wp2_with fail
    exact⟨rfl,Ext.refl _,rfl⟩
   case o1|o8|o15=>
    intro xv W hE hp
    try have q0:xv _=_:=hp.1
    try have q1:xv _=_:=hp.2.1
    clear hp
    have hEw:Ext w0 W:=(Ext.drew w0).trans hE
    have y0w:=(hEw.old (p:=⟨w.heap.size,0,none⟩) hlt0).trans y0
    have y6w:=(hEw.old (p:=⟨w.heap.size,6,none⟩) hlt0).trans y6
    obtain⟨q00,q01,q02,q03,q04,q05,q06⟩:=HO0.out.ext hbw (hE0.trans hEw)
    simp only[zY,zV,zS,zX,zR,zW]at q00 q01 q02 q03 q04 q05 q06
    obtain⟨q10,q11,q12,q13,q14,q15,q16⟩:=HO1.out.ext hbw (hE0.trans hEw)
    simp only[zY,zV,zS,zX,zR,zW]at q10 q11 q12 q13 q14 q15 q16
    simp only[putD,zC,zB,zE,zD,Act.put,zO,zQ,zP]
    refine OpGoal.plain ?_
    go_wp2_with fail
    exact⟨rfl,Ext.refl _,rfl⟩
   case o2|o9|o16=>
    intro xv W hE hp
    try have q0:xv _=_:=hp.1
    try have q1:xv _=_:=hp.2.1
    clear hp
    simp only[putD,zC,zB,zE,zD,Act.put,zO,zQ,zP]
    refine OpGoal.plain ?_
    go_wp2_with fail
    exact⟨rfl,Ext.refl _,rfl⟩
   case o3|o17=>
    intro xv W hE hp
    try have q0:xv _=_:=hp.1
    try have q1:xv _=_:=hp.2.1
    clear hp
    have hEw:Ext w0 W:=(Ext.drew w0).trans hE
    have y0w:=(hEw.old (p:=⟨w.heap.size,0,none⟩) hlt0).trans y0
    have y6w:=(hEw.old (p:=⟨w.heap.size,6,none⟩) hlt0).trans y6
    obtain⟨q00,q01,q02,q03,q04,q05,q06⟩:=HO0.out.ext hbw (hE0.trans hEw)
    simp only[zY,zV,zS,zX,zR,zW]at q00 q01 q02 q03 q04 q05 q06
    obtain⟨q10,q11,q12,q13,q14,q15,q16⟩:=HO1.out.ext hbw (hE0.trans hEw)
    simp only[zY,zV,zS,zX,zR,zW]at q10 q11 q12 q13 q14 q15 q16
    simp only[putD,zC,zB,zE,zD,Act.put,zO,zQ,zP]
    refine OpGoal.plain ?_
    go_wp2_with fail
    exact⟨rfl,Ext.refl _,rfl⟩
   case o4=>
    intro xv W hE hp
    have r3:xv 3=_:=hp.1
    clear hp
    simp only[putD,zC,zB,zE,zD,Act.put,zO,zQ,zP]
    refine OpGoal.plain ?_
    go_wp2_with fail
    refine(HC0.out _ (hE0.trans ((Ext.drew w0).trans hE))).mono ?_
    rintro r w' ⟨rfl,hE5⟩
    go_wp2_with fail
    exact⟨rfl,hE5,rfl⟩
   case o5=>
    intro xv W hE hp
    have r4:xv 4=_:=hp.1
    clear hp
    simp only[putD,zC,zB,zE,zD,Act.put,zO,zQ,zP]
    refine OpGoal.plain ?_
    go_wp2_with fail
    exact⟨rfl,Ext.refl _,rfl⟩
   case o6=>
    intro xv W hE _
    simp only[putD,zC,zE,zD]
    refine OpGoal.plain ?_
    go_wp2_with fail
    refine(rOps_any _).mono ?_
    rintro r w' ⟨rfl,hrow,hE5⟩
    go_wp2_with fail
    exact⟨rfl,hE5,_,rfl,by have:=hE.sz;simpa using this,hrow⟩
   case o10=>
    intro xv W hE hp
    have r6:=hp.1
    have r9:xv 9=_:=hp.2.1
    clear hp
    obtain⟨g,e6,hg,hrow⟩:=r6
    have hz:=hrow.2 j hj9
    have hz1:=hrow.1
    have HZ:=zZ (show W.cell? ⟨g,j,none⟩=some (.string Bw) by rw[←HBw.out];exact hz)
    have h9:wdL.length=9:=rfl
    rw[h9]at e6
    clear hz hrow h9
    simp only[putD,zC,zB,zE,zD,Act.put,zO,zQ,zP]
    refine OpGoal.plain ?_
    go_wp2_with fail
    exact⟨rfl,Ext.refl _,_,rfl,hz1,HZ.out⟩
   case o11=>
    intro xv W hE hp
    have r10:=hp.1
    clear hp
    have hEw:Ext w0 W:=(Ext.drew w0).trans hE
    have y0w:=(hEw.old (p:=⟨w.heap.size,0,none⟩) hlt0).trans y0
    have y6w:=(hEw.old (p:=⟨w.heap.size,6,none⟩) hlt0).trans y6
    obtain⟨q00,q01,q02,q03,q04,q05,q06⟩:=HO0.out.ext hbw (hE0.trans hEw)
    simp only[zY,zV,zS,zX,zR,zW]at q00 q01 q02 q03 q04 q05 q06
    obtain⟨q10,q11,q12,q13,q14,q15,q16⟩:=HO1.out.ext hbw (hE0.trans hEw)
    simp only[zY,zV,zS,zX,zR,zW]at q10 q11 q12 q13 q14 q15 q16
    obtain⟨ad,e10,hb8,hc8⟩:=r10
    simp only[putD,zC,zB,zE,zD,Act.put,zO,zQ,zP]
    refine OpGoal.plain ?_
    go_wp2_with fail
    exact⟨rfl,Ext.refl _,rfl⟩
   case o12|o13=>
    intro xv W hE hp
    try have q0:xv _=_:=hp.1
    try have q1:xv _=_:=hp.2.1
    clear hp
    simp only[putD,zC,zB,zE,zD,Act.put,zO,zQ,zP]
    refine OpGoal.plain ?_
    go_wp2_with fail
    exact⟨rfl,Ext.refl _,rfl⟩
   case o18=>
    intro xv W hE hp
    have r17:xv 17=_:=hp.1
    clear hp
    simp only[putD,zC,zB,zE,zD,Act.put,zO,zQ,zP]
    refine OpGoal.plain ?_
    go_wp2_with fail
    refine(HC1.out _ (hE0.trans ((Ext.drew w0).trans hE))).mono ?_
    rintro r w' ⟨rfl,hE5⟩
    go_wp2_with fail
    exact⟨rfl,hE5,rfl⟩
   case last=>
    intro xv W hE hp
    have r0:xv 0=_:=hp.1
    have r1:xv 1=_:=hp.2.1
    have r2:xv 2=_:=hp.2.2.1
    have r3:xv 3=_:=hp.2.2.2.1
    have r4:xv 4=_:=hp.2.2.2.2.1
    have r5:xv 5=_:=hp.2.2.2.2.2.1
    have r6:=hp.2.2.2.2.2.2.1
    have r7:xv 7=_:=hp.2.2.2.2.2.2.2.1
    have r8:xv 8=_:=hp.2.2.2.2.2.2.2.2.1
    have r9:xv 9=_:=hp.2.2.2.2.2.2.2.2.2.1
    have r10:=hp.2.2.2.2.2.2.2.2.2.2.1
    have r11:xv 11=_:=hp.2.2.2.2.2.2.2.2.2.2.2.1
    have r12:xv 12=_:=hp.2.2.2.2.2.2.2.2.2.2.2.2.1
    have r13:xv 13=_:=hp.2.2.2.2.2.2.2.2.2.2.2.2.2.1
    have r14:xv 14=_:=hp.2.2.2.2.2.2.2.2.2.2.2.2.2.2.1
    have r15:xv 15=_:=hp.2.2.2.2.2.2.2.2.2.2.2.2.2.2.2.1
    have r16:xv 16=_:=hp.2.2.2.2.2.2.2.2.2.2.2.2.2.2.2.2.1
    have r17:xv 17=_:=hp.2.2.2.2.2.2.2.2.2.2.2.2.2.2.2.2.2.1
    have r18:xv 18=_:=hp.2.2.2.2.2.2.2.2.2.2.2.2.2.2.2.2.2.2.1
    clear hp
    simp only[putD,zC,zB,zE,zD,Act.put,zH,zJ,zM,zN,zL,zA,zO,zQ,zP]
    have hEw:Ext w0 W:=(Ext.drew w0).trans hE
    rw[r13,r18]
    clear r0 r1 r2 r3 r4 r5 r6 r7 r8 r9 r10 r11 r12 r13 r14 r15 r16 r17 r18
    go_wp2_with fail
    go_ret
    exact⟨by rw[HT.out];rfl,hE0.trans hEw⟩
  ·have h00:0<e.l.length:=by rw[hl];simp
   have h01:1<e.l.length:=by rw[hl];simp
   have h02:2<e.l.length:=by rw[hl];simp
   have HT:=zZ (show sv e.text=sv (tIf++[32])++sv (e.l[0]).piece++sv ([32]++tThen++[32])++sv (e.l[1]).piece++sv ([32]++tElse++[32])++sv (e.l[2]).piece by
    rw[HV.out,h6,sv_app,sv_app,sv_app,sv_app,sv_app]
    simp[tx,Ex.pieces_map,hl])
   have h6':=h6
   have h00:0<e.l.length:=by rw[hl];simp
   obtain⟨_,hs0⟩:=HRT.out.kid h00
   have s0:=kid_piece HSZ.out hs0 (zG h00)
   have h01:1<e.l.length:=by rw[hl];simp
   obtain⟨_,hs1⟩:=HRT.out.kid h01
   have s1:=kid_piece HSZ.out hs1 (zG h01)
   have h02:2<e.l.length:=by rw[hl];simp
   obtain⟨_,hs2⟩:=HRT.out.kid h02
   have s2:=kid_piece HSZ.out hs2 (zG h02)
   obtain⟨B0,hB0⟩ :∃B,sv (e.l[0]).piece=B:=⟨_,rfl⟩
   rw[hB0]at s0 HT
   obtain⟨b,o,A0,c0,hA,hb0,hO0,hC0⟩:=HIH.out 0 h00 B0 hB0
   simp only[Ex.cells]at hC0
   have HC0:=zZ hC0
   have HO0:=zZ hO0
   subst hA
   obtain⟨B1,hB1⟩ :∃B,sv (e.l[1]).piece=B:=⟨_,rfl⟩
   rw[hB1]at s1 HT
   obtain⟨b1,o1,A1,c1,hA1,hb1,hO1,hC1⟩:=HIH.out 1 h01 B1 hB1
   simp only[Ex.cells]at hC1
   have HC1:=zZ hC1
   have HO1:=zZ hO1
   obtain⟨rfl,rfl⟩:b=b1∧o=o1:=by simpa using hA1
   obtain⟨B2,hB2⟩ :∃B,sv (e.l[2]).piece=B:=⟨_,rfl⟩
   rw[hB2]at s2 HT
   obtain⟨b2,o2,A2,c2,hA2,hb2,hO2,hC2⟩:=HIH.out 2 h02 B2 hB2
   simp only[Ex.cells]at hC2
   have HC2:=zZ hC2
   have HO2:=zZ hO2
   obtain⟨rfl,rfl⟩:b=b2∧o=o2:=by simpa using hA2
   rw[h6']at y0
   have hbw:b<w.heap.size:=hb0
   have hl0:0<e.l.length:=h00
   have hl1:1<e.l.length:=h01
   have hl2:2<e.l.length:=h02
   clear h6 hl ha hb hc hC0 hO0 hB0 hs0 hb0 hC1 hO1 hB1 hs1 hb1 hC2 hO2 hB2 hs2 hb2 hA1 hA2
   generalize e.l[0]=x0 at *
   generalize e.l[1]=x1 at *
   generalize e.l[2]=x2 at *
   clear h6'
   have k1:(⟨#[105,102,32]⟩:ByteArray).size≤3:=by decide
   have k2:(⟨#[32,116,104,101,110,32]⟩:ByteArray).size≤6:=by decide
   have k3:(⟨#[32,101,108,115,101,32]⟩:ByteArray).size≤6:=by decide
   go_wp2_with fail
   apply wp_region_seq (l:=[_,_,_,_,_,_,_,_,_,_,_,_,_,_,_,_,_,_,_]) (t:=[_,_]) [some 44,some 45,some 46,some 47,some 48,some 49,some 50,some 51,some 52,some 53,some 54,some 55,some 56,some 57,some 58,some 59,some 60,some 61,some 62,some 63,some 2] [[],[0],[1],[2],[3],[4],[5],[],[7],[8],[9],[10],[6,11],[12],[],[14],[15],[16],[17],[13,18],[19]] [1,2,3,4,11,6,12,8,9,10,11,18,13,19,15,16,17,18,19] [eqv _,eqv _,eqv _,eqv _,(eqv (.string B0)),eqv _,eqv _,eqv _,eqv _,eqv _,eqv _,(eqv (.string B1)),eqv _,eqv _,eqv _,eqv _,eqv _,eqv _,(eqv (.string B2))] (by kernel_rfl) (by kernel_rfl) ⟨?o0,?o1,?o2,?o3,?o4,?o5,?o6,?o7,?o8,?o9,?o10,?o11,?o12,?o13,?o14,?o15,?o16,?o17,?o18,trivial⟩ ?last
   case o0|o7|o14=>
    intro xv W hE hp
    try have q0:xv _=_:=hp.1
    try have q1:xv _=_:=hp.2.1
    clear hp
    simp only[putD,zC,zB,zE,zD,Act.put,zO,zQ,zP]
    refine OpGoal.plain ?_
    go_wp2_with fail
    exact⟨rfl,Ext.refl _,rfl⟩
   case o1|o8|o15=>
    intro xv W hE hp
    try have q0:xv _=_:=hp.1
    try have q1:xv _=_:=hp.2.1
    clear hp
    have hEw:Ext w0 W:=(Ext.drew w0).trans hE
    have y0w:=(hEw.old (p:=⟨w.heap.size,0,none⟩) hlt0).trans y0
    have y6w:=(hEw.old (p:=⟨w.heap.size,6,none⟩) hlt0).trans y6
    obtain⟨q00,q01,q02,q03,q04,q05,q06⟩:=HO0.out.ext hbw (hE0.trans hEw)
    simp only[zY,zV,zS,zX,zR,zW]at q00 q01 q02 q03 q04 q05 q06
    obtain⟨q10,q11,q12,q13,q14,q15,q16⟩:=HO1.out.ext hbw (hE0.trans hEw)
    simp only[zY,zV,zS,zX,zR,zW]at q10 q11 q12 q13 q14 q15 q16
    obtain⟨q20,q21,q22,q23,q24,q25,q26⟩:=HO2.out.ext hbw (hE0.trans hEw)
    simp only[zY,zV,zS,zX,zR,zW]at q20 q21 q22 q23 q24 q25 q26
    simp only[putD,zC,zB,zE,zD,Act.put,zO,zQ,zP]
    refine OpGoal.plain ?_
    go_wp2_with fail
    exact⟨rfl,Ext.refl _,rfl⟩
   case o2|o9|o16=>
    intro xv W hE hp
    try have q0:xv _=_:=hp.1
    try have q1:xv _=_:=hp.2.1
    clear hp
    simp only[putD,zC,zB,zE,zD,Act.put,zO,zQ,zP]
    refine OpGoal.plain ?_
    go_wp2_with fail
    exact⟨rfl,Ext.refl _,rfl⟩
   case o3|o10|o17=>
    intro xv W hE hp
    try have q0:xv _=_:=hp.1
    try have q1:xv _=_:=hp.2.1
    clear hp
    have hEw:Ext w0 W:=(Ext.drew w0).trans hE
    have y0w:=(hEw.old (p:=⟨w.heap.size,0,none⟩) hlt0).trans y0
    have y6w:=(hEw.old (p:=⟨w.heap.size,6,none⟩) hlt0).trans y6
    obtain⟨q00,q01,q02,q03,q04,q05,q06⟩:=HO0.out.ext hbw (hE0.trans hEw)
    simp only[zY,zV,zS,zX,zR,zW]at q00 q01 q02 q03 q04 q05 q06
    obtain⟨q10,q11,q12,q13,q14,q15,q16⟩:=HO1.out.ext hbw (hE0.trans hEw)
    simp only[zY,zV,zS,zX,zR,zW]at q10 q11 q12 q13 q14 q15 q16
    obtain⟨q20,q21,q22,q23,q24,q25,q26⟩:=HO2.out.ext hbw (hE0.trans hEw)
    simp only[zY,zV,zS,zX,zR,zW]at q20 q21 q22 q23 q24 q25 q26
    simp only[putD,zC,zB,zE,zD,Act.put,zO,zQ,zP]
    refine OpGoal.plain ?_
    go_wp2_with fail
    exact⟨rfl,Ext.refl _,rfl⟩
   case o4=>
    intro xv W hE hp
    have r3:xv 3=_:=hp.1
    clear hp
    simp only[putD,zC,zB,zE,zD,Act.put,zO,zQ,zP]
    refine OpGoal.plain ?_
    go_wp2_with fail
    refine(HC0.out _ (hE0.trans ((Ext.drew w0).trans hE))).mono ?_
    rintro r w' ⟨rfl,hE5⟩
    go_wp2_with fail
    exact⟨rfl,hE5,rfl⟩
   case o5|o6=>
    intro xv W hE hp
    try have q0:xv _=_:=hp.1
    try have q1:xv _=_:=hp.2.1
    clear hp
    simp only[putD,zC,zB,zE,zD,Act.put,zO,zQ,zP]
    refine OpGoal.plain ?_
    go_wp2_with fail
    exact⟨rfl,Ext.refl _,rfl⟩
   case o11=>
    intro xv W hE hp
    have r10:xv 10=_:=hp.1
    clear hp
    simp only[putD,zC,zB,zE,zD,Act.put,zO,zQ,zP]
    refine OpGoal.plain ?_
    go_wp2_with fail
    refine(HC1.out _ (hE0.trans ((Ext.drew w0).trans hE))).mono ?_
    rintro r w' ⟨rfl,hE5⟩
    go_wp2_with fail
    exact⟨rfl,hE5,rfl⟩
   case o12|o13=>
    intro xv W hE hp
    try have q0:xv _=_:=hp.1
    try have q1:xv _=_:=hp.2.1
    clear hp
    simp only[putD,zC,zB,zE,zD,Act.put,zO,zQ,zP]
    refine OpGoal.plain ?_
    go_wp2_with fail
    exact⟨rfl,Ext.refl _,rfl⟩
   case o18=>
    intro xv W hE hp
    have r17:xv 17=_:=hp.1
    clear hp
    simp only[putD,zC,zB,zE,zD,Act.put,zO,zQ,zP]
    refine OpGoal.plain ?_
    go_wp2_with fail
    refine(HC2.out _ (hE0.trans ((Ext.drew w0).trans hE))).mono ?_
    rintro r w' ⟨rfl,hE5⟩
    go_wp2_with fail
    exact⟨rfl,hE5,rfl⟩
   case last=>
    intro xv W hE hp
    have r0:xv 0=_:=hp.1
    have r1:xv 1=_:=hp.2.1
    have r2:xv 2=_:=hp.2.2.1
    have r3:xv 3=_:=hp.2.2.2.1
    have r4:xv 4=_:=hp.2.2.2.2.1
    have r5:xv 5=_:=hp.2.2.2.2.2.1
    have r6:xv 6=_:=hp.2.2.2.2.2.2.1
    have r7:xv 7=_:=hp.2.2.2.2.2.2.2.1
    have r8:xv 8=_:=hp.2.2.2.2.2.2.2.2.1
    have r9:xv 9=_:=hp.2.2.2.2.2.2.2.2.2.1
    have r10:xv 10=_:=hp.2.2.2.2.2.2.2.2.2.2.1
    have r11:xv 11=_:=hp.2.2.2.2.2.2.2.2.2.2.2.1
    have r12:xv 12=_:=hp.2.2.2.2.2.2.2.2.2.2.2.2.1
    have r13:xv 13=_:=hp.2.2.2.2.2.2.2.2.2.2.2.2.2.1
    have r14:xv 14=_:=hp.2.2.2.2.2.2.2.2.2.2.2.2.2.2.1
    have r15:xv 15=_:=hp.2.2.2.2.2.2.2.2.2.2.2.2.2.2.2.1
    have r16:xv 16=_:=hp.2.2.2.2.2.2.2.2.2.2.2.2.2.2.2.2.1
    have r17:xv 17=_:=hp.2.2.2.2.2.2.2.2.2.2.2.2.2.2.2.2.2.1
    have r18:xv 18=_:=hp.2.2.2.2.2.2.2.2.2.2.2.2.2.2.2.2.2.2.1
    clear hp
    simp only[putD,zC,zB,zE,zD,Act.put,zH,zJ,zM,zN,zL,zA,zO,zQ,zP]
    have hEw:Ext w0 W:=(Ext.drew w0).trans hE
    rw[r13,r18]
    clear r0 r1 r2 r3 r4 r5 r6 r7 r8 r9 r10 r11 r12 r13 r14 r15 r16 r17 r18
    go_wp2_with fail
    go_ret
    exact⟨by rw[HT.out];rfl,hE0.trans hEw⟩
def txT (e:Ex):List UInt8:=if chkE e=0 then e.text else[]
set_option maxRecDepth 100000 in
set_option maxHeartbeats 2000000 in
theorem TextC_any (e:Ex) (d:Nat) (A:Option Addr) (c:Nat) (w:World) (hX:ExB w w.heap.size d A e.l) (hsz:e.size<1099511627776) (hok:e.ok) (htab:Tabs w) :
  Calls Tryz.prog 49 #[.agg (e.cells A c).toArray] w fun r w'=>r=.returned (.tuple #[.string (sv (txT e)),.int .i64 (chkE e)])∧Ext w w':=by
 obtain⟨w0,hw0⟩ :∃w0,w.alloc (.cells (e.cells A c).toArray 47)=w0:=⟨_,rfl⟩
 have hE0:Ext w w0:=by rw[←hw0];exact Ext.alloc _ _
 have hBx:Box w0 w.heap.size e A c:=by rw[←hw0];exact Box.new w e A c 47
 have HCK:=zZ (fun(W:World) (h:Ext w W)=>Check_any e d A c W (hX.ext h) hsz hok)
 have HEV:=zZ (show txT e=if chkE e=0 then e.text else[] from rfl)
 unfold Ex.cells at hw0 HCK
 have HW:=zZ hw0
 have HBx:=zZ hBx
 obtain⟨_,y0,y1,y2,y3,y4,y5,y6⟩:=hBx
 clear hw0 hsz
 by_cases hc:chkE e=0
 ·have t1:(chkE e != 0)=false:=by simp[hc]
  have HVL:=zZ (fun(W:World) (h:Ext w W)=>text_any d e (chkT e) A c W (chk_rt hc).1 (hX.ext h) hok (by have:=(chk_rt hc).2;omega) (htab.ext h))
  have HEV2:=zZ (show txT e=e.text by rw[HEV.out,if_pos hc])
  have HC0:=zZ hc
  unfold Ex.cells at *
  clear hc hX hok HEV htab
  generalize hT:chkT e=T at *
  generalize hE':chkE e=E at *
  clear hT hE'
  go_enter Tryz.func49,Tryz.ntmps49
  go_upto_region 1 with fail
  rw[HW.out]
  go_wp2_with fail
  refine(HCK.out _ hE0).mono ?_
  rintro r w1 ⟨rfl,hE1⟩
  obtain⟨_,y0,y1,y2,y3,y4,y5,y6⟩:=HBx.out.ext hE1
  go_wp2_with fail
  refine(HVL.out _ (hE0.trans hE1)).mono ?_
  rintro r w2 ⟨rfl,hE2⟩
  go_wp2_with fail
  go_ret2
  exact⟨by rw[HEV2.out,HC0.out];rfl,(hE0.trans hE1).trans hE2⟩
 ·have t1:(chkE e != 0)=true:=by simpa using hc
  have HEV2:=zZ (show txT e=[] by rw[HEV.out,if_neg hc])
  clear hc hX hok HEV htab
  generalize hT:chkT e=T at *
  generalize hE':chkE e=E at *
  clear hT hE'
  unfold Ex.cells
  go_enter Tryz.func49,Tryz.ntmps49
  go_upto_region 1 with fail
  rw[HW.out]
  go_wp2_with fail
  refine(HCK.out _ hE0).mono ?_
  rintro r w1 ⟨rfl,hE1⟩
  go_wp2_with fail
  go_ret2
  exact⟨by rw[HEV2.out];rfl,hE0.trans hE1⟩
set_option maxRecDepth 100000 in
set_option maxHeartbeats 2000000 in
theorem rTextC_any (e:Ex) (d:Nat) (A:Option Addr) (c:Nat) (w:World) (hX:ExB w w.heap.size d A e.l) (hsz:e.size<1099511627776) (hok:e.ok) :
  Calls Tryz.prog 87 #[.agg (e.cells A c).toArray] w fun r w'=>r=.returned (.tuple #[.string (sv (txT e)),.int .i64 (chkE e)])∧Ext w w':=by
 obtain⟨w0,hw0⟩ :∃w0,w.alloc (.cells (e.cells A c).toArray 47)=w0:=⟨_,rfl⟩
 have hE0:Ext w w0:=by rw[←hw0];exact Ext.alloc _ _
 have hBx:Box w0 w.heap.size e A c:=by rw[←hw0];exact Box.new w e A c 47
 have HCK:=zZ (fun(W:World) (h:Ext w W)=>rCheck_any e d A c W (hX.ext h) hsz hok)
 have HEV:=zZ (show txT e=if chkE e=0 then e.text else[] from rfl)
 unfold Ex.cells at hw0 HCK
 have HW:=zZ hw0
 have HBx:=zZ hBx
 obtain⟨_,y0,y1,y2,y3,y4,y5,y6⟩:=hBx
 clear hw0 hsz
 by_cases hc:chkE e=0
 ·have t1:(chkE e != 0)=false:=by simp[hc]
  have HVL:=zZ (fun(W:World) (h:Ext w W)=>rText_any d e (chkT e) A c W (chk_rt hc).1 (hX.ext h) (by have:=(chk_rt hc).2;omega))
  have HEV2:=zZ (show txT e=e.text by rw[HEV.out,if_pos hc])
  have HC0:=zZ hc
  unfold Ex.cells at *
  clear hc hX hok HEV
  generalize hT:chkT e=T at *
  generalize hE':chkE e=E at *
  clear hT hE'
  go_enter Tryz.func87,Tryz.ntmps87
  go_upto_region 1 with fail
  rw[HW.out]
  go_wp2_with fail
  refine(HCK.out _ hE0).mono ?_
  rintro r w1 ⟨rfl,hE1⟩
  obtain⟨_,y0,y1,y2,y3,y4,y5,y6⟩:=HBx.out.ext hE1
  go_wp2_with fail
  refine(HVL.out _ (hE0.trans hE1)).mono ?_
  rintro r w2 ⟨rfl,hE2⟩
  go_wp2_with fail
  go_ret2
  exact⟨by rw[HEV2.out,HC0.out];rfl,(hE0.trans hE1).trans hE2⟩
 ·have t1:(chkE e != 0)=true:=by simpa using hc
  have HEV2:=zZ (show txT e=[] by rw[HEV.out,if_neg hc])
  clear hc hX hok HEV
  generalize hT:chkT e=T at *
  generalize hE':chkE e=E at *
  clear hT hE'
  unfold Ex.cells
  go_enter Tryz.func87,Tryz.ntmps87
  go_upto_region 1 with fail
  rw[HW.out]
  go_wp2_with fail
  refine(HCK.out _ hE0).mono ?_
  rintro r w1 ⟨rfl,hE1⟩
  go_wp2_with fail
  go_ret2
  exact⟨by rw[HEV2.out];rfl,hE0.trans hE1⟩
end Go.Proofs.YtmiencglfhpmeaaGreatDoor
