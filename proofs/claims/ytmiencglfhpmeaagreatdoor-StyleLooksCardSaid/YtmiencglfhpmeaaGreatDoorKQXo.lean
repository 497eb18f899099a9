/- The reader's whole, by the contract of piece; both. -/
import Derived.Test.YtmiencglfhpmeaaGreatDoorKQXn
import Derived.Test.YtmiencglfhpmeaaGreatDoorKQXa
import Derived.LoopN
import Derived.Deep.RegionWith
import Derived.IntWalk
open List renaming foldl_cons → zA, foldl_nil → zB, getD_cons_succ → zC, getD_cons_zero → zD, getElem?_eq_some_iff → zE, headD_cons → zF, headD_nil → zG, length_cons → zH, length_nil → zI, setIfInBounds_toArray → zJ, set_cons_succ → zK, set_cons_zero → zL
open Nat renaming le_refl → zM, lt_of_lt_of_le → zN
open Option renaming bind_some → zO, some.inj → zP, some.injEq → zQ
open Go.Lib renaming hid → zR
set_option linter.unusedSimpArgs false
set_option linter.unusedVariables false
namespace Go.Proofs.YtmiencglfhpmeaaGreatDoor
open Go.RowKit Hach
def nor:SPr Ext:=⟨fun _ _=>False,fun h _=>h⟩
theorem ExL.row {w:World}{S:Nat→Prop}{d g:Nat}{us:List Nd}(hS:S g) (hk:Kids w S d us) (hc :∀(i:Nat) (v:Value),((us.map Nd.cells).flatten)[i]?=some v→w.cell? ⟨g,i,none⟩=some v):ExL w S (d+1) (some ⟨g,0,none⟩) (us.map (·.x)):=by
 intro _
 refine⟨g,0,rfl,hS,fun j x hj=>?_⟩
 rw[List.getElem?_map]at hj
 cases hu:us[j]? with
 | none=>rw[hu]at hj;cases hj
 | some u=>
  rw[hu]at hj
  simp only[Option.map_some,zQ]at hj
  subst hj
  obtain⟨hjl,rfl⟩:=zE.1 hu
  refine⟨us[j].A,us[j].c,hk _ (List.getElem_mem hjl),fun i v hi=>?_⟩
  rw[Nat.zero_add]
  have hi7:i<7:=(zE.1 hi).1
  exact hc _ v ((nds_at us j hjl i hi7).trans hi)
theorem Kids.deep {w:World}{S:Nat→Prop}{d d':Nat}{us:List Nd}(hd:d≤d') (h:Kids w S d us):Kids w S d' us:=fun u hu=>(h u hu).deep hd
structure IfS (w W:World) (b gw base d:Nat) (v:Value) (us:List Nd):Prop where
 own:OwnN W base v us
 kids:Kids W (SO base W v) d us
 grow:w.grownBy W (some b)
 hb:b<w.heap.size
 hblk:w.heap.size<gw
 hgw:gw<base
 hbase:base≤W.heap.size
 z:Zero7 W w.heap.size
 row:RowS W gw [tIf,tThen,tElse]
theorem IfS.call {w W W':World}{b gw base d:Nat}{v:Value}{us:List Nd}(h:IfS w W b gw base d v us) (hg:W.grownBy W' (some b)):IfS w W' b gw base d v us:=by
 have h1:=h.hb
 have h2:=h.hblk
 have h3:=h.hgw
 have h4:=h.hbase
 have h5:=hg.size
 refine⟨h.own.keep hg ?_,?_,grown_trans h.grow hg,h1,h2,h3,by omega,h.z.own hg (by simp;omega),⟨zN h.row.1 h5,fun j hj=>(grown_cell hg h.row.1 (by simp;omega) j).trans (h.row.2 j hj)⟩⟩
 ·cases hv:v.ownBlock with
  | none=>exact .inl rfl
  | some g=>exact .inr fun e=>by have:=(h.own.lt g hv).1;simp only[zQ]at e;omega
 ·exact(h.kids.keep fun k hk o=>grown_cell hg hk.2.1 (by have:=hk.1;simp;omega) o).more fun k hk=>⟨hk.1,by have:=hk.2.1;omega,hk.2.2⟩
theorem IfS.app {w W W2 wb:World}{b gw base d d':Nat}{v v1:Value}{us:List Nd}{nd:Nd}{o:Obj}(h:IfS w W b gw base d v us) (hg:W.grownBy W2 (some b)) (hX:ExL W2 (fun k=>W.heap.size≤k∧k<W2.heap.size) d' nd.A nd.x.l)
  (hO:OwnN wb base v1 (us++[nd])) (hg1:(W2.alloc o).grownBy wb v.ownBlock) (hn:v1.ownBlock=v.ownBlock∨v1.ownBlock=some (W2.alloc o).heap.size):IfS w wb b gw base (max d d') v1 (us++[nd]):=by
 have h2:=h.call hg
 have hE:Ext W2 (W2.alloc o):=Ext.alloc _ _
 have h3:=h2.call (grown_of hE _)
 have hvl :∀g,v.ownBlock=some g→base≤g∧g<W.heap.size:=h.own.lt
 have hb:=h.hb
 have hblk:=h.hblk
 have hgw:=h.hgw
 have hbs:=h.hbase
 have hz:=hg1.size
 have hz3:=h3.hbase
 refine⟨hO,?_,?_,hb,hblk,hgw,by omega,?_,?_⟩
 ·refine Kids.app (W:=W2.alloc o) (lo:=W.heap.size) (h3.kids.deep (Nat.le_max_left _ _)) ?_ hbs (fun g e=>(hvl g e).2) hg1 hn
  exact(fresh_ext hX hE).deep (Nat.le_max_right _ _)
 ·have hg3:=h3.grow
  refine⟨hg1.os.trans hg3.os,hg1.tape.trans hg3.tape,hg1.output.trans hg3.output,Nat.le_trans hg3.size hg1.size,fun k hk hne=>(hg1.block k (zN hk hg3.size) fun e=>?_).trans (hg3.block k hk hne)⟩
  have:=(hvl k e.symm).1
  omega
 ·exact h3.z.own hg1 fun e=>by have:=(hvl _ e.symm).1;omega
 ·refine⟨zN h3.row.1 hz,fun j hj=>(grown_cell hg1 h3.row.1 (fun e=>by have:=(hvl _ e).1;omega) j).trans (h3.row.2 j hj)⟩
end Go.Proofs.YtmiencglfhpmeaaGreatDoor
namespace Go.Proofs.YtmiencglfhpmeaaGreatDoor
open Go.RowKit Hach
theorem whole_not (n:Nat) (bad:Bool) (r:List Tok):wholeF (n+1) bad ([110,111,116]::r)=(pieceF n bad r).bind fun p=>some (exOp 3 [p.1],p.2):=by
 rw[wholeF,if_pos (show([110,111,116]:Tok)=tNot from rfl)]
theorem whole_if (n:Nat) (bad:Bool) (r:List Tok):wholeF (n+1) bad ([105,102]::r)=(pieceF n bad r).bind fun p=>(takeT tThen p.2).bind fun r1=>(pieceF n bad r1).bind fun q=>(takeT tElse q.2).bind fun r2=>(pieceF n bad r2).bind fun z=>some (exOp 13 [p.1,q.1,z.1],z.2):=by
 rw[wholeF,if_neg (show ¬([105,102]:Tok)=tNot by decide),if_pos (show([105,102]:Tok)=tIf from rfl)]
def tailF (n:Nat) (bad:Bool) (a:Ex):List Tok→Option (Ex×List Tok)
 | []=>if bad=true then none else some (a,[])
 | o::r'=>match ix wdL o with
  | none=>some (a,o::r')
  | some k=>(pieceF n bad r').bind fun q=>some (exOp (4+(k:Int)) [a,q.1],q.2)
theorem whole_two (n:Nat) (bad:Bool) (t:Tok) (r:List Tok) (h1:t≠[110,111,116]) (h2:t≠[105,102]):wholeF (n+1) bad (t::r)=(pieceF n bad (t::r)).bind fun p=>tailF n bad p.1 p.2:=by
 rw[wholeF,if_neg (show ¬t=tNot from h1),if_neg (show ¬t=tIf from h2)]
 refine congrArg _ (funext fun p=>?_)
 obtain⟨a,l⟩:=p
 cases l<;>rfl
theorem tailF_nil (n:Nat) (bad:Bool) (a:Ex):tailF n bad a []=if bad=true then none else some (a,[]):=rfl
theorem tailF_none {n:Nat}{bad:Bool}{a:Ex}{o:Tok}{l:List Tok}(h:ix wdL o=none):tailF n bad a (o::l)=some (a,o::l):=by
 unfold tailF;simp only[h]
theorem tailF_some {n:Nat}{bad:Bool}{a:Ex}{o:Tok}{l:List Tok}{k:Nat}(h:ix wdL o=some k):tailF n bad a (o::l)=(pieceF n bad l).bind fun q=>some (exOp (4+(k:Int)) [a,q.1],q.2):=by
 unfold tailF;simp only[h]
theorem takeT_if (r:List Tok):takeT [105,102] ([105,102]::r)=some r:=by
 unfold takeT;exact if_pos rfl
theorem piece_nil (n:Nat) (bad:Bool):pieceF n bad []=none:=by cases n<;>rfl
theorem takeT_len {u:Tok}{ts r:List Tok}(h:takeT u ts=some r):r.length<ts.length:=by
 cases ts with
 | nil=>cases h
 | cons t q=>
  by_cases ht:t=u
  ·rw[show takeT u (t::q)=some q from if_pos ht]at h
   simp only[zQ]at h
   rw[←h];simp
  ·rw[show takeT u (t::q)=none from if_neg ht]at h
   cases h
theorem read_len (n:Nat):(∀bad ts x r,wholeF n bad ts=some (x,r)→r.length<ts.length)∧(∀bad ts x r,pieceF n bad ts=some (x,r)→r.length<ts.length):=by
 induction n with
 | zero=>exact⟨fun bad ts x r h=>by simp[wholeF]at h,fun bad ts x r h=>by simp[pieceF]at h⟩
 | succ n ih=>
  obtain⟨iw,ip⟩:=ih
  refine⟨fun bad ts x r h=>?_,fun bad ts x r h=>?_⟩
  ·cases ts with
   | nil=>simp[wholeF]at h
   | cons t q=>
    by_cases h1:t=[110,111,116]
    ·subst h1
     rw[whole_not]at h
     cases hp:pieceF n bad q with
     | none=>rw[hp]at h;cases h
     | some p=>
      obtain⟨a,l⟩:=p
      rw[hp]at h
      simp only[zO,zQ,Prod.mk.injEq]at h
      have:=ip _ _ _ _ hp
      rw[←h.2];simp;omega
    ·by_cases h2:t=[105,102]
     ·subst h2
      rw[whole_if]at h
      cases hp:pieceF n bad q with
      | none=>rw[hp]at h;cases h
      | some p=>
       obtain⟨a,l⟩:=p
       rw[hp]at h
       have q1:=ip _ _ _ _ hp
       simp only[zO]at h
       cases ht:takeT tThen l with
       | none=>rw[ht]at h;cases h
       | some l1=>
        rw[ht]at h
        have q2:=takeT_len ht
        simp only[zO]at h
        cases hp2:pieceF n bad l1 with
        | none=>rw[hp2]at h;cases h
        | some p2=>
         obtain⟨a2,l2⟩:=p2
         rw[hp2]at h
         have q3:=ip _ _ _ _ hp2
         simp only[zO]at h
         cases ht2:takeT tElse l2 with
         | none=>rw[ht2]at h;cases h
         | some l3=>
          rw[ht2]at h
          have q4:=takeT_len ht2
          simp only[zO]at h
          cases hp3:pieceF n bad l3 with
          | none=>rw[hp3]at h;cases h
          | some p3=>
           obtain⟨a3,l4⟩:=p3
           rw[hp3]at h
           have q5:=ip _ _ _ _ hp3
           simp only[zO,zQ,Prod.mk.injEq]at h
           rw[←h.2];simp;omega
     ·rw[whole_two n bad t q h1 h2]at h
      cases hp:pieceF n bad (t::q) with
      | none=>rw[hp]at h;cases h
      | some p=>
       obtain⟨a,l⟩:=p
       rw[hp]at h
       have q1:=ip _ _ _ _ hp
       simp only[zO]at h
       cases l with
       | nil=>
        rw[tailF_nil]at h
        by_cases hb:bad=true
        ·rw[if_pos hb]at h;cases h
        ·rw[if_neg hb]at h
         simp only[zQ,Prod.mk.injEq]at h
         rw[←h.2];simp
       | cons o l=>
        cases hx:ix wdL o with
        | none=>
         rw[tailF_none hx]at h
         simp only[zQ,Prod.mk.injEq]at h
         rw[←h.2];exact q1
        | some k=>
         rw[tailF_some hx]at h
         cases hp2:pieceF n bad l with
         | none=>rw[hp2]at h;cases h
         | some p2=>
          obtain⟨a2,l2⟩:=p2
          rw[hp2]at h
          have q2:=ip _ _ _ _ hp2
          simp only[zO,zQ,Prod.mk.injEq]at h
          rw[←h.2]
          simp only[zH]at *
          omega
  ·cases ts with
   | nil=>simp[pieceF]at h
   | cons t q=>
    by_cases h1:t=[40]
    ·rw[pieceF,if_pos h1]at h
     cases hp:wholeF n bad q with
     | none=>rw[hp]at h;cases h
     | some p=>
      obtain⟨a,l⟩:=p
      rw[hp]at h
      have q1:=iw _ _ _ _ hp
      simp only[zO]at h
      cases ht:takeT [41] l with
      | none=>rw[ht]at h;cases h
      | some l1=>
       rw[ht]at h
       have q2:=takeT_len ht
       simp only[zO,zQ,Prod.mk.injEq]at h
       rw[←h.2];simp;omega
    ·rw[pieceF_rest n bad t q h1]at h
     unfold pieceR at h
     cases hx:ix nmL t with
     | some k=>
      rw[hx]at h
      simp only[zQ,Prod.mk.injEq]at h
      rw[←h.2];simp
     | none=>
      rw[hx]at h
      simp only at h
      cases hc:constOf t with
      | none=>rw[hc]at h;cases h
      | some v=>
       rw[hc]at h
       simp only[zO,zQ,Prod.mk.injEq]at h
       rw[←h.2];simp
set_option maxRecDepth 100000 in
set_option maxHeartbeats 8000000 in
theorem whole_step (n:Nat) (hpc:PieceC n):WholeC (n+1):=by
 intro b ts bad w hrs htab hb4 hn
 have hbl:=hrs.lt
 have hz:=Zero7.new w
 obtain⟨w0,hw0⟩ :∃w0,w.alloc (.cells zero7 47)=w0:=⟨_,rfl⟩
 have hE0:Ext w w0:=by rw[←hw0];exact Ext.alloc _ _
 have hs0:w0.heap.size=w.heap.size+1:=by rw[←hw0];simp
 rw[hw0]at hz
 have hrs0:=hrs.ext hE0
 have HW:=zR hw0
 have HS0:=zR hs0
 have HTB:=zR (htab.ext hE0)
 have hG0:w.grownBy w0 (some b):=grown_of hE0 _
 have HBK:=zR (show some w.heap.size≠some b by simp;omega)
 unfold zero7 at HW
 have HPC:=zR (fun(ts':List Tok) (h:2*ts'.length+1≤n) (W:World) (h1:RS W b ts' bad) (h2:Tabs W)=>hpc b ts' bad W h1 h2 hb4 h)
 clear hw0 hs0 hrs htab hpc
 cases ts with
 | nil=>
  cases bad with
  | true=>
   have HN:=zR (peek_bad hrs0)
   unfold rp at *
   go_enter Tryz.func138,Tryz.ntmps138
   go_upto_region 1 with fail
   rw[HW.out]
   go_wp2_with fail
   refine HN.out.mono ?_
   rintro e w1 ⟨rfl,hg1⟩
   exact⟨rfl,ReadP.no rfl (grown_trans hG0 hg1) rfl⟩
  | false=>
   have HN:=zR (peek_ok hrs0 (.inr rfl))
   have HP:=zR (fun(W:World) (h1:RS W b [] false) (h2:Tabs W)=>HPC.out [] (by simp only[zI]at hn ⊢;omega) W h1 h2)
   simp only[piece_nil]at HP
   unfold hd at HN
   simp only[zG]at HN
   unfold rp bs at *
   go_enter Tryz.func138,Tryz.ntmps138
   go_upto_region 1 with fail
   rw[HW.out]
   go_wp2_with fail
   refine HN.out.mono ?_
   rintro e w1 ⟨rfl,hr1,hg1⟩
   have htb1:=HTB.out.own hg1 hb4
   go_wp2_with fail
   refine(HP.out _ hr1 htb1).mono ?_
   rintro e w2 ⟨hg2,hp⟩
   obtain rfl:=hp
   exact⟨rfl,ReadP.no rfl (grown_trans (grown_trans hG0 hg1) hg2) rfl⟩
 | cons t r=>
  have HN:=zR (peek_ok hrs0 (.inl (by simp)))
  unfold hd at HN
  simp only[zF]at HN
  obtain⟨D,hD⟩ :∃D:ByteArray,⟨t.toArray⟩=D:=⟨_,rfl⟩
  have HD:=zR hD
  have hqN:=bs_list t [110,111,116] D hD
  have hqI:=bs_list t [105,102] D hD
  have hlr:2*r.length+3≤n:=by simp only[zH]at hn;omega
  by_cases hN:t=[110,111,116]
  ·rw[decide_eq_true hN]at hqN
   obtain⟨res,hres⟩ :∃res,pieceF n bad r=res:=⟨_,rfl⟩
   have HP:Hid (wholeF (n+1) bad (t::r)=res.bind fun p=>some (exOp 3 [p.1],p.2)):=zR (by rw[hN,whole_not,hres])
   have HPI:=zR (fun(W:World) (h1:RS W b r bad) (h2:Tabs W)=>HPC.out r (by omega) W h1 h2)
   simp only[hres]at HPI
   have NX:=zR (fun(W:World) (h1:RS W b (t::r) bad)=>next_tok h1)
   unfold rp bs at *
   rw[hD]at HN
   simp only[hD]at NX
   clear hD hN hres hqI
   go_enter Tryz.func138,Tryz.ntmps138
   go_upto_region 1 with fail
   rw[HW.out]
   go_wp2_with fail
   refine HN.out.mono ?_
   rintro e w1 ⟨rfl,hr1,hg1⟩
   have hG1:=grown_trans hG0 hg1
   have hz1:=hz.own hg1 HBK.out
   have htb1:=HTB.out.own hg1 hb4
   go_wp2_with fail
   refine(NX.out _ hr1).mono ?_
   rintro e w2 ⟨rfl,hr2,hg2⟩
   have hG2:=grown_trans hG1 hg2
   have hz2:=hz1.own hg2 HBK.out
   have htb2:=htb1.own hg2 hb4
   go_wp2_with fail
   refine(HPI.out _ hr2 htb2).mono ?_
   rintro e w3 ⟨hg3,hp⟩
   have hG3:=grown_trans hG2 hg3
   have hz3:=hz2.own hg3 HBK.out
   cases res with
   | none=>
    obtain rfl:=hp
    exact⟨rfl,ReadP.no (by rw[HP.out];rfl) hG3 rfl⟩
   | some p=>
    obtain⟨x,r1⟩:=p
    obtain⟨⟨A,c,d,rfl,hX⟩,hr3⟩:=hp
    have hE4:Ext w3 (w3.alloc (.cells (x.cells A c).toArray 47)):=Ext.alloc _ _
    have hG4:=grown_trans hG3 (grown_of hE4 _)
    have hz4:=hz3.own (grown_of hE4 none) (by simp)
    have hr4:=hr3.ext hE4
    have hsz4:(w3.alloc (.cells (x.cells A c).toArray 47)).heap.size=w3.heap.size+1:=by simp
    have hs3:w0.heap.size≤w2.heap.size∧w2.heap.size≤w3.heap.size:=by have h1:=hg1.size;have h2:=hg2.size;have h3:=hg3.size;omega
    have hX4:ExL (w3.alloc (.cells (x.cells A c).toArray 47)) (fun k=>w.heap.size≤k∧k<(w3.alloc (.cells (x.cells A c).toArray 47)).heap.size∧k≠w.heap.size) (d+1) (some ⟨w3.heap.size,0,none⟩) (exOp 3 [x]).l:=by
     have h0:=HS0.out
     refine ExL.row (us:=[⟨x,A,c⟩]) ⟨by omega,by omega,by omega⟩ ?_ ?_
     ·intro u hu
      simp only[List.mem_singleton]at hu
      subst hu
      exact(fresh_ext hX hE4).more fun k hk=>⟨by omega,hk.2,by omega⟩
     ·intro i v hi
      rw[World.cell?_alloc_new]
      simpa[Nd.cells]using hi
    have HX4:=zR hX4
    obtain⟨u0,u1,u2,u3,u4,u5,u6⟩:=hz4.cells
    obtain⟨f0,f1,f2,f3,f4,f5,f6⟩:=hz4.free
    unfold Ex.cells at *
    clear hX hX4 hsz4 hs3
    go_wp2_with fail
    exact fin_exp rfl (exOp 3 [x]) r1 (by rw[HP.out];rfl) hz4 (zM _) hbl hG4 hr4 _ 1 1 (d+1) rfl HX4.out rfl
  ·rw[decide_eq_false hN]at hqN
   by_cases hI:t=[105,102]
   ·rw[decide_eq_true hI]at hqI
    subst hI
    have HP0:Hid (wholeF (n+1) bad ([105,102]::r)=(pieceF n bad r).bind fun p=>(takeT [116,104,101,110] p.2).bind fun r1=>(pieceF n bad r1).bind fun q=>(takeT [101,108,115,101] q.2).bind fun r2=>(pieceF n bad r2).bind fun z=>some (exOp 13 [p.1,q.1,z.1],z.2)):=zR (whole_if n bad r)
    unfold rp bs at *
    rw[hD]at HN
    have HROW:=zR (show ∀W:World,RowS (W.alloc (.cells #[.string ⟨#[105,102]⟩,.string ⟨#[116,104,101,110]⟩,.string ⟨#[101,108,115,101]⟩] 9)) W.heap.size [tIf,tThen,tElse] from fun W=>by
     refine⟨by simp,fun j hj=>?_⟩
     have hj3:j<3:=hj
     rw[World.cell?_alloc_new]
     rcases(by omega:j=0∨j=1∨j=2) with rfl|rfl|rfl<;>rfl)
    have HRD:=zR (read_len n).2
    clear hD
    go_enter Tryz.func138,Tryz.ntmps138
    go_upto_region 1 with fail
    rw[HW.out]
    go_wp2_with fail
    refine HN.out.mono ?_
    rintro e w1 ⟨rfl,hr1,hg1⟩
    have hG1:=grown_trans hG0 hg1
    have hz1:=hz.own hg1 HBK.out
    have htb1:=HTB.out.own hg1 hb4
    have hE2:Ext w1 (w1.alloc (.cells #[.string ⟨#[105,102]⟩,.string ⟨#[116,104,101,110]⟩,.string ⟨#[101,108,115,101]⟩] 9)):=Ext.alloc _ _
    have hS0:IfS w (w1.alloc (.cells #[.string ⟨#[105,102]⟩,.string ⟨#[116,104,101,110]⟩,.string ⟨#[101,108,115,101]⟩] 9)) b w1.heap.size (w1.heap.size+1) 0 (.slice none 0 0) []:=
     ⟨OwnN.nil _ _,Kids.nil _ _ _,grown_trans hG1 (grown_of hE2 _),hbl,by have h0:=HS0.out;have h1:=hg1.size;omega,Nat.lt_succ_self _,by simp,hz1.own (grown_of hE2 none) (by simp),HROW.out w1⟩
    have hr0:=hr1.ext hE2
    have htb0:=htb1.ext hE2
    obtain⟨w2,hw2⟩ :∃w2,w1.alloc (.cells #[.string ⟨#[105,102]⟩,.string ⟨#[116,104,101,110]⟩,.string ⟨#[101,108,115,101]⟩] 9)=w2:=⟨_,rfl⟩
    rw[hw2]at hS0 hr0 htb0
    have HW2:=zR hw2
    clear hw2 hE2 hG1 hz1 htb1 hr1 HD HN hg1
    go_wp2_with fail
    rw[HW2.out]
    clear hqN hqI
    refine wp_loop_rounds 4 ?_
    rw[rounds_succ]
    obtain⟨E,hE⟩ :∃E:ByteArray,(⟨([105,102]:List UInt8).toArray⟩:ByteArray)=E:=⟨_,rfl⟩
    have cw:w2.cell? ⟨w1.heap.size,0,none⟩=some (.string E):=by rw[←hE];exact hS0.row.2 0 (by decide)
    have TK:=take_any hr0 [105,102] (by simp)
    unfold rp bs at TK
    rw[hE]at TK
    obtain⟨rT,hrT⟩ :∃rT,takeT [105,102] ([105,102]::r)=rT:=⟨_,rfl⟩
    simp only[hrT]at TK
    have HTK:=zR TK
    have HRT:=zR hrT
    clear hE TK hrT
    go_wp2_with fail
    refine HTK.out.mono ?_
    rintro e wa ⟨hp,hga⟩
    cases rT with
    | none=>
     obtain rfl:=hp
     exact⟨rfl,ReadP.no (by exact absurd HRT.out (by rw[takeT_if r];simp)) (grown_trans hS0.grow hga) rfl⟩
    | some s=>
     obtain⟨rfl,hra⟩:=hp
     have hSa:=hS0.call hga
     have htba:=htb0.own hga hb4
     have hsl:2*s.length+1≤n:=by have h1:=takeT_len HRT.out;simp only[zH]at h1;omega
     have PI:=HPC.out s hsl wa hra htba
     obtain⟨rP,hrP⟩ :∃rP,pieceF n bad s=rP:=⟨_,rfl⟩
     rw[hrP]at PI
     have HPI:=zR PI
     have HRP:=zR hrP
     clear PI hrP cw HTK
     go_wp2_with fail
     refine HPI.out.mono ?_
     rintro e wc ⟨hgc,hp⟩
     cases rP with
     | none=>
      obtain rfl:=hp
      exact⟨rfl,ReadP.no (by have h1:=HRT.out;rw[takeT_if r]at h1;obtain rfl:=zP h1;rw[HP0.out,HRP.out];rfl) (grown_trans hSa.grow hgc) rfl⟩
     | some p0=>
      obtain⟨x0,r0⟩:=p0
      obtain⟨⟨A0,k0,e0,rfl,hX⟩,hrc⟩:=hp
      have hlt0:=HRD.out _ _ _ _ HRP.out
      have HP1:Hid (wholeF (n+1) bad ([105,102]::r)=(takeT [116,104,101,110] r0).bind fun r1=>(pieceF n bad r1).bind fun q=>(takeT [101,108,115,101] q.2).bind fun r2=>(pieceF n bad r2).bind fun z=>some (exOp 13 [x0,q.1,z.1],z.2)):=zR (by have h1:=HRT.out;rw[takeT_if r]at h1;obtain rfl:=zP h1;rw[HP0.out,HRP.out];rfl)
      have hSc:=hSa.call hgc
      have hEb:Ext wc (wc.alloc (.cells #[.int .i64 x0.op,.int .i64 x0.var,.int .i64 x0.ty,.int .i64 x0.n,.bool x0.b,.string ⟨x0.s.toArray⟩,.slice A0 x0.l.length k0] 47)):=Ext.alloc _ _
      have hSd:=hSc.call (grown_of hEb _)
      have HCG:Hid (∀(i:Nat) (u:Value),(Nd.cells ⟨x0,A0,k0⟩)[i]?=some u→(wc.alloc (.cells #[.int .i64 x0.op,.int .i64 x0.var,.int .i64 x0.ty,.int .i64 x0.n,.bool x0.b,.string ⟨x0.s.toArray⟩,.slice A0 x0.l.length k0] 47)).cell? ⟨wc.heap.size,i,none⟩=some u):=zR fun i u hi=>by
       rw[World.cell?_alloc_new];exact(by simpa[Nd.cells,Ex.cells]using hi)
      have hsL:s.length<r.length+1:=by have h1:=takeT_len HRT.out;first|omega|(simp only[zH]at h1;omega)
      have hlen4:([]:List Nd).length<4294967296:=by simp
      unfold Ex.cells
      go_wp2_with (at_builtin;go_loud (refine app_N rfl 29 32 rfl (w1.heap.size+1) (.slice none 0 0) [] rfl hSd.own wc.heap.size ⟨x0,A0,k0⟩ rfl HCG.out hlen4 hSd.hbase ?_);intro v1 wb0 hO1 hgv hn1;obtain⟨B0,q0,hv1,hf1⟩:=OwnN.form hO1;subst hv1;clear hf1)
      have hS1:IfS w wb0 b w1.heap.size (w1.heap.size+1) (max 0 e0) (.slice B0 1 q0) [⟨x0,A0,k0⟩]:=hSa.app (nd:=⟨x0,A0,k0⟩) hgc hX hO1 hgv hn1
      have hnb:some b≠Value.ownBlock (.slice none 0 0):=fun e=>by have h1:=(hSa.own.lt b e.symm).1;have h2:=hSa.hblk;have h3:=hSa.hgw;omega
      have hr1:RS wb0 b r0 bad:=(hrc.ext hEb).own hgv hnb
      have htb1:Tabs wb0:=((htba.own hgc hb4).ext hEb).keep hgv.size fun k hk=>hgv.block k (by have:=((htba.own hgc hb4).ext hEb).sz;omega) fun e=>by have h1:=(hSa.own.lt k e.symm).1;have h2:=hSa.hblk;have h3:=hSa.hgw;have h4:=hSa.hb;omega
      have hs1:s.length≤r.length:=by have h1:=takeT_len HRT.out;simp only[zH]at h1;omega
      clear hS0 hSa hSc hSd HCG hr0 hra hrc hO1 hgv hn1 hX htb0 htba hEb hgc hga HPI hnb
      rw[rounds_succ]
      obtain⟨E,hE⟩ :∃E:ByteArray,(⟨([116,104,101,110]:List UInt8).toArray⟩:ByteArray)=E:=⟨_,rfl⟩
      have cw:wb0.cell? ⟨w1.heap.size,1,none⟩=some (.string E):=by rw[←hE];exact hS1.row.2 1 (by decide)
      have TK:=take_any hr1 [116,104,101,110] (by simp)
      unfold rp bs at TK
      rw[hE]at TK
      obtain⟨rT,hrT⟩ :∃rT,takeT [116,104,101,110] r0=rT:=⟨_,rfl⟩
      simp only[hrT]at TK
      have HTK:=zR TK
      have HRT:=zR hrT
      clear hE TK hrT
      go_wp2_with fail
      refine HTK.out.mono ?_
      rintro e wa ⟨hp,hga⟩
      cases rT with
      | none=>
       obtain rfl:=hp
       exact⟨rfl,ReadP.no (by rw[HP1.out,HRT.out];rfl) (grown_trans hS1.grow hga) rfl⟩
      | some s=>
       obtain⟨rfl,hra⟩:=hp
       have hSa:=hS1.call hga
       have htba:=htb1.own hga hb4
       have hsl:2*s.length+1≤n:=by have h1:=takeT_len HRT.out;omega
       have PI:=HPC.out s hsl wa hra htba
       obtain⟨rP,hrP⟩ :∃rP,pieceF n bad s=rP:=⟨_,rfl⟩
       rw[hrP]at PI
       have HPI:=zR PI
       have HRP:=zR hrP
       clear PI hrP cw HTK
       go_wp2_with fail
       refine HPI.out.mono ?_
       rintro e wc ⟨hgc,hp⟩
       cases rP with
       | none=>
        obtain rfl:=hp
        exact⟨rfl,ReadP.no (by rw[HP1.out,HRT.out];show(pieceF n bad s).bind _=none;rw[HRP.out];rfl) (grown_trans hSa.grow hgc) rfl⟩
       | some p1=>
        obtain⟨x1,r1⟩:=p1
        obtain⟨⟨A1,k1,e1,rfl,hX⟩,hrc⟩:=hp
        have hlt1:=HRD.out _ _ _ _ HRP.out
        have HP2:Hid (wholeF (n+1) bad ([105,102]::r)=(takeT [101,108,115,101] r1).bind fun r2=>(pieceF n bad r2).bind fun z=>some (exOp 13 [x0,x1,z.1],z.2)):=zR (by rw[HP1.out,HRT.out];show(pieceF n bad s).bind _=_;rw[HRP.out];rfl)
        have hSc:=hSa.call hgc
        have hEb:Ext wc (wc.alloc (.cells #[.int .i64 x1.op,.int .i64 x1.var,.int .i64 x1.ty,.int .i64 x1.n,.bool x1.b,.string ⟨x1.s.toArray⟩,.slice A1 x1.l.length k1] 47)):=Ext.alloc _ _
        have hSd:=hSc.call (grown_of hEb _)
        have HCG:Hid (∀(i:Nat) (u:Value),(Nd.cells ⟨x1,A1,k1⟩)[i]?=some u→(wc.alloc (.cells #[.int .i64 x1.op,.int .i64 x1.var,.int .i64 x1.ty,.int .i64 x1.n,.bool x1.b,.string ⟨x1.s.toArray⟩,.slice A1 x1.l.length k1] 47)).cell? ⟨wc.heap.size,i,none⟩=some u):=zR fun i u hi=>by
         rw[World.cell?_alloc_new];exact(by simpa[Nd.cells,Ex.cells]using hi)
        have hsL:s.length<r.length+1:=by have h1:=takeT_len HRT.out;first|omega|(simp only[zH]at h1;omega)
        have hlen4:([⟨x0,A0,k0⟩]:List Nd).length<4294967296:=by simp
        unfold Ex.cells
        go_wp2_with (at_builtin;go_loud (refine app_N rfl 29 32 rfl (w1.heap.size+1) (.slice B0 1 q0) [⟨x0,A0,k0⟩] rfl hSd.own wc.heap.size ⟨x1,A1,k1⟩ rfl HCG.out hlen4 hSd.hbase ?_);intro v1 wb1 hO1 hgv hn1;obtain⟨B1,q1,hv1,hf1⟩:=OwnN.form hO1;subst hv1;clear hf1)
        have hS2:IfS w wb1 b w1.heap.size (w1.heap.size+1) (max (max 0 e0) e1) (.slice B1 2 q1) [⟨x0,A0,k0⟩,⟨x1,A1,k1⟩]:=hSa.app (nd:=⟨x1,A1,k1⟩) hgc hX hO1 hgv hn1
        have hnb:some b≠Value.ownBlock (.slice B0 1 q0):=fun e=>by have h1:=(hSa.own.lt b e.symm).1;have h2:=hSa.hblk;have h3:=hSa.hgw;omega
        have hr2:RS wb1 b r1 bad:=(hrc.ext hEb).own hgv hnb
        have htb2:Tabs wb1:=((htba.own hgc hb4).ext hEb).keep hgv.size fun k hk=>hgv.block k (by have:=((htba.own hgc hb4).ext hEb).sz;omega) fun e=>by have h1:=(hSa.own.lt k e.symm).1;have h2:=hSa.hblk;have h3:=hSa.hgw;have h4:=hSa.hb;omega
        have hs2:s.length≤r0.length:=by have h1:=takeT_len HRT.out;omega
        clear hS1 hSa hSc hSd HCG hr1 hra hrc hO1 hgv hn1 hX htb1 htba hEb hgc hga HPI hnb
        rw[rounds_succ]
        obtain⟨E,hE⟩ :∃E:ByteArray,(⟨([101,108,115,101]:List UInt8).toArray⟩:ByteArray)=E:=⟨_,rfl⟩
        have cw:wb1.cell? ⟨w1.heap.size,2,none⟩=some (.string E):=by rw[←hE];exact hS2.row.2 2 (by decide)
        have TK:=take_any hr2 [101,108,115,101] (by simp)
        unfold rp bs at TK
        rw[hE]at TK
        obtain⟨rT,hrT⟩ :∃rT,takeT [101,108,115,101] r1=rT:=⟨_,rfl⟩
        simp only[hrT]at TK
        have HTK:=zR TK
        have HRT:=zR hrT
        clear hE TK hrT
        go_wp2_with fail
        refine HTK.out.mono ?_
        rintro e wa ⟨hp,hga⟩
        cases rT with
        | none=>
         obtain rfl:=hp
         exact⟨rfl,ReadP.no (by rw[HP2.out,HRT.out];rfl) (grown_trans hS2.grow hga) rfl⟩
        | some s=>
         obtain⟨rfl,hra⟩:=hp
         have hSa:=hS2.call hga
         have htba:=htb2.own hga hb4
         have hsl:2*s.length+1≤n:=by have h1:=takeT_len HRT.out;omega
         have PI:=HPC.out s hsl wa hra htba
         obtain⟨rP,hrP⟩ :∃rP,pieceF n bad s=rP:=⟨_,rfl⟩
         rw[hrP]at PI
         have HPI:=zR PI
         have HRP:=zR hrP
         clear PI hrP cw HTK
         go_wp2_with fail
         refine HPI.out.mono ?_
         rintro e wc ⟨hgc,hp⟩
         cases rP with
         | none=>
          obtain rfl:=hp
          exact⟨rfl,ReadP.no (by rw[HP2.out,HRT.out];show(pieceF n bad s).bind _=none;rw[HRP.out];rfl) (grown_trans hSa.grow hgc) rfl⟩
         | some p2=>
          obtain⟨x2,r2⟩:=p2
          obtain⟨⟨A2,k2,e2,rfl,hX⟩,hrc⟩:=hp
          have hlt2:=HRD.out _ _ _ _ HRP.out
          have HP3:Hid (wholeF (n+1) bad ([105,102]::r)=some (exOp 13 [x0,x1,x2],r2)):=zR (by rw[HP2.out,HRT.out];show(pieceF n bad s).bind _=_;rw[HRP.out];rfl)
          have hSc:=hSa.call hgc
          have hEb:Ext wc (wc.alloc (.cells #[.int .i64 x2.op,.int .i64 x2.var,.int .i64 x2.ty,.int .i64 x2.n,.bool x2.b,.string ⟨x2.s.toArray⟩,.slice A2 x2.l.length k2] 47)):=Ext.alloc _ _
          have hSd:=hSc.call (grown_of hEb _)
          have HCG:Hid (∀(i:Nat) (u:Value),(Nd.cells ⟨x2,A2,k2⟩)[i]?=some u→(wc.alloc (.cells #[.int .i64 x2.op,.int .i64 x2.var,.int .i64 x2.ty,.int .i64 x2.n,.bool x2.b,.string ⟨x2.s.toArray⟩,.slice A2 x2.l.length k2] 47)).cell? ⟨wc.heap.size,i,none⟩=some u):=zR fun i u hi=>by
           rw[World.cell?_alloc_new];exact(by simpa[Nd.cells,Ex.cells]using hi)
          have hsL:s.length<r.length+1:=by have h1:=takeT_len HRT.out;first|omega|(simp only[zH]at h1;omega)
          have hlen4:([⟨x0,A0,k0⟩,⟨x1,A1,k1⟩]:List Nd).length<4294967296:=by simp
          unfold Ex.cells
          go_wp2_with (at_builtin;go_loud (refine app_N rfl 29 32 rfl (w1.heap.size+1) (.slice B1 2 q1) [⟨x0,A0,k0⟩,⟨x1,A1,k1⟩] rfl hSd.own wc.heap.size ⟨x2,A2,k2⟩ rfl HCG.out hlen4 hSd.hbase ?_);intro v1 wb2 hO1 hgv hn1;obtain⟨B2,q2,hv1,hf1⟩:=OwnN.form hO1;subst hv1;clear hf1)
          have hS3:IfS w wb2 b w1.heap.size (w1.heap.size+1) (max (max (max 0 e0) e1) e2) (.slice B2 3 q2) [⟨x0,A0,k0⟩,⟨x1,A1,k1⟩,⟨x2,A2,k2⟩]:=hSa.app (nd:=⟨x2,A2,k2⟩) hgc hX hO1 hgv hn1
          have hnb:some b≠Value.ownBlock (.slice B1 2 q1):=fun e=>by have h1:=(hSa.own.lt b e.symm).1;have h2:=hSa.hblk;have h3:=hSa.hgw;omega
          have hr3:RS wb2 b r2 bad:=(hrc.ext hEb).own hgv hnb
          have htb3:Tabs wb2:=((htba.own hgc hb4).ext hEb).keep hgv.size fun k hk=>hgv.block k (by have:=((htba.own hgc hb4).ext hEb).sz;omega) fun e=>by have h1:=(hSa.own.lt k e.symm).1;have h2:=hSa.hblk;have h3:=hSa.hgw;have h4:=hSa.hb;omega
          have hs3:s.length≤r1.length:=by have h1:=takeT_len HRT.out;omega
          clear hS2 hSa hSc hSd HCG hr2 hra hrc hO1 hgv hn1 hX htb2 htba hEb hgc hga HPI hnb
          rw[rounds_succ]
          obtain⟨u0,u1,u2,u3,u4,u5,u6⟩:=hS3.z.cells
          obtain⟨f0,f1,f2,f3,f4,f5,f6⟩:=hS3.z.free
          go_wp2_with fail
          obtain⟨hLs,_⟩:=OwnN.list (S:=fun k=>w1.heap.size+1≤k∧k<wb2.heap.size) hS3.own (hS3.kids.more fun k hk=>⟨hk.1,hk.2.1⟩) (fun k h1 h2=>⟨h1,h2⟩)
          exact fin_exp rfl (exOp 13 [x0,x1,x2]) r2 HP3.out hS3.z (zM _) hbl hS3.grow hr3 B2 3 q2 _ rfl (hLs.more fun k hk=>⟨by have:=hS3.hblk;omega,hk.2,by have:=hS3.hblk;omega⟩) rfl
   ·rw[decide_eq_false hI]at hqI
    obtain⟨res,hres⟩ :∃res,pieceF n bad (t::r)=res:=⟨_,rfl⟩
    have HP:Hid (wholeF (n+1) bad (t::r)=res.bind fun p=>tailF n bad p.1 p.2):=zR (by rw[whole_two n bad t r hN hI,hres])
    have HRES:=zR hres
    have HPI:=zR (fun(W:World) (h1:RS W b (t::r) bad) (h2:Tabs W)=>HPC.out (t::r) (by simp only[zH];omega) W h1 h2)
    simp only[hres]at HPI
    unfold rp bs at *
    rw[hD]at HN
    clear hD hN hI hres
    go_enter Tryz.func138,Tryz.ntmps138
    go_upto_region 1 with fail
    rw[HW.out]
    go_wp2_with fail
    refine HN.out.mono ?_
    rintro e w1 ⟨rfl,hr1,hg1⟩
    have hG1:=grown_trans hG0 hg1
    have hz1:=hz.own hg1 HBK.out
    have htb1:=HTB.out.own hg1 hb4
    go_wp2_with fail
    refine(HPI.out _ hr1 htb1).mono ?_
    rintro e w2 ⟨hg2,hp⟩
    have hG2:=grown_trans hG1 hg2
    have hz2:=hz1.own hg2 HBK.out
    have htb2:=htb1.own hg2 hb4
    cases res with
    | none=>
     obtain rfl:=hp
     exact⟨rfl,ReadP.no (by rw[HP.out];rfl) hG2 rfl⟩
    | some p=>
     obtain⟨x,r1⟩:=p
     obtain⟨⟨A,c,d,rfl,hX⟩,hr2⟩:=hp
     have hlt1:=(read_len n).2 _ _ _ _ HRES.out
     have hin3:=InBlk.new2 w2 x A c
     have hE3:Ext w2 (w2.alloc (.cells (x.cells A c).toArray 47)):=Ext.alloc _ _
     have hs12:w.heap.size<w2.heap.size∧b<w2.heap.size:=by have h1:=hg1.size;have h2:=hg2.size;have h0:=HS0.out;omega
     have hX2:ExL w2 (fun k=>w.heap.size<k∧k<w2.heap.size) d A x.l:=hX.more fun k hk=>⟨by have h1:=hg1.size;have h0:=HS0.out;omega,hk.2⟩
     have HP2:Hid (wholeF (n+1) bad (t::r)=tailF n bad x r1):=zR (by rw[HP.out];rfl)
     have HTK:=zR hr2.toks
     have hz3:=hz2.own (grown_of hE3 none) (by simp)
     have hr3:=hr2.ext hE3
     have hG3:=grown_trans hG2 (grown_of hE3 _)
     have htb3:=htb2.ext hE3
     obtain⟨w3,hw3⟩ :∃w3,w2.alloc (.cells (x.cells A c).toArray 47)=w3:=⟨_,rfl⟩
     have hs3:w3.heap.size=w2.heap.size+1:=by rw[←hw3];simp
     have HW3:=zR hw3
     have HS3:=zR hs3
     rw[hw3]at hin3 hE3 hz3 hr3 hG3 htb3
     have hX3:ExL w3 (fun k=>w.heap.size<k∧k<w2.heap.size) d A x.l:=hX2.keep fun k hk o=>hE3.old (p:=⟨k,o,none⟩) hk.2
     unfold Ex.cells at *
     clear hX hX2 HP hz2 hr2 hG2 htb2 hw3 hs3 HPI
     go_upto_region 15 with fail
     rw[HW3.out]
     go_wp2_with fail
     refine(words_any _).mono ?_
     rintro e w4 ⟨rfl,hrow,hE4⟩
     have h9:wdL.length=9:=rfl
     simp only[h9]
     have hz4:=hz3.own (grown_of hE4 none) (by simp)
     have hr4:=hr3.ext hE4
     have hG4:=grown_trans hG3 (grown_of hE4 _)
     have htb4:=htb3.ext hE4
     have hin4:=hin3.ext hE4
     have IX:=zR (show ∀(g:Nat) W (u:Tok),RowS W g wdL→Calls Tryz.prog 164 #[.slice (some ⟨g,0,none⟩) 9 9,.string ⟨u.toArray⟩] W fun e w'=>e=.returned (.int .i64 (ixI wdL u))∧w'=W from fun g W u hR=>index_any wdL u g W hR (by decide))
     clear h9
     go_wp2_with fail
     cases r1 with
     | nil=>
      cases bad with
      | true=>
       have PK:=zR (peek_bad hr4)
       unfold rp at PK
       refine PK.out.mono ?_
       rintro e w5 ⟨rfl,hg5⟩
       exact⟨rfl,ReadP.no (by rw[HP2.out];rfl) (grown_trans hG4 hg5) rfl⟩
      | false=>
       have PK:=zR (peek_ok hr4 (.inr rfl))
       have hi:ixI wdL [] = -1:=by decide
       have HPx:Hid (wholeF (n+1) false (t::r)=some (x,[])):=zR (by rw[HP2.out];rfl)
       unfold rp bs hd at PK
       simp only[zG]at PK
       refine PK.out.mono ?_
       rintro e w5 ⟨rfl,hr5,hg5⟩
       have hG5:=grown_trans hG4 hg5
       have hz5:=hz4.own hg5 HBK.out
       have hin5:=hin4.own hg5 (by simp;omega)
       have hrow5:RowS w5 w3.heap.size wdL:=⟨zN hrow.1 hg5.size,fun j hj=>(grown_cell hg5 hrow.1 (by have h3:=HS3.out;simp;omega) j).trans (hrow.2 j hj)⟩
       have hX5:ExL w5 (fun k=>w.heap.size≤k∧k<w5.heap.size∧k≠w.heap.size) d A x.l:=((hX3.keep fun k hk o=>hE4.old (p:=⟨k,o,none⟩) (by have:=HS3.out;show k<_;omega)).keep fun k hk o=>grown_cell hg5 (by have h3:=HS3.out;have h4:=hE4.sz;omega) (by have:=hk.1;simp;omega) o).more fun k hk=>⟨by omega,by have h3:=HS3.out;have h4:=hE4.sz;have h5:=hg5.size;omega,by omega⟩
       have HX5:=zR hX5
       obtain⟨i0,i1,i2,i3,i4,i5,i6⟩:=hin5.cells
       obtain⟨u0,u1,u2,u3,u4,u5,u6⟩:=hz5.cells
       obtain⟨f0,f1,f2,f3,f4,f5,f6⟩:=hz5.free
       clear hX5 hX3
       go_wp2_with fail
       refine(IX.out _ _ [] hrow5).mono ?_
       rintro e w' ⟨rfl,rfl⟩
       rw[hi]
       go_wp2_with fail
       exact fin_exp rfl x [] HPx.out hz5 (zM _) hbl hG5 hr5 A x.l.length c d rfl HX5.out rfl
     | cons o r2=>
      have PK:=zR (peek_ok hr4 (.inl (by simp)))
      unfold rp bs hd at PK
      simp only[zF]at PK
      cases hix:ix wdL o with
      | none=>
       have hi:ixI wdL o = -1:=by unfold ixI;rw[hix]
       have HPx:Hid (wholeF (n+1) bad (t::r)=some (x,o::r2)):=zR (by rw[HP2.out,tailF_none hix])
       clear hix
       refine PK.out.mono ?_
       rintro e w5 ⟨rfl,hr5,hg5⟩
       have hG5:=grown_trans hG4 hg5
       have hz5:=hz4.own hg5 HBK.out
       have hin5:=hin4.own hg5 (by simp;omega)
       have hrow5:RowS w5 w3.heap.size wdL:=⟨zN hrow.1 hg5.size,fun j hj=>(grown_cell hg5 hrow.1 (by have h3:=HS3.out;simp;omega) j).trans (hrow.2 j hj)⟩
       have hX5:ExL w5 (fun k=>w.heap.size≤k∧k<w5.heap.size∧k≠w.heap.size) d A x.l:=((hX3.keep fun k hk o=>hE4.old (p:=⟨k,o,none⟩) (by have:=HS3.out;show k<_;omega)).keep fun k hk o=>grown_cell hg5 (by have h3:=HS3.out;have h4:=hE4.sz;omega) (by have:=hk.1;simp;omega) o).more fun k hk=>⟨by omega,by have h3:=HS3.out;have h4:=hE4.sz;have h5:=hg5.size;omega,by omega⟩
       have HX5:=zR hX5
       obtain⟨i0,i1,i2,i3,i4,i5,i6⟩:=hin5.cells
       obtain⟨u0,u1,u2,u3,u4,u5,u6⟩:=hz5.cells
       obtain⟨f0,f1,f2,f3,f4,f5,f6⟩:=hz5.free
       clear hX5 hX3
       go_wp2_with fail
       refine(IX.out _ _ o hrow5).mono ?_
       rintro e w' ⟨rfl,rfl⟩
       rw[hi]
       go_wp2_with fail
       exact fin_exp rfl x (o::r2) HPx.out hz5 (zM _) hbl hG5 hr5 A x.l.length c d rfl HX5.out rfl
      | some k=>
       have hi:ixI wdL o=(k:Int):=by unfold ixI;rw[hix]
       have hk9:k<9:=ix_lt hix
       obtain⟨res2,hres2⟩ :∃res2,pieceF n bad r2=res2:=⟨_,rfl⟩
       have HPx:Hid (wholeF (n+1) bad (t::r)=res2.bind fun q=>some (exOp (4+(k:Int)) [x,q.1],q.2)):=zR (by rw[HP2.out,tailF_some hix,hres2])
       have HPI2:=zR (fun(W:World) (h1:RS W b r2 bad) (h2:Tabs W)=>HPC.out r2 (by simp only[zH]at hlt1;omega) W h1 h2)
       simp only[hres2]at HPI2
       clear hix hres2
       refine PK.out.mono ?_
       rintro e w5 ⟨rfl,hr5,hg5⟩
       have hG5:=grown_trans hG4 hg5
       have hz5:=hz4.own hg5 HBK.out
       have hin5:=hin4.own hg5 (by simp;omega)
       have hrow5:RowS w5 w3.heap.size wdL:=⟨zN hrow.1 hg5.size,fun j hj=>(grown_cell hg5 hrow.1 (by have h3:=HS3.out;simp;omega) j).trans (hrow.2 j hj)⟩
       have htb5:=htb4.own hg5 hb4
       have hX5:ExL w5 (fun k=>w.heap.size<k∧k<w2.heap.size) d A x.l:=(hX3.keep fun k hk o=>hE4.old (p:=⟨k,o,none⟩) (by have:=HS3.out;show k<_;omega)).keep fun k hk o=>grown_cell hg5 (by have h3:=HS3.out;have h4:=hE4.sz;omega) (by have:=hk.1;simp;omega) o
       go_wp2_with fail
       refine(IX.out _ _ o hrow5).mono ?_
       rintro e w' ⟨rfl,rfl⟩
       rw[hi]
       go_wp2_with fail
       have NX:=zR (next_tok hr5)
       unfold rp bs at NX
       refine NX.out.mono ?_
       rintro e w6 ⟨rfl,hr6,hg6⟩
       have hG6:=grown_trans hG5 hg6
       have hz6:=hz5.own hg6 HBK.out
       have hin6:=hin5.own hg6 (by simp;omega)
       have htb6:=htb5.own hg6 hb4
       have hX6:ExL w6 (fun k=>w.heap.size<k∧k<w2.heap.size) d A x.l:=hX5.keep fun k hk o=>grown_cell hg6 (by have h3:=HS3.out;have h4:=hE4.sz;have h5:=hg5.size;omega) (by have:=hk.1;simp;omega) o
       obtain⟨i0,i1,i2,i3,i4,i5,i6⟩:=hin6.cells
       go_wp2_with fail
       have hwr:IntKind.i64.wrap (4+(k:Int))=4+(k:Int):=IntWalk.i64_in _ (by omega)
       cases res2 with
       | none=>
        apply wp_region_relZ (E:=Ext) (fun ch W=>ch=wrong∧w.grownBy W (some b)) Ext.refl @Ext.trans (l:=[_,_,_,_,_,_]) (t:=[_,_]) [some 48,some 49,some 50,some 51,some 52,some 53,some 54,none] [[],[0],[],[],[3],[2,4],[1,5],[6]] [1,6,5,4,5,6] [eqr _,eqr _,eqr _,eqr _,(nor),(anyr)] (by kernel_rfl) (by kernel_rfl) ⟨?o0,?o1,?o2,?o3,?o4,?o5,trivial⟩ (fun a' ch W hd hz=>⟨hd,ReadP.no (by rw[HPx.out];rfl) hz.2 (by rw[hz.1])⟩) ?last
        case o0=>
         intro xv W hE _
         simp only[putD,zB,zD]
         refine .inl ?_
         refine OpGoal.plain ?_
         go_wp2_with fail
         exact⟨rfl,Ext.refl _,rfl⟩
        case o1=>
         intro xv W hE hp
         have r0:xv 0=_:=hp.1
         clear hp
         simp only[putD,zB,zA,zD,zC,Act.put,zJ,zL,zK]
         refine .inl ?_
         refine OpGoal.plain ?_
         go_wp2_with fail
         exact⟨rfl,Ext.refl _,rfl⟩
        case o2=>
         intro xv W hE _
         obtain⟨y0,y1,y2,y3,y4,y5,y6⟩:=(hin6.ext ((Ext.drew _).trans hE)).cells
         simp only[putD,zB,zD,zC]
         refine .inl ?_
         refine OpGoal.plain ?_
         go_wp2_with fail
         exact⟨rfl,Ext.refl _,rfl⟩
        case o3=>
         intro xv W hE _
         simp only[putD,zB,zD,zC]
         refine .inl ?_
         refine OpGoal.plain ?_
         go_wp2_with fail
         exact⟨rfl,Ext.refl _,rfl⟩
        case o4=>
         intro xv W hE hp
         have r3:xv 3=_:=hp.1
         clear hp
         simp only[putD,zB,zA,zD,zC,Act.put,zJ,zL,zK]
         refine .inr ⟨rfl,?_⟩
         go_simp
         have hEw:Ext w6 W:=(Ext.drew _).trans hE
         refine(HPI2.out _ (hr6.ext hEw) (htb6.ext hEw)).mono ?_
         rintro e w7 ⟨hg7,hp7⟩
         obtain rfl:=hp7
         exact⟨rfl,grown_trans (grown_trans hG6 (grown_of hEw _)) hg7⟩
        case o5=>
         intro xv W hE hp
         have r2:xv 2=_:=hp.1
         have r4:=hp.2.1
         clear hp
         simp only[putD,zB,zA,zD,zC,Act.put,zJ,zL,zK]
         refine .inl ?_
         refine OpGoal.plain ?_
         exact False.elim r4
        case last=>
         intro xv W hE hp
         have r0:xv 0=_:=hp.1
         have r1:xv 1=_:=hp.2.1
         have r2:xv 2=_:=hp.2.2.1
         have r3:xv 3=_:=hp.2.2.2.1
         have r4:=hp.2.2.2.2.1
         have r5:=hp.2.2.2.2.2.1
         clear hp
         simp only[putD,zB,zA,zD,zC,Act.put,zH,zI,List.range_succ,List.range_zero,List.nil_append,List.cons_append,zJ,zL,zK]
         exact False.elim r4
       | some q=>
        obtain⟨y,r3⟩:=q
        have H1S:=zR (show w.heap.size<w2.heap.size∧b<w2.heap.size∧w2.heap.size≤w6.heap.size by have h3:=HS3.out;have h4:=hE4.sz;have h5:=hg5.size;have h6:=hg6.size;omega)
        have HX6:=zR hX6
        clear hX6 hX5 hX3
        go_region_with (go_at_call 163;refine(HPI2.out _ (by first|exact hr6.ext (Ext.drew _)|exact hr6) (by first|exact htb6.ext (Ext.drew _)|exact htb6)).mono ?_;rintro e w7 ⟨hg7,hp7⟩;obtain⟨⟨A2,c2,d2,rfl,hX7⟩,hr7⟩:=hp7;unfold Ex.cells;have hg67:w6.grownBy w7 (some b):=(by first|exact hg7|exact grown_trans (grown_of (Ext.drew _) _) hg7);have hz7:=hz6.own hg67 HBK.out;have hin7:=hin6.own hg67 (by simp;omega);obtain⟨j0,j1,j2,j3,j4,j5,j6⟩:=hin7.cells;have hE8:Ext w7 (w7.alloc (.cells #[.int .i64 x.op,.int .i64 x.var,.int .i64 x.ty,.int .i64 x.n,.bool x.b,.string ⟨x.s.toArray⟩,.slice A x.l.length c,.int .i64 y.op,.int .i64 y.var,.int .i64 y.ty,.int .i64 y.n,.bool y.b,.string ⟨y.s.toArray⟩,.slice A2 y.l.length c2] 47)):=Ext.alloc _ _;have hz8:=hz7.own (grown_of hE8 none) (by simp);obtain⟨u0,u1,u2,u3,u4,u5,u6⟩:=hz8.cells;obtain⟨f0,f1,f2,f3,f4,f5,f6⟩:=hz8.free)
        all_goals
         go_wp2_with fail
         have h1s:=H1S.out
         have hs7:=hg67.size
         have hG7:=grown_trans hG6 hg67
         have hr8:=hr7.ext hE8
         have hG8:=grown_trans hG7 (grown_of hE8 _)
         have hX7a:=(HX6.out.keep fun k hk o=>grown_cell hg67 (by omega) (by have:=hk.1;simp;omega) o)
         refine fin_exp rfl (exOp (4+(k:Int)) [x,y]) r3 (by rw[HPx.out];rfl) hz8 (zM _) hbl hG8 hr8 (some ⟨w7.heap.size,0,none⟩) 2 2 (max d d2+1) rfl ?_ rfl
         refine ExL.row (us:=[⟨x,A,c⟩,⟨y,A2,c2⟩]) ⟨by omega,by simp,by omega⟩ ?_ ?_
         ·intro u hu
          simp only[List.mem_cons,List.not_mem_nil,or_false]at hu
          rcases hu with rfl|rfl
          ·exact(((hX7a.keep fun k hk o=>hE8.old (p:=⟨k,o,none⟩) (by show k<_;omega)).more fun k hk=>⟨by omega,by have:=hE8.sz;omega,by omega⟩).deep (Nat.le_max_left _ _))
          ·exact(((hX7.keep fun k hk o=>hE8.old (p:=⟨k,o,none⟩) hk.2).more fun k hk=>⟨by have h1:w6.heap.size≤k:=hk.1;omega,by have:=hE8.sz;have:=hk.2;omega,by have h1:w6.heap.size≤k:=hk.1;omega⟩).deep (Nat.le_max_right _ _))
         ·intro i v hi
          rw[World.cell?_alloc_new]
          simpa[Nd.cells,Ex.cells]using hi
end Go.Proofs.YtmiencglfhpmeaaGreatDoor
