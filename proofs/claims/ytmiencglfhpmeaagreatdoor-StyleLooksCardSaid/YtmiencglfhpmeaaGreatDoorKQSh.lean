/- The contracts of style.check and style.Check. -/
import Derived.Test.YtmiencglfhpmeaaGreatDoorKQSe
import Derived.Test.YtmiencglfhpmeaaGreatDoorKQSa
import Derived.Test.YtmiencglfhpmeaaGreatDoorKQXh
import Derived.Deep.Cut
open List renaming cons_append → zA, foldl_cons → zB, foldl_nil → zC, getD_cons_succ → zD, getD_cons_zero → zE, getElem_mem → zF, length_append → zG, length_cons → zH, length_nil → zI, length_take → zJ, nil_append → zK, range_succ → zL, range_zero → zM, setIfInBounds_toArray → zN, set_cons_succ → zO, set_cons_zero → zP
open Nat renaming zero_add → zQ
open Go.Lib renaming hid → zR
set_option linter.unusedSimpArgs false
set_option linter.unusedVariables false
namespace Go.Proofs.YtmiencglfhpmeaaGreatDoor
open Go.RowKit Hach
def Rl.ok (r:Rl):Prop:=r.nm.length<4294967296∧InI r.pr∧(r.e1.ok∧r.e1.size<1099511627776)∧(r.e2.ok∧r.e2.size<1099511627776)∧(r.e3.ok∧r.e3.size<1099511627776)∧(r.e4.ok∧r.e4.size<1099511627776)
theorem ExL.rng {w:World}{S:Nat→Prop}{d:Nat}{A:Option Addr}{l:List Ex}(h:ExL w S (d+1) A l) {j:Nat}(hj:j<l.length) :∃b o A' c',A=some ⟨b,o,none⟩∧S b∧ExL w S d A' (l[j]).l∧w.rangeAt b (o+j*7) ((l[j]).cells A' c'):=by
 obtain⟨b,o,e,hb,hx⟩:=h (fun e=>by rw[e]at hj;simp at hj)
 obtain⟨A',c',h1,h2⟩:=hx j l[j] (List.getElem?_eq_getElem hj)
 exact⟨b,o,A',c',e,hb,h1,h2⟩
def wantAt (k:Nat):Int:=if k=0 then 2 else 1
def tysF (k:Nat):List Ex→Int
 | []=>0
 | e::l=>if tyE e (wantAt k)≠0 then tyE e (wantAt k) else tysF (k+1) l
theorem tysF_four (r:Rl):tysF 0 [r.e1,r.e2,r.e3,r.e4]=if tyE r.e1 2≠0 then tyE r.e1 2 else if tyE r.e2 1≠0 then tyE r.e2 1 else if tyE r.e3 1≠0 then tyE r.e3 1 else tyE r.e4 1:=by
 by_cases h1:tyE r.e1 2=0<;>by_cases h2:tyE r.e2 1=0<;>by_cases h3:tyE r.e3 1=0<;>by_cases h4:tyE r.e4 1=0<;>simp[tysF,wantAt,h1,h2,h3,h4]
theorem tysF_at (l:List Ex) :∀(k:Nat) (hk:k<l.length),tysF k (l.drop k)=if tyE l[k] (wantAt k)≠0 then tyE l[k] (wantAt k) else tysF (k+1) (l.drop (k+1)):=fun k hk=>by
 rw[List.drop_eq_getElem_cons hk,tysF]
set_option maxRecDepth 100000 in
set_option maxHeartbeats 4000000 in
theorem check_any (u:Rn) (l:List Rl) (A:Option Addr) (c d:Nat) (w:World) (hk:u.kidsB w w.heap.size d) (hX:RlB w w.heap.size d A l) (hl:l.length<4294967296) (hok:u.r.ok) :
  Calls Tryz.prog 37 #[.agg u.cells.toArray,.slice A l.length c] w fun e w'=>e=.returned (.int .i64 (u.r.err l))∧Ext w w':=by
 obtain⟨w1,hw1⟩ :∃w1,w.alloc (.cells u.cells.toArray 49)=w1:=⟨_,rfl⟩
 have hB:=RnB.new w u
 rw[hw1]at hB
 have hE1:Ext w w1:=by rw[←hw1];exact Ext.alloc _ _
 have HB:=zR hB
 have HK:=zR (hk.ext hE1)
 have HX:=zR (hX.ext hE1)
 have HOK:=zR hok
 have HE1:=zR hE1
 have HW1:=zR hw1
 obtain⟨b,hb⟩ :∃b,w.heap.size=b:=⟨_,rfl⟩
 have HBb:Hid (RnB w1 b u):=zR (by rw[←hb];exact hB)
 have hn:=(rn_facts HBb.out.range).nm
 clear hB hk hX hok hw1 hE1
 go_enter Tryz.func37,Tryz.ntmps37
 go_upto_region 1 with fail
 rw[HW1.out]
 go_wp2_with fail
 refine(Right_any u.r.nm HOK.out.1 w1).mono ?_
 rintro e w2 ⟨rfl,hE2⟩
 have HE2:=zR hE2
 obtain⟨q,hq⟩ :∃q,nmOk u.r.nm=q:=⟨_,rfl⟩
 have HQ:=zR hq
 rw[hq]
 clear hq hE2 hn
 cases q with
 | false=>
  have HR:Hid (u.r.err l=15):=zR (by unfold Rl.err;rw[if_pos HQ.out])
  go_wp2_with fail
  go_ret
  exact⟨by rw[HR.out];rfl,HE1.out.trans HE2.out⟩
 | true=>
  have hlt2:b<w2.heap.size:=Nat.lt_of_lt_of_le HBb.out.lt HE2.out.sz
  have CR:=zR (contR_any l u.r.nm A c b d w2 (HX.out.ext HE2.out) hl hlt2 (rn_facts (HBb.out.ext HE2.out).range).nm)
  go_wp2_with fail
  refine CR.out.mono ?_
  rintro e w3 ⟨rfl,hE3⟩
  have HE3:=zR (HE2.out.trans hE3)
  obtain⟨q,hq⟩ :∃q,l.any (fun x=>decide (x.nm=u.r.nm))=q:=⟨_,rfl⟩
  have HQ2:=zR hq
  rw[hq]
  clear hq hE3
  cases q with
  | true=>
   have HR:Hid (u.r.err l=6):=zR (by unfold Rl.err;rw[if_neg (by rw[HQ.out];simp),if_pos HQ2.out])
   go_wp2_with fail
   go_ret
   exact⟨by rw[HR.out];rfl,HE1.out.trans HE3.out⟩
  | false=>
   have hp3:=(rn_facts (HBb.out.ext HE3.out).range).pr
   obtain⟨p,hp⟩ :∃p,u.r.pr=p:=⟨_,rfl⟩
   rw[hp,zQ]at hp3
   have HP:=zR hp
   clear hp
   by_cases g1:p<0
   ·have y1:decide (p<0)=true:=by simpa using g1
    have HR:Hid (u.r.err l=3):=zR (by unfold Rl.err;rw[if_neg (by rw[HQ.out];simp),if_neg (by rw[HQ2.out];simp),HP.out,if_pos (by omega)])
    clear g1
    go_wp2_with fail
    go_ret
    exact⟨by rw[HR.out];rfl,HE1.out.trans HE3.out⟩
   ·have y1:decide (p<0)=false:=by simpa using g1
    by_cases g2:1000<p
    ·have y2:decide (1000<p)=true:=by simpa using g2
     have HR:Hid (u.r.err l=3):=zR (by unfold Rl.err;rw[if_neg (by rw[HQ.out];simp),if_neg (by rw[HQ2.out];simp),HP.out,if_pos (by omega)])
     clear g1 g2
     go_wp2_with fail
     go_ret
     exact⟨by rw[HR.out];rfl,HE1.out.trans HE3.out⟩
    ·have y2:decide (1000<p)=false:=by simpa using g2
     have HR:Hid (u.r.err l=tysF 0 [u.r.e1,u.r.e2,u.r.e3,u.r.e4]):=zR (by
      rw[tysF_four];unfold Rl.err;rw[if_neg (by rw[HQ.out];simp),if_neg (by rw[HQ2.out];simp),HP.out,if_neg (by omega)])
     clear g1 g2
     have hr3:=(HBb.out.ext HE3.out).range
     have EX:=zR (expressions_any u d w3 (HK.out.ext HE3.out))
     go_wp2_with (first|(refine load_R rfl _ rfl _ _ _ hr3 rfl rfl ?_))
     refine EX.out.mono ?_
     rintro e w4 ⟨g,rfl,hg,hX4,hE4⟩
     have HE4:=zR (HE3.out.trans hE4)
     have HX4:=zR hX4
     obtain⟨L,hL⟩ :∃L,[u.r.e1,u.r.e2,u.r.e3,u.r.e4]=L:=⟨_,rfl⟩
     have HOL:Hid (∀(j:Nat) (hj:j<L.length),(L[j]).ok∧(L[j]).size<1099511627776):=zR (by
      subst hL
      intro j hj
      obtain⟨_,_,o1,o2,o3,o4⟩:=HOK.out
      match j,hj with
      | 0,_=>exact o1
      | 1,_=>exact o2
      | 2,_=>exact o3
      | 3,_=>exact o4)
     have hL4:L.length=4:=by rw[←hL];rfl
     rw[hL]at HR HX4
     clear hL hX4 hE4 hr3 hp3 y1 y2 EX
     go_wp2_with fail
     go_loopw [31] (fun kv wr =>∃k:Nat,k≤4∧kv=.int .i64 k∧Hid (tysF 0 L=tysF k (L.drop k))∧Ext w4 wr) (fun kv _=>4-(intOf kv).toNat)
     case atStart=>exact⟨0,by omega,rfl,zR rfl,Ext.refl _⟩
     case round=>
      obtain⟨k,hk4,rfl,HT,hE⟩:=hrel
      have HEw:=zR (HE1.out.trans (HE4.out.trans hE))
      have HE0:=zR hE
      by_cases hlt:k<4
      ·have hkl:k<L.length:=by omega
       have tk:decide ((k:Int)<4)=true:=by simp;omega
       obtain⟨g',o,A',c',hgo,hgb,hX',hr⟩:=(ExL.ext HX4.out hE).rng hkl
       simp only[Option.some.injEq,Addr.mk.injEq]at hgo
       obtain⟨rfl,rfl,_⟩:=hgo
       have hTA:=HT.out.trans (tysF_at L k hkl)
       obtain⟨o1,o2⟩:=HOL.out k hkl
       obtain⟨x,hx⟩ :∃x,L[k]=x:=⟨_,rfl⟩
       rw[hx]at hTA o1 o2 hX' hr
       rw[zQ]at hr
       have HTA:=zR hTA
       have CH:=zR (fun(W:World) (h:Ext wr W)=>Check_any x d A' c' W (ExL.ext hX' h) o2 o1)
       unfold Ex.cells at hr CH
       clear hTA o1 o2 hX' hx HT hE
       have hcase:(((k:Int) == 0)=true∧wantAt k=2)∨(((k:Int) == 0)=false∧wantAt k=1):=by
        unfold wantAt
        by_cases h0:k=0
        ·left;subst h0;exact⟨rfl,rfl⟩
        ·right;exact⟨by rw[beq_eq_false_iff_ne];omega,by rw[if_neg h0]⟩
       rcases hcase with⟨y0,hw⟩|⟨y0,hw⟩
       ·rw[hw]at HTA
        clear hw
        go_wp2_with (first|(refine load_E rfl _ rfl _ _ _ hr rfl rfl ?_))
        refine(CH.out _ (Ext.alloc _ _)).mono ?_
        rintro e w' ⟨rfl,hE'⟩
        have HS':=zR ((Ext.alloc _ _).trans hE')
        clear hE' hr
        obtain⟨E,hEE⟩ :∃E,chkE x=E:=⟨_,rfl⟩
        obtain⟨T,hTT⟩ :∃T,chkT x=T:=⟨_,rfl⟩
        unfold tyE at HTA
        rw[hEE,hTT]at HTA
        rw[hEE,hTT]
        clear hEE hTT
        by_cases e0:E=0
        ·subst e0
         by_cases t0:T=2
         ·subst t0
          have HN:Hid (tysF 0 L=tysF (k+1) (L.drop (k+1))):=zR (by rw[HTA.out];simp)
          go_wp2_with fail
          go_roundw
          case rel=>exact⟨k+1,by omega,by go_num,HN,HE0.out.trans HS'.out⟩
          case measure=>simp[intOf];omega
         ·have yt:(T == 2)=false:=by rw[beq_eq_false_iff_ne];exact t0
          have HZ:Hid (u.r.err l=30):=zR (by rw[HR.out,HTA.out];simp[t0])
          clear t0
          go_wp2_with fail
          go_ret
          exact⟨by rw[HZ.out];rfl,HEw.out.trans HS'.out⟩
        ·have ye:(E == 0)=false:=by rw[beq_eq_false_iff_ne];exact e0
         have HZ:Hid (u.r.err l=E):=zR (by rw[HR.out,HTA.out];simp[e0])
         clear e0
         go_wp2_with fail
         go_ret
         exact⟨by rw[HZ.out];rfl,HEw.out.trans HS'.out⟩
       ·rw[hw]at HTA
        clear hw
        go_wp2_with (first|(refine load_E rfl _ rfl _ _ _ hr rfl rfl ?_))
        refine(CH.out _ (Ext.alloc _ _)).mono ?_
        rintro e w' ⟨rfl,hE'⟩
        have HS':=zR ((Ext.alloc _ _).trans hE')
        clear hE' hr
        obtain⟨E,hEE⟩ :∃E,chkE x=E:=⟨_,rfl⟩
        obtain⟨T,hTT⟩ :∃T,chkT x=T:=⟨_,rfl⟩
        unfold tyE at HTA
        rw[hEE,hTT]at HTA
        rw[hEE,hTT]
        clear hEE hTT
        by_cases e0:E=0
        ·subst e0
         by_cases t0:T=1
         ·subst t0
          have HN:Hid (tysF 0 L=tysF (k+1) (L.drop (k+1))):=zR (by rw[HTA.out];simp)
          go_wp2_with fail
          go_roundw
          case rel=>exact⟨k+1,by omega,by go_num,HN,HE0.out.trans HS'.out⟩
          case measure=>simp[intOf];omega
         ·have yt:(T == 1)=false:=by rw[beq_eq_false_iff_ne];exact t0
          have HZ:Hid (u.r.err l=30):=zR (by rw[HR.out,HTA.out];simp[t0])
          clear t0
          go_wp2_with fail
          go_ret
          exact⟨by rw[HZ.out];rfl,HEw.out.trans HS'.out⟩
        ·have ye:(E == 0)=false:=by rw[beq_eq_false_iff_ne];exact e0
         have HZ:Hid (u.r.err l=E):=zR (by rw[HR.out,HTA.out];simp[e0])
         clear e0
         go_wp2_with fail
         go_ret
         exact⟨by rw[HZ.out];rfl,HEw.out.trans HS'.out⟩
      ·obtain rfl:k=4:=by omega
       have HZ:Hid (u.r.err l=0):=zR (by rw[HR.out,HT.out,List.drop_of_length_le (by omega)];rfl)
       go_wp2_with fail
       go_ret
       exact⟨by rw[HZ.out];rfl,HEw.out⟩
end Go.Proofs.YtmiencglfhpmeaaGreatDoor
namespace Go.Proofs.YtmiencglfhpmeaaGreatDoor
open Go.RowKit Hach
theorem setIn_all :∀(cs pre:List Value) (Z:Array Value),Z.size=pre.length+cs.length→(∀j,j<pre.length→Z[j]?=pre[j]?) →∀(w:World) (T:TypeId),(w.alloc (.cells Z T)).setCells w.heap.size pre.length cs=w.alloc (.cells (pre++cs).toArray T)
 | [],pre,Z,hz,hp,w,T=>by
  have:Z=(pre++[]).toArray:=by
   rw[List.append_nil]
   apply Array.ext_getElem?
   intro i
   by_cases hi:i<pre.length
   ·rw[hp i hi];simp
   ·have h1:Z.size≤i:=by simp at hz;omega
    rw[Array.getElem?_eq_none h1];simp;omega
  rw[this];rfl
 | v::cs,pre,Z,hz,hp,w,T=>by
  have hl:pre.length<Z.size:=by rw[hz];simp
  have h:=setIn_all cs (pre++[v]) (Z.setIfInBounds pre.length v) (by simp only[Array.size_setIfInBounds,zG,zH,zI]at hz ⊢;omega) (fun j hj=>by
   rw[Array.getElem?_setIfInBounds]
   simp only[zG,zH,zI]at hj
   by_cases e:pre.length=j
   ·subst e;rw[if_pos rfl,if_pos hl];simp
   ·rw[if_neg e,hp j (by omega),List.getElem?_append_left (by omega)]) w T
  rw[World.setCells,World.setCell_alloc_new]
  rw[zG]at h
  simpa using h
theorem store_new {ops:Array Oper}{rest:List Oper}{op:Oper}{a:Act}{w:World}{Q:Exit→Act→World→Prop}(hgd:op.guard=none) (T:TypeId) (x y:Operand) (ho:op.op=.store T x y) (Z:Array Value) (cs:List Value) (hz:Z.size=cs.length)
  (hi:(Tryz.prog.info? T).map (·.size)=some cs.length) (h1 :∀v∈cs,v.oneCell'=true) (hx:a.eval x=.pointer (some ⟨w.heap.size,0,none⟩)) (hy:a.eval y=.agg cs.toArray)
  (h:wpList Tryz.prog ops Q rest (a.put op.dst undef) (w.alloc (.cells cs.toArray T))):wpList Tryz.prog ops Q (op::rest) a (w.alloc (.cells Z T)):=by
 have hb:(w.alloc (.cells Z T)).heap[w.heap.size]?=some (.cells Z T (0,0)):=Go.heap_alloc_new _ _
 have he:=setIn_all cs [] Z (by simpa using hz) (fun j hj=>absurd hj (by simp)) w T
 simp only[zI,zK]at he
 refine wpList_store_mid hgd T x y ho w.heap.size 0 cs.toArray hx hy (fun j hj=>?_) (by simpa using hi) (all_oneCell_toArray h1) ?_
 ·have hj':j<Z.size:=by rw[hz];simpa using hj
  refine⟨?_,?_⟩
  ·rw[World.cell?_alloc_new,zQ,Array.getElem?_eq_getElem hj'];rfl
  ·exact World.frozen?_alloc_new w Z T (0+j)
 ·show wpList Tryz.prog ops Q rest (a.put op.dst undef) ((w.alloc (.cells Z T)).setCells w.heap.size 0 cs)
  rw[he];exact h
theorem sizeR:(Tryz.prog.info? 49).map (·.size)=some 30:=by
 obtain⟨i0,hi,_,hz1,_⟩:=info_parts infoR
 rw[hi];simp[hz1]
theorem store_R {ops:Array Oper}{rest:List Oper}{op:Oper}{a:Act}{w:World}{Q:Exit→Act→World→Prop}(u:Rn) (hgd:op.guard=none) (x y:Operand) (ho:op.op=.store 49 x y) (hx:a.eval x=.pointer (some ⟨w.heap.size,0,none⟩)) (hy:a.eval y=.agg u.cells.toArray)
  (h:wpList Tryz.prog ops Q rest (a.put op.dst undef) (w.alloc (.cells u.cells.toArray 49))):wpList Tryz.prog ops Q (op::rest) a (w.alloc (.cells zero30 49)):=
 store_new hgd 49 x y ho zero30 u.cells rfl sizeR (rn_one u) hx hy h
theorem RlL.zero {w:World}{S:Nat→Prop}{d:Nat}{A:Option Addr}{l:List Rl}(h:l=[]):RlL w S d A l:=by rw[h];exact RlL.nil _ _ _ _
set_option maxRecDepth 100000 in
set_option maxHeartbeats 4000000 in
theorem CheckL_any (l:List Rl) (A:Option Addr) (c d:Nat) (w:World) (hX:RlB w w.heap.size d A l) (hl:l.length<4294967296) (hc:l.length≤c) (hc2:c<9223372036854775808) (hok :∀r∈l,r.ok) :
  Calls Tryz.prog 14 #[.slice A l.length c] w fun e w'=>e=.returned (.int .i64 (chkL l))∧Ext w w':=by
 by_cases hlen:40<l.length
 ·have t1:decide ((40:Int)<(l.length:Int))=true:=by simp;omega
  have HR:Hid (chkL l=2):=zR (by unfold chkL;rw[if_pos hlen])
  clear hX hok hlen
  go_enter Tryz.func14,Tryz.ntmps14
  go_wp2_with fail
  go_ret
  exact⟨by rw[HR.out];rfl,Ext.refl _⟩
 ·have t1:decide ((40:Int)<(l.length:Int))=false:=by simp;omega
  have HR:Hid (chkL l=errF [] l):=zR (by unfold chkL;rw[if_neg hlen])
  have HX:=zR hX
  have HOK:=zR hok
  clear hX hok hlen
  go_enter Tryz.func14,Tryz.ntmps14
  go_wp2_with fail
  go_loopw [11] (fun kv wr =>∃k:Nat,k≤l.length∧kv=.int .i64 k∧Hid (chkL l=errF (l.take k) (l.drop k))∧Ext w wr) (fun kv _=>l.length-(intOf kv).toNat)
  case atStart=>exact⟨0,by omega,rfl,zR (by rw[HR.out];rfl),Ext.refl _⟩
  case round=>
   obtain⟨k,hk,rfl,HT,hE⟩:=hrel
   have HE:=zR hE
   by_cases hlt:k<l.length
   ·have tk:decide (k<l.length)=true:=by simp;omega
    have hXr:=HX.out.ext HE.out
    obtain⟨g,o,u,rfl,hg,hu,hku,hr⟩:=hXr.at_ hlt
    have HT2:Hid (chkL l=if u.r.err (l.take k)≠0 then u.r.err (l.take k) else errF (l.take (k+1)) (l.drop (k+1))):=zR (by rw[HT.out,errF_at l k hlt,hu])
    have CH:Hid (∀W,Ext wr W→Calls Tryz.prog 37 #[.agg u.cells.toArray,.slice (some ⟨g,o,none⟩) k c] W fun e w'=>e=.returned (.int .i64 (u.r.err (l.take k)))∧Ext W w'):=zR (fun W h=>by
     have h1:=check_any u (l.take k) (some ⟨g,o,none⟩) c d W (hku.ext h) ((hXr.ext h).take k) (by rw[zJ];omega) (HOK.out _ (by rw[hu];exact zF hlt))
     rw[zJ,Nat.min_eq_left hk]at h1
     exact h1)
    obtain⟨E,hEE⟩ :∃E,u.r.err (l.take k)=E:=⟨_,rfl⟩
    rw[hEE]at HT2 CH
    have hkc:k≤c:=by omega
    clear hXr hu hku hEE HT hE
    go_wp2_with (first|(refine load_R rfl _ rfl _ _ _ hr rfl rfl ?_)|(refine store_R u rfl _ _ rfl rfl rfl ?_))
    obtain⟨wa,hwa⟩ :∃wa,wr.alloc (.cells u.cells.toArray 49)=wa:=⟨_,rfl⟩
    have hB:=RnB.new wr u
    rw[hwa]at hB
    have hEa:Ext wr wa:=by rw[←hwa];exact Ext.alloc _ _
    rw[hwa]
    have HB:=zR hB
    have HEa:=zR hEa
    clear hwa hB hEa hr
    apply wp_region_seq (l:=[_,_,_,_]) (t:=[_,_]) [some 16,some 17,some 18,some 19,some 20,some 5] [[],[],[],[1,2],[0,3],[4]] [4,3,3,4] [(eqv (.agg u.cells.toArray)),eqv _,eqv _,(eqv (.slice (some ⟨g,o,none⟩) k c))] (by kernel_rfl) (by kernel_rfl) ⟨?o0,?o1,?o2,?o3,trivial⟩ ?last
    case o1|o2|o3=>
     intro xv W hE hp
     try have q0:xv _=_:=hp.1
     try have q1:xv _=_:=hp.2.1
     clear hp
     simp only[putD,zC,zB,zE,zD,Act.put,zN,zP,zO]
     refine OpGoal.plain ?_
     go_wp2_with fail
     exact⟨rfl,Ext.refl _,rfl⟩
    case o0=>
     intro xv W hE _
     simp only[putD,zC,zE]
     refine OpGoal.plain ?_
     refine load_R rfl _ rfl wr.heap.size 0 u.cells (HB.out.ext ((Ext.drew wa).trans hE)).range rfl rfl ?_
     go_wp2_with fail
     exact⟨rfl,Ext.refl _,rfl⟩
    case last=>
     intro xv W hE hp
     have r0:xv 0=_:=hp.1
     have r1:xv 1=_:=hp.2.1
     have r2:xv 2=_:=hp.2.2.1
     have r3:xv 3=_:=hp.2.2.2.1
     clear hp
     simp only[putD,zC,zB,zE,zD,Act.put,zH,zI,zL,zM,zK,zA,zN,zP,zO]
     have HEW:=zR (HEa.out.trans ((Ext.drew wa).trans hE))
     clear hE
     go_wp2_with fail
     refine(CH.out W HEW.out).mono ?_
     rintro e w' ⟨rfl,hE'⟩
     have HE':=zR (HEW.out.trans hE')
     clear hE'
     by_cases e0:E=0
     ·subst e0
      have HN:Hid (chkL l=errF (l.take (k+1)) (l.drop (k+1))):=zR (by rw[HT2.out];simp)
      go_wp2_with fail
      go_roundw
      case rel=>exact⟨k+1,by omega,by go_num,HN,HE.out.trans HE'.out⟩
      case measure=>simp[intOf];omega
     ·have ye:(E == 0)=false:=by rw[beq_eq_false_iff_ne];exact e0
      have HZ:Hid (chkL l=E):=zR (by rw[HT2.out];simp[e0])
      clear e0
      go_wp2_with fail
      go_ret
      exact⟨by rw[HZ.out];rfl,HE.out.trans HE'.out⟩
   ·obtain rfl:k=l.length:=by omega
    have HZ:Hid (chkL l=0):=zR (by rw[HT.out,errF_end])
    have tk:decide (l.length<l.length)=false:=by simp
    go_wp2_with fail
    go_ret
    exact⟨by rw[HZ.out];rfl,HE.out⟩
end Go.Proofs.YtmiencglfhpmeaaGreatDoor
namespace Go.Proofs.YtmiencglfhpmeaaGreatDoor
open Go.RowKit Hach
theorem range_new (w:World) (cs:List Value) (T:TypeId):(w.alloc (.cells cs.toArray T)).rangeAt w.heap.size 0 cs:=fun j v hv=>by
 rw[World.cell?_alloc_new,zQ]
 simpa using hv
set_option maxRecDepth 100000 in
set_option maxHeartbeats 4000000 in
theorem typed_ref (e:Ex) (t:Int) (A:Option Addr) (c d:Nat) (w:World) (hX:ExB w w.heap.size d A e.l) (hsz:e.size<1099511627776) (hok:e.ok) :
  Calls Tryz.prog 80 #[.agg (e.cells A c).toArray,.int .i64 t] w fun r w'=>r=.returned (.int .i64 (tyE e t))∧Ext w w':=by
 obtain⟨w1,hw1⟩ :∃w1,w.alloc (.cells (e.cells A c).toArray 47)=w1:=⟨_,rfl⟩
 have hr:=range_new w (e.cells A c) 47
 rw[hw1]at hr
 have hE1:Ext w w1:=by rw[←hw1];exact Ext.alloc _ _
 have HW1:=zR hw1
 have HE1:=zR hE1
 have CH:=zR (rCheck_any e d A c w1 (hX.ext hE1) hsz hok)
 obtain⟨C,hC⟩ :∃C,(e.cells A c)=C:=⟨_,rfl⟩
 have hl7:C.length=7:=by rw[←hC];rfl
 rw[hC]at hr HW1 CH ⊢
 clear hw1 hE1 hX hok hC
 go_enter Tryz.func80,Tryz.ntmps80
 go_upto_region 1 with fail
 rw[HW1.out]
 go_wp2_with (first|(refine load_E rfl _ rfl _ _ _ hr hl7 rfl ?_))
 refine CH.out.mono ?_
 rintro r w2 ⟨rfl,hE2⟩
 have HE2:=zR (HE1.out.trans hE2)
 obtain⟨E,hEE⟩ :∃E,chkE e=E:=⟨_,rfl⟩
 obtain⟨T,hTT⟩ :∃T,chkT e=T:=⟨_,rfl⟩
 have HT:Hid (tyE e t=if E≠0 then E else if T=t then 0 else 30):=zR (by unfold tyE;rw[hEE,hTT])
 rw[hEE,hTT]
 clear hEE hTT hE2 hr
 by_cases e0:E=0
 ·subst e0
  by_cases t0:T=t
  ·subst t0
   have HZ:Hid (tyE e T=0):=zR (by rw[HT.out];simp)
   go_wp2_with fail
   go_ret
   exact⟨by rw[HZ.out];rfl,HE2.out⟩
  ·have y1:(T == t)=false:=by rw[beq_eq_false_iff_ne];exact t0
   have HZ:Hid (tyE e t=30):=zR (by rw[HT.out];simp[t0])
   clear t0
   go_wp2_with fail
   go_ret
   exact⟨by rw[HZ.out];rfl,HE2.out⟩
 ·have y1:(E == 0)=false:=by rw[beq_eq_false_iff_ne];exact e0
  have HZ:Hid (tyE e t=E):=zR (by rw[HT.out];simp[e0])
  clear e0
  go_wp2_with fail
  go_ret
  exact⟨by rw[HZ.out];rfl,HE2.out⟩
set_option maxRecDepth 100000 in
set_option maxHeartbeats 8000000 in
theorem one_any (u:Rn) (l:List Rl) (A:Option Addr) (c d:Nat) (w:World) (hk:u.kidsB w w.heap.size d) (hX:RlB w w.heap.size d A l) (hl:l.length<4294967296) (hok:u.r.ok) :
  Calls Tryz.prog 38 #[.agg u.cells.toArray,.slice A l.length c] w fun e w'=>e=.returned (.int .i64 (u.r.err l))∧Ext w w':=by
 obtain⟨w1,hw1⟩ :∃w1,w.alloc (.cells u.cells.toArray 49)=w1:=⟨_,rfl⟩
 have hB:=RnB.new w u
 rw[hw1]at hB
 have hE1:Ext w w1:=by rw[←hw1];exact Ext.alloc _ _
 have HK:=zR (hk.ext hE1)
 have HX:=zR (hX.ext hE1)
 have HOK:=zR hok
 have HE1:=zR hE1
 have HW1:=zR hw1
 obtain⟨b,hb⟩ :∃b,w.heap.size=b:=⟨_,rfl⟩
 have HBb:Hid (RnB w1 b u):=zR (by rw[←hb];exact hB)
 have hn:=(rn_facts HBb.out.range).nm
 clear hB hk hX hok hw1 hE1
 go_enter Tryz.func38,Tryz.ntmps38
 go_upto_region 1 with fail
 rw[HW1.out]
 go_wp2_with fail
 refine(rRight_any u.r.nm HOK.out.1 w1).mono ?_
 rintro e w2 ⟨rfl,hE2⟩
 have HE2:=zR hE2
 obtain⟨q,hq⟩ :∃q,nmOk u.r.nm=q:=⟨_,rfl⟩
 have HQ:=zR hq
 rw[hq]
 clear hq hE2 hn
 cases q with
 | false=>
  have HR:Hid (u.r.err l=15):=zR (by unfold Rl.err;rw[if_pos HQ.out])
  go_wp2_with fail
  go_ret
  exact⟨by rw[HR.out];rfl,HE1.out.trans HE2.out⟩
 | true=>
  go_wp2_with fail
  go_loopw [6] (fun kv wr =>∃k:Nat,k≤l.length∧kv=.int .i64 k∧Hid ((l.take k).any (fun x=>decide (x.nm=u.r.nm))=false)∧Ext w1 wr) (fun kv _=>l.length-(intOf kv).toNat)
  case atStart=>exact⟨0,Nat.zero_le _,rfl,zR (by simp),HE2.out⟩
  case round=>
   obtain⟨k,hk,rfl,HA,hE⟩:=hrel
   have HE:=zR hE
   by_cases hlt:k<l.length
   ·obtain⟨g,o,v,rfl,hg,hu,hku,hr⟩:=(HX.out.ext hE).at_ hlt
    have HT:=zR (show l.take (k+1)=l.take k++[v.r] by rw[hu];exact List.take_succ_eq_append_getElem hlt)
    have HM:=zR (show v.r∈l by rw[hu];exact zF hlt)
    obtain⟨q,hq⟩ :∃q,decide (v.r.nm=u.r.nm)=q:=⟨_,rfl⟩
    obtain⟨D,hD⟩ :∃D:ByteArray,⟨v.r.nm.toArray⟩=D:=⟨_,rfl⟩
    obtain⟨F,hF⟩ :∃F:ByteArray,⟨u.r.nm.toArray⟩=F:=⟨_,rfl⟩
    have hDF:=bs_eq2 v.r.nm u.r.nm D F hD hF
    rw[hq]at hDF
    have HQ2:=zR hq
    have N1:Hid (∀W,Ext wr W→W.cell? ⟨g,o+k*30,none⟩=some (.string D)):=zR (fun W h=>by rw[←hD];exact(range_ext hr hg h) 0 _ rfl)
    have N2:Hid (∀W,Ext wr W→W.cell? ⟨b,0,none⟩=some (.string F)):=zR (fun W h=>by rw[←hF];exact(HBb.out.ext (HE.out.trans h)).range 0 _ rfl)
    have tk:decide (k<l.length)=true:=by simp;omega
    clear hq hD hF hku hu hr hE
    go_upto_region 7 with fail
    apply wp_region_seq (l:=[_,_,_,_,_,_,_]) (t:=[_]) [some 19,some 20,some 21,some 22,some 23,some 24,some 25,some 26] [[],[],[0,1],[2],[3],[],[5],[4,6]] [2,2,3,4,7,6,7] [eqv _,eqv _,eqv _,eqv _,eqv _,eqv _,eqv _] (by kernel_rfl) (by kernel_rfl) ⟨?o0,?o1,?o2,?o3,?o4,?o5,?o6,trivial⟩ ?last
    case o0|o1|o2|o3|o5=>
     intro xv W hE hp
     try have q0:xv _=_:=hp.1
     try have q1:xv _=_:=hp.2.1
     clear hp
     simp only[putD,zC,zB,zE,zD,Act.put,zN,zP,zO]
     refine OpGoal.plain ?_
     go_wp2_with fail
     exact⟨rfl,Ext.refl _,rfl⟩
    case o4|o6=>
     intro xv W hE hp
     try have q0:xv _=_:=hp.1
     try have q1:xv _=_:=hp.2.1
     clear hp
     have n1:=N1.out W ((Ext.drew wr).trans hE)
     have n2:=N2.out W ((Ext.drew wr).trans hE)
     simp only[putD,zC,zB,zE,zD,Act.put,zN,zP,zO]
     refine OpGoal.plain ?_
     go_wp2_with fail
     exact⟨rfl,Ext.refl _,rfl⟩
    case last=>
     intro xv W hE hp
     have r0:xv 0=_:=hp.1
     have r1:xv 1=_:=hp.2.1
     have r2:xv 2=_:=hp.2.2.1
     have r3:xv 3=_:=hp.2.2.2.1
     have r4:xv 4=_:=hp.2.2.2.2.1
     have r5:xv 5=_:=hp.2.2.2.2.2.1
     have r6:xv 6=_:=hp.2.2.2.2.2.2.1
     clear hp
     simp only[putD,zC,zB,zE,zD,Act.put,zH,zI,zL,zM,zK,zA,zN,zP,zO]
     have HEW:=zR (HE.out.trans ((Ext.drew wr).trans hE))
     clear hE
     cases q with
     | true=>
      have HR:Hid (u.r.err l=6):=zR (by unfold Rl.err;rw[if_neg (by rw[HQ.out];simp),if_pos (List.any_eq_true.2 ⟨v.r,HM.out,HQ2.out⟩)])
      go_wp2_with fail
      go_ret
      exact⟨by rw[HR.out];rfl,HE1.out.trans HEW.out⟩
     | false=>
      have HN:Hid ((l.take (k+1)).any (fun x=>decide (x.nm=u.r.nm))=false):=zR (by rw[HT.out,List.any_append,HA.out];simpa using HQ2.out)
      go_wp2_with fail
      go_roundw
      case rel=>exact⟨k+1,by omega,by go_num,HN,HEW.out⟩
      case measure=>simp[intOf];omega
   ·have HQ2:Hid (l.any (fun x=>decide (x.nm=u.r.nm))=false):=zR (by
     have:=HA.out
     rwa [List.take_of_length_le (by omega)]at this)
    have tk:decide (k<l.length)=false:=by simp;omega
    have hB3:=HBb.out.ext HE.out
    have hp3:=(rn_facts hB3.range).pr
    obtain⟨p,hp⟩ :∃p,u.r.pr=p:=⟨_,rfl⟩
    rw[hp,zQ]at hp3
    have HP:=zR hp
    clear hp hE
    by_cases g1:p<0
    ·have y1:decide (p<0)=true:=by simpa using g1
     have HR:Hid (u.r.err l=3):=zR (by unfold Rl.err;rw[if_neg (by rw[HQ.out];simp),if_neg (by rw[HQ2.out];simp),HP.out,if_pos (by omega)])
     clear g1
     go_wp2_with fail
     go_ret
     exact⟨by rw[HR.out];rfl,HE1.out.trans HE.out⟩
    ·have y1:decide (p<0)=false:=by simpa using g1
     by_cases g2:1000<p
     ·have y2:decide (1000<p)=true:=by simpa using g2
      have HR:Hid (u.r.err l=3):=zR (by unfold Rl.err;rw[if_neg (by rw[HQ.out];simp),if_neg (by rw[HQ2.out];simp),HP.out,if_pos (by omega)])
      clear g1 g2
      go_wp2_with fail
      go_ret
      exact⟨by rw[HR.out];rfl,HE1.out.trans HE.out⟩
     ·have y2:decide (1000<p)=false:=by simpa using g2
      have HR:Hid (u.r.err l=if tyE u.r.e1 2≠0 then tyE u.r.e1 2 else if tyE u.r.e2 1≠0 then tyE u.r.e2 1 else if tyE u.r.e3 1≠0 then tyE u.r.e3 1 else tyE u.r.e4 1):=zR (by
       unfold Rl.err;rw[if_neg (by rw[HQ.out];simp),if_neg (by rw[HQ2.out];simp),HP.out,if_neg (by omega)])
      clear g1 g2
      have l1:=range1 hB3.range
      rw[zQ]at l1
      have T1:=zR (fun(W:World) (h:Ext w1 W)=>typed_ref u.r.e1 2 u.A1 u.c1 d W ((HK.out.ext h).k1) HOK.out.2.2.1.2 HOK.out.2.2.1.1)
      have T2:=zR (fun(W:World) (h:Ext w1 W)=>typed_ref u.r.e2 1 u.A2 u.c2 d W ((HK.out.ext h).k2) HOK.out.2.2.2.1.2 HOK.out.2.2.2.1.1)
      have T3:=zR (fun(W:World) (h:Ext w1 W)=>typed_ref u.r.e3 1 u.A3 u.c3 d W ((HK.out.ext h).k3) HOK.out.2.2.2.2.1.2 HOK.out.2.2.2.2.1.1)
      have T4:=zR (fun(W:World) (h:Ext w1 W)=>typed_ref u.r.e4 1 u.A4 u.c4 d W ((HK.out.ext h).k4) HOK.out.2.2.2.2.2.2 HOK.out.2.2.2.2.2.1)
      obtain⟨E1,hE1'⟩ :∃E,tyE u.r.e1 2=E:=⟨_,rfl⟩
      obtain⟨E2,hE2'⟩ :∃E,tyE u.r.e2 1=E:=⟨_,rfl⟩
      obtain⟨E3,hE3'⟩ :∃E,tyE u.r.e3 1=E:=⟨_,rfl⟩
      obtain⟨E4,hE4'⟩ :∃E,tyE u.r.e4 1=E:=⟨_,rfl⟩
      rw[hE1',hE2',hE3',hE4']at HR
      rw[hE1']at T1
      rw[hE2']at T2
      rw[hE3']at T3
      rw[hE4']at T4
      clear hE1' hE2' hE3' hE4' hB3
      go_wp2_with (first|(refine load_E rfl _ rfl _ _ _ l1 rfl rfl ?_))
      refine(T1.out _ HE.out).mono ?_
      rintro e wa ⟨rfl,hEa⟩
      have HEa:=zR (HE.out.trans hEa)
      have l2:=range2 (HBb.out.ext HEa.out).range
      rw[zQ]at l2
      clear l1 hp3 hEa
      by_cases z1:E1=0
      ·subst z1
       go_wp2_with (first|(refine load_E rfl _ rfl _ _ _ l2 rfl rfl ?_))
       refine(T2.out _ HEa.out).mono ?_
       rintro e wb ⟨rfl,hEb⟩
       have HEb:=zR (HEa.out.trans hEb)
       have l3:=range3 (HBb.out.ext HEb.out).range
       rw[zQ]at l3
       clear l2 hEb
       by_cases z2:E2=0
       ·subst z2
        go_wp2_with (first|(refine load_E rfl _ rfl _ _ _ l3 rfl rfl ?_))
        refine(T3.out _ HEb.out).mono ?_
        rintro e wc ⟨rfl,hEc⟩
        have HEc:=zR (HEb.out.trans hEc)
        have l4:=range4 (HBb.out.ext HEc.out).range
        rw[zQ]at l4
        clear l3 hEc
        by_cases z3:E3=0
        ·subst z3
         go_wp2_with (first|(refine load_E rfl _ rfl _ _ _ l4 rfl rfl ?_))
         refine(T4.out _ HEc.out).mono ?_
         rintro e wd ⟨rfl,hEd⟩
         have HZ:Hid (u.r.err l=E4):=zR (by rw[HR.out];simp)
         go_wp2_with fail
         go_ret
         exact⟨by rw[HZ.out];rfl,HE1.out.trans (HEc.out.trans hEd)⟩
        ·have y3:(E3 == 0)=false:=by rw[beq_eq_false_iff_ne];exact z3
         have HZ:Hid (u.r.err l=E3):=zR (by rw[HR.out];simp[z3])
         clear z3
         go_wp2_with fail
         go_ret
         exact⟨by rw[HZ.out];rfl,HE1.out.trans HEc.out⟩
       ·have y3:(E2 == 0)=false:=by rw[beq_eq_false_iff_ne];exact z2
        have HZ:Hid (u.r.err l=E2):=zR (by rw[HR.out];simp[z2])
        clear z2
        go_wp2_with fail
        go_ret
        exact⟨by rw[HZ.out];rfl,HE1.out.trans HEb.out⟩
      ·have y3:(E1 == 0)=false:=by rw[beq_eq_false_iff_ne];exact z1
       have HZ:Hid (u.r.err l=E1):=zR (by rw[HR.out];simp[z1])
       clear z1
       go_wp2_with fail
       go_ret
       exact⟨by rw[HZ.out];rfl,HE1.out.trans HEa.out⟩
set_option maxRecDepth 100000 in
set_option maxHeartbeats 4000000 in
theorem rCheckL_any (l:List Rl) (A:Option Addr) (c d:Nat) (w:World) (hX:RlB w w.heap.size d A l) (hl:l.length<4294967296) (hc:l.length≤c) (hc2:c<9223372036854775808) (hok :∀r∈l,r.ok) :
  Calls Tryz.prog 15 #[.slice A l.length c] w fun e w'=>e=.returned (.int .i64 (chkL l))∧Ext w w':=by
 by_cases hlen:40<l.length
 ·have t1:decide ((40:Int)<(l.length:Int))=true:=by simp;omega
  have HR:Hid (chkL l=2):=zR (by unfold chkL;rw[if_pos hlen])
  clear hX hok hlen
  go_enter Tryz.func15,Tryz.ntmps15
  go_wp2_with fail
  go_ret
  exact⟨by rw[HR.out];rfl,Ext.refl _⟩
 ·have t1:decide ((40:Int)<(l.length:Int))=false:=by simp;omega
  have HR:Hid (chkL l=errF [] l):=zR (by unfold chkL;rw[if_neg hlen])
  have HX:=zR hX
  have HOK:=zR hok
  clear hX hok hlen
  go_enter Tryz.func15,Tryz.ntmps15
  go_wp2_with fail
  go_loopw [3] (fun kv wr =>∃k:Nat,k≤l.length∧kv=.int .i64 k∧Hid (chkL l=errF (l.take k) (l.drop k))∧Ext w wr) (fun kv _=>l.length-(intOf kv).toNat)
  case atStart=>exact⟨0,by omega,rfl,zR (by rw[HR.out];rfl),Ext.refl _⟩
  case round=>
   obtain⟨k,hk,rfl,HT,hE⟩:=hrel
   have HE:=zR hE
   by_cases hlt:k<l.length
   ·have tk:decide (k<l.length)=true:=by simp;omega
    have hXr:=HX.out.ext HE.out
    obtain⟨g,o,u,rfl,hg,hu,hku,hr⟩:=hXr.at_ hlt
    have HT2:Hid (chkL l=if u.r.err (l.take k)≠0 then u.r.err (l.take k) else errF (l.take (k+1)) (l.drop (k+1))):=zR (by rw[HT.out,errF_at l k hlt,hu])
    have CH:Hid (∀W,Ext wr W→Calls Tryz.prog 38 #[.agg u.cells.toArray,.slice (some ⟨g,o,none⟩) k c] W fun e w'=>e=.returned (.int .i64 (u.r.err (l.take k)))∧Ext W w'):=zR (fun W h=>by
     have h1:=one_any u (l.take k) (some ⟨g,o,none⟩) c d W (hku.ext h) ((hXr.ext h).take k) (by rw[zJ];omega) (HOK.out _ (by rw[hu];exact zF hlt))
     rw[zJ,Nat.min_eq_left hk]at h1
     exact h1)
    obtain⟨E,hEE⟩ :∃E,u.r.err (l.take k)=E:=⟨_,rfl⟩
    rw[hEE]at HT2 CH
    have hkc:k≤c:=by omega
    have HRG:=zR hr
    have HG:=zR hg
    clear hXr hu hku hEE HT hE hr hg
    go_upto_region 6 with fail
    apply wp_region_seq (l:=[_,_,_,_,_,_,_]) (t:=[_,_]) [some 14,some 15,some 16,some 17,some 18,some 19,some 20,some 21,some 4] [[],[],[0,1],[2],[],[],[4,5],[3,6],[7]] [2,2,3,7,6,6,7] [eqv _,eqv _,eqv _,(eqv (.agg u.cells.toArray)),eqv _,eqv _,(eqv (.slice (some ⟨g,o,none⟩) k c))] (by kernel_rfl) (by kernel_rfl) ⟨?o0,?o1,?o2,?o3,?o4,?o5,?o6,trivial⟩ ?last
    case o0|o1|o2|o4|o5|o6=>
     intro xv W hE hp
     try have q0:xv _=_:=hp.1
     try have q1:xv _=_:=hp.2.1
     clear hp
     simp only[putD,zC,zB,zE,zD,Act.put,zN,zP,zO]
     refine OpGoal.plain ?_
     go_wp2_with fail
     exact⟨rfl,Ext.refl _,rfl⟩
    case o3=>
     intro xv W hE hp
     have r2:xv 2=_:=hp.1
     clear hp
     simp only[putD,zC,zB,zE,zD,Act.put,zN,zP,zO]
     refine OpGoal.plain ?_
     refine load_R rfl _ rfl g (o+k*30) u.cells (range_ext HRG.out HG.out ((Ext.drew wr).trans hE)) rfl r2 ?_
     go_wp2_with fail
     exact⟨rfl,Ext.refl _,rfl⟩
    case last=>
     intro xv W hE hp
     have r0:xv 0=_:=hp.1
     have r1:xv 1=_:=hp.2.1
     have r2:xv 2=_:=hp.2.2.1
     have r3:xv 3=_:=hp.2.2.2.1
     have r4:xv 4=_:=hp.2.2.2.2.1
     have r5:xv 5=_:=hp.2.2.2.2.2.1
     have r6:xv 6=_:=hp.2.2.2.2.2.2.1
     clear hp
     simp only[putD,zC,zB,zE,zD,Act.put,zH,zI,zL,zM,zK,zA,zN,zP,zO]
     have HEW:=zR ((Ext.drew wr).trans hE)
     clear hE
     go_wp2_with fail
     refine(CH.out W HEW.out).mono ?_
     rintro e w' ⟨rfl,hE'⟩
     have HE':=zR (HEW.out.trans hE')
     clear hE'
     by_cases e0:E=0
     ·subst e0
      have HN:Hid (chkL l=errF (l.take (k+1)) (l.drop (k+1))):=zR (by rw[HT2.out];simp)
      go_wp2_with fail
      go_roundw
      case rel=>exact⟨k+1,by omega,by go_num,HN,HE.out.trans HE'.out⟩
      case measure=>simp[intOf];omega
     ·have ye:(E == 0)=false:=by rw[beq_eq_false_iff_ne];exact e0
      have HZ:Hid (chkL l=E):=zR (by rw[HT2.out];simp[e0])
      clear e0
      go_wp2_with fail
      go_ret
      exact⟨by rw[HZ.out];rfl,HE.out.trans HE'.out⟩
   ·obtain rfl:k=l.length:=by omega
    have HZ:Hid (chkL l=0):=zR (by rw[HT.out,errF_end])
    have tk:decide (l.length<l.length)=false:=by simp
    go_wp2_with fail
    go_ret
    exact⟨by rw[HZ.out];rfl,HE.out⟩
end Go.Proofs.YtmiencglfhpmeaaGreatDoor
