/- The contract of unwrap. -/
import Derived.Test.YtmiencglfhpmeaaGreatDoorKQShelf
import Derived.Laws.RangeString
import Derived.Laws.RangeAny
import Derived.Deep.CutRange
import Derived.Deep.CutBlock
open List renaming cons_append → zA, drop_eq_nil_of_le → zB, foldl_cons → zC, foldl_nil → zD, getD_cons_succ → zE, getD_cons_zero → zF, length_cons → zG, length_nil → zH, nil_append → zI, range_succ → zJ, range_zero → zK, setIfInBounds_toArray → zL, set_cons_succ → zM, set_cons_zero → zN
open Go.Lib renaming hid → zO, idxFuncFrom → zP
set_option linter.unusedSimpArgs false
set_option linter.unusedVariables false
namespace Go.Proofs.YtmiencglfhpmeaaGreatDoor
open Go.RowKit Hach
def badR (r:Nat):Bool:=decide (r<32)||decide (126<r)||decide (r=34)
set_option maxHeartbeats 1000000 in
theorem badR_fn (w:World):PredAt Tryz.prog 120 #[] encR badR w:=fun W r _=>by
 unfold FnGives
 show Calls Tryz.prog 120 #[.int .i32 (r:Int)] W _
 by_cases h1:r<32
 ·have hb:badR r=true:=by simp[badR,h1]
  have t1:decide ((r:Int)<32)=true:=by simp;omega
  rw[hb]
  clear hb h1
  go_enter Tryz.func120,Tryz.ntmps120
  go_wp2_with fail
  go_ret
  exact⟨rfl,0,rfl⟩
 ·have t1:decide ((r:Int)<32)=false:=by simp;omega
  by_cases h2:126<r
  ·have hb:badR r=true:=by simp[badR,h2]
   have t2:decide (126<(r:Int))=true:=by simp;omega
   rw[hb]
   clear hb h1 h2
   go_enter Tryz.func120,Tryz.ntmps120
   go_wp2_with fail
   go_ret
   exact⟨rfl,0,rfl⟩
  ·have t2:decide (126<(r:Int))=false:=by simp;omega
   by_cases h3:r=34
   ·subst h3
    go_enter Tryz.func120,Tryz.ntmps120
    go_wp2_with fail
    go_ret
    exact⟨rfl,0,rfl⟩
   ·have hb:badR r=false:=by simp[badR,h3];omega
    have t3:((r:Int) == 34)=false:=by rw[beq_eq_false_iff_ne];omega
    rw[hb]
    clear hb h1 h2 h3
    go_enter Tryz.func120,Tryz.ntmps120
    go_wp2_with fail
    go_ret
    exact⟨rfl,0,rfl⟩
theorem bad_ok (c:UInt8):badR c.toNat = !okB c:=by
 unfold badR okB
 rw[Bool.eq_iff_iff]
 simp only[Bool.or_eq_true,Bool.not_eq_true',decide_eq_true_eq,Bool.and_eq_false_iff,decide_eq_false_iff_not]
 omega
theorem idx_bad (s:List UInt8) :∀(f pos:Nat),s.length-pos≤f→((zP badR true ⟨s.toArray⟩ f pos<0)↔(s.drop pos).all okB=true):=by
 intro f
 induction f with
 | zero=>
  intro pos h
  rw[zB (by omega)]
  simp[zP]
 | succ f ih=>
  intro pos h
  have hsz:=toArr_size s
  unfold zP
  by_cases hp:pos<s.length
  ·rw[if_pos (by omega)]
   have hb:(⟨s.toArray⟩:ByteArray)[pos]'(by omega)=s[pos]:=by rw[ba_get];simp[List.getD,List.getElem?_eq_getElem hp]
   rw[List.drop_eq_getElem_cons hp,List.all_cons]
   by_cases ha:(s[pos]).toNat<128
   ·have hd:=decode_ascii (⟨s.toArray⟩:ByteArray) pos (by omega) (by rw[hb];exact ha)
    rw[hb]at hd
    rw[hd]
    simp only
    rw[bad_ok]
    cases ho:okB s[pos] with
    | true=>
     rw[if_neg (by simp)]
     simpa using ih (pos+1) (by omega)
    | false=>
     rw[if_pos (by simp)]
     simp
   ·have hd:=decode_high (⟨s.toArray⟩:ByteArray) pos (by omega) (by rw[hb];omega)
    have ht:badR (Utf8.decode (⟨s.toArray⟩:ByteArray) pos).1=true:=by unfold badR;simp;omega
    have ho:okB s[pos]=false:=by unfold okB;simp;omega
    rw[if_pos ht,ho]
    simp
  ·rw[if_neg (by omega),zB (by omega)]
   simp
theorem idxf_any (s:List UInt8) (w:World):Calls Tryz.prog 119 #[.string ⟨s.toArray⟩,.func (.func 120) #[] #[]] w fun e w' =>∃i:Int,e=.returned (.int .i64 i)∧decide (i<0)=s.all okB∧Ext w w':=by
 refine(Tryz.strings_IndexFunc 120 #[] (enters_of Tryz.func120 (by kernel_rfl) rfl) badR ⟨s.toArray⟩ w (badR_fn w)).mono ?_
 rintro e w' ⟨rfl,hE⟩
 refine⟨_,rfl,?_,hE⟩
 have h:=idx_bad s (⟨s.toArray⟩:ByteArray).size 0 (by rw[toArr_size];omega)
 rw[List.drop_zero]at h
 cases ha:s.all okB with
 | true=>exact decide_eq_true (h.2 ha)
 | false=>exact decide_eq_false (fun hl=>by rw[h.1 hl]at ha;cases ha)
def unw (x:Vl):Va:=if vlRight x then(if x.ty=1 then .int x.n else if x.ty=2 then .bool x.b else .txt x.s) else .nil
def pre (x:Vl):Va:=
 if x.ty=1 then(if -1073741824≤x.n∧x.n≤1073741824 then .int x.n else .nil) else if x.ty=2 then .bool x.b else if x.ty=3 then(if x.s.length≤24∧x.s.all okB=true then .txt x.s else .nil) else .nil
def Vl.eq (x y:Vl):Bool:=valB x.ty x.n x.b x.s y.ty y.n y.b y.s
theorem unw_pre (x:Vl):unw x=if (pre x).vl.eq x then pre x else .nil:=by
 obtain⟨t,n,b,s⟩:=x
 by_cases h1:t=1
 ·subst h1
  by_cases h2 : -1073741824≤n∧n≤1073741824
  ·simp[unw,pre,vlRight,Va.vl,Vl.eq,valB,h2]
  ·have :¬(-1073741824≤n∧n≤1073741824):=h2
   simp[unw,pre,vlRight,Va.vl,Vl.eq,valB]
   by_cases h3 : -1073741824≤n<;>by_cases h4:n≤1073741824<;>first|(exfalso;omega)|simp[h3,h4]
 ·by_cases h2:t=2
  ·subst h2
   simp[unw,pre,vlRight,Va.vl,Vl.eq,valB]
   by_cases hn:n=0<;>by_cases hs:s=[]<;>simp[hn,hs,eq_comm]
  ·by_cases h3:t=3
   ·subst h3
    by_cases h4:s.length≤24∧s.all okB=true
    ·simp only[unw,pre,vlRight,Va.vl,Vl.eq,valB,h4]
     by_cases hn:n=0<;>by_cases hb:b=false<;>simp[hn,hb,eq_comm,h4]
    ·by_cases h5:s.length≤24
     ·have h6:s.all okB=false:=by rw[←Bool.not_eq_true];exact fun h=>h4 ⟨h5,h⟩
      simp[unw,pre,vlRight,Va.vl,Vl.eq,valB,h6]
     ·simp[unw,pre,vlRight,Va.vl,Vl.eq,valB,h5]
   ·simp[unw,pre,vlRight,Va.vl,Vl.eq,valB,h1,h2,h3]
set_option maxRecDepth 100000 in
set_option maxHeartbeats 4000000 in
theorem unwrap_any (x:Vl) (hs:x.s.length<9223372036854775808) (w:World):Calls Tryz.prog 97 #[x.v] w fun e w'=>e=.returned (unw x).v∧Ext w w':=by
 have hsz:=toArr_size x.s
 have hu:=unw_pre x
 obtain⟨w2,hw2⟩ :∃w2,w.alloc (.cells #[.int .i64 x.ty,.int .i64 x.n,.bool x.b,.string ⟨x.s.toArray⟩] 44)=w2:=⟨_,rfl⟩
 have hE2:Ext w w2:=by rw[←hw2];exact ext_new
 have hl2:w.heap.size<w2.heap.size:=by rw[←hw2];simp
 have c0:w2.cell? ⟨w.heap.size,0,none⟩=some (.int .i64 x.ty):=by rw[←hw2,World.cell?_alloc_new];rfl
 have c1:w2.cell? ⟨w.heap.size,1,none⟩=some (.int .i64 x.n):=by rw[←hw2,World.cell?_alloc_new];rfl
 have c2:w2.cell? ⟨w.heap.size,2,none⟩=some (.bool x.b):=by rw[←hw2,World.cell?_alloc_new];rfl
 have c3:w2.cell? ⟨w.heap.size,3,none⟩=some (.string ⟨x.s.toArray⟩):=by rw[←hw2,World.cell?_alloc_new];rfl
 have HW:=zO hw2
 have HU:=zO hu
 clear hw2 hu
 unfold Vl.v
 go_enter Tryz.func97,Tryz.ntmps97
 go_upto_block 0 with fail
 rw[HW.out]
 go_cut [3] from 4 (fun ov wx=>ov=(pre x).v∧Ext w2 wx)
 case first=>
  by_cases h1:x.ty=1
  ·have t1:(x.ty == 1)=true:=by simp[h1]
   have HP:Hid (pre x=if lim x.n=x.n then .int x.n else .nil):=zO (by
    unfold pre
    rw[if_pos h1]
    unfold lim
    by_cases a : -1073741824≤x.n∧x.n≤1073741824
    ·rw[if_pos a,if_pos (by omega)]
    ·rw[if_neg a,if_neg (by omega)])
   clear h1
   go_wp2_with fail
   apply wp_region_seq (l:=[_,_,_,_,_]) (t:=[_]) [some 8,some 9,some 10,some 11,some 12,some 13] [[],[0],[],[2],[3],[1,4]] [1,5,3,4,5] [eqv _,eqv _,eqv _,eqv _,(eqv (.int .i64 (lim x.n)))] (by kernel_rfl) (by kernel_rfl) ⟨?o0,?o1,?o2,?o3,?o4,trivial⟩ ?last
   case o0|o2=>
    intro xv W hE hp
    try have q0:xv _=_:=hp.1
    clear hp
    simp only[putD,zD,zC,zF,zE,Act.put,zL,zN,zM]
    refine OpGoal.plain ?_
    go_wp2_with fail
    exact⟨rfl,Ext.refl _,rfl⟩
   case o1|o3=>
    intro xv W hE hp
    try have q0:xv _=_:=hp.1
    clear hp
    have y1:=(hE.old (p:=⟨w.heap.size,1,none⟩) hl2).trans c1
    simp only[putD,zD,zC,zF,zE,Act.put,zL,zN,zM]
    refine OpGoal.plain ?_
    go_wp2_with fail
    exact⟨rfl,Ext.refl _,rfl⟩
   case o4=>
    intro xv W hE hp
    have r3:xv 3=_:=hp.1
    clear hp
    simp only[putD,zD,zC,zF,zE,Act.put,zL,zN,zM]
    refine OpGoal.plain ?_
    go_wp2_with fail
    refine(limit_any x.n _).mono ?_
    rintro e w' ⟨rfl,rfl⟩
    go_wp2_with fail
    exact⟨rfl,Ext.refl _,rfl⟩
   case last=>
    intro xv W hE hp
    have r0:xv 0=_:=hp.1
    have r1:xv 1=_:=hp.2.1
    have r2:xv 2=_:=hp.2.2.1
    have r3:xv 3=_:=hp.2.2.2.1
    have r4:xv 4=_:=hp.2.2.2.2.1
    clear hp
    simp only[putD,zD,zC,zF,zE,Act.put,zG,zH,zJ,zK,zI,zA,zL,zN,zM]
    have hEw:Ext w2 W:=(Ext.drew w2).trans hE
    have y1:=(hEw.old (p:=⟨w.heap.size,1,none⟩) hl2).trans c1
    have e1:xv 1=.int .i64 x.n:=r1
    rw[e1,r4]
    clear r0 r1 r2 r3 r4 e1 hE
    by_cases a:lim x.n=x.n
    ·have a1:(x.n == lim x.n)=true:=by simp[a]
     have HP2:Hid (pre x=.int x.n):=zO (by rw[HP.out,if_pos a])
     clear a
     go_wp2_with fail
     go_meet
     case rel=>exact⟨by rw[HP2.out];rfl,hEw⟩
    ·have a1:(x.n == lim x.n)=false:=by simpa using fun e=>a e.symm
     have HP2:Hid (pre x=.nil):=zO (by rw[HP.out,if_neg a])
     clear a
     go_wp2_with fail
     go_meet
     case rel=>exact⟨by rw[HP2.out];rfl,hEw⟩
  ·have t1:(x.ty == 1)=false:=by simpa using h1
   by_cases h2:x.ty=2
   ·have t2:(x.ty == 2)=true:=by simp[h2]
    have HP:Hid (pre x=.bool x.b):=zO (by unfold pre;rw[if_neg h1,if_pos h2])
    clear h1 h2
    go_wp2_with fail
    go_meet
    case rel=>exact⟨by rw[HP.out];rfl,Ext.refl _⟩
   ·have t2:(x.ty == 2)=false:=by simpa using h2
    by_cases h3:x.ty=3
    ·have t3:(x.ty == 3)=true:=by simp[h3]
     have HP:Hid (pre x=if x.s.length≤24∧x.s.all okB=true then .txt x.s else .nil):=zO (by unfold pre;rw[if_neg h1,if_neg h2,if_pos h3])
     clear h1 h2 h3
     by_cases h4:x.s.length≤24
     ·have h4':=h4
      have t4:decide ((x.s.length:Int)≤24)=true:=by simp;omega
      clear h4
      go_wp2_with fail
      refine(idxf_any x.s _).mono ?_
      rintro e w' ⟨i,rfl,hi,hEi⟩
      have HPi:Hid (pre x=if decide (i<0)=true then .txt x.s else .nil):=zO (by rw[HP.out,hi];by_cases a:x.s.all okB=true<;>simp[a,h4'])
      have y3:=(hEi.old (p:=⟨w.heap.size,3,none⟩) hl2).trans c3
      clear hi
      cases hi2:decide (i<0) with
      | true=>
       have HP2:Hid (pre x=.txt x.s):=zO (by rw[HPi.out,if_pos hi2])
       go_wp2_with fail
       go_meet
       case rel=>exact⟨by rw[HP2.out];rfl,hEi⟩
      | false=>
       have HP2:Hid (pre x=.nil):=zO (by rw[HPi.out,if_neg (by rw[hi2];decide)])
       go_wp2_with fail
       go_meet
       case rel=>exact⟨by rw[HP2.out];rfl,hEi⟩
     ·have t4:decide ((x.s.length:Int)≤24)=false:=by simp;omega
      have HP2:Hid (pre x=.nil):=zO (by rw[HP.out,if_neg (fun e=>h4 e.1)])
      clear h4
      go_wp2_with fail
      go_meet
      case rel=>exact⟨by rw[HP2.out];rfl,Ext.refl _⟩
    ·have t3:(x.ty == 3)=false:=by simpa using h3
     have HP:Hid (pre x=.nil):=zO (by unfold pre;rw[if_neg h1,if_neg h2,if_neg h3])
     clear h1 h2 h3
     go_wp2_with fail
     go_meet
     case rel=>exact⟨by rw[HP.out];rfl,Ext.refl _⟩
 case rest=>
  obtain⟨rfl,hE0⟩:=hcut
  go_wp2_with fail
  apply wp_region_seq (l:=[_,_,_]) (t:=[_]) [some 37,some 38,some 39,some 40] [[],[0],[],[1,2]] [1,3,3] [eqv _,(eqv (pre x).vl.v),eqv _] (by kernel_rfl) (by kernel_rfl) ⟨?o0,?o1,?o2,trivial⟩ ?last
  case o0=>
   intro xv W hE _
   simp only[putD,zD,zF]
   refine OpGoal.plain ?_
   go_wp2_with fail
   exact⟨rfl,Ext.refl _,rfl⟩
  case o1=>
   intro xv W hE hp
   have r0:xv 0=_:=hp.1
   clear hp
   simp only[putD,zD,zC,zF,zE,Act.put,zL,zN,zM]
   refine OpGoal.plain ?_
   go_wp2_with fail
   refine(wrap_any (pre x) _).mono ?_
   rintro e w' ⟨rfl,hEi⟩
   go_wp2_with fail
   exact⟨rfl,hEi,rfl⟩
  case o2=>
   intro xv W hE _
   have hEw:Ext w2 W:=(hE0.trans (Ext.drew _)).trans hE
   have y0:=(hEw.old (p:=⟨w.heap.size,0,none⟩) hl2).trans c0
   have y1:=(hEw.old (p:=⟨w.heap.size,1,none⟩) hl2).trans c1
   have y2:=(hEw.old (p:=⟨w.heap.size,2,none⟩) hl2).trans c2
   have y3:=(hEw.old (p:=⟨w.heap.size,3,none⟩) hl2).trans c3
   simp only[putD,zD,zF,zE]
   refine OpGoal.plain ?_
   go_wp2_with fail
   exact⟨rfl,Ext.refl _,rfl⟩
  case last=>
   intro xv W hE hp
   have r0:xv 0=_:=hp.1
   have r1:xv 1=_:=hp.2.1
   have r2:xv 2=_:=hp.2.2.1
   clear hp
   simp only[putD,zD,zC,zF,zE,Act.put,zG,zH,zJ,zK,zI,zA,zL,zN,zM]
   have hEw:Ext w2 W:=(hE0.trans (Ext.drew _)).trans hE
   have hv :∀w,(binOp .neq 44 (.agg #[.int .i64 (pre x).vl.ty,.int .i64 (pre x).vl.n,.bool (pre x).vl.b,.string ⟨(pre x).vl.s.toArray⟩]) (.agg #[.int .i64 x.ty,.int .i64 x.n,.bool x.b,.string ⟨x.s.toArray⟩])).run Tryz.prog w=.ok (.bool (!(valB (pre x).vl.ty (pre x).vl.n (pre x).vl.b (pre x).vl.s x.ty x.n x.b x.s))) w:=fun w=>val_neq ..
   have e2:xv 2=x.v:=r2
   rw[r1,e2]
   unfold Vl.v
   clear r0 r1 r2 e2 hE hE0
   obtain⟨g,hg⟩ :∃g,valB (pre x).vl.ty (pre x).vl.n (pre x).vl.b (pre x).vl.s x.ty x.n x.b x.s=g:=⟨_,rfl⟩
   have HU2:Hid (unw x=if g=true then pre x else .nil):=zO (by rw[HU.out];unfold Vl.eq;rw[hg])
   rw[hg]at hv
   clear hg
   cases g with
   | true=>
    go_wp2_with fail
    go_ret
    exact⟨by rw[HU2.out];rfl,hE2.trans hEw⟩
   | false=>
    go_wp2_with fail
    go_ret
    exact⟨by rw[HU2.out];rfl,hE2.trans hEw⟩
end Go.Proofs.YtmiencglfhpmeaaGreatDoor
namespace Go.Proofs.YtmiencglfhpmeaaGreatDoor
open Go.RowKit Hach
theorem OpGoal.off {P:Program}{ds:List (Option Tmp)}{dst:Option Tmp}{op:Op}{type:TypeId}{pos:String}{after:Array Edge}{j:Nat}{b:Bool}{R:Value→World→Prop}{c:Act}{W:World}(hy:yieldD ds c j≠some b) (h:R undef W) :
  OpGoal P ds ⟨dst,op,type,pos,after,some (j,b)⟩ R c W:=by
 show if yieldD ds c j=some b then _ else _
 rw[if_neg hy]
 exact h
def Ex.vl (e:Ex):Vl:=⟨e.ty,e.n,e.b,e.s⟩
def good (op var:Int) (x:Vl) (k:Nat):Bool:=decide (manyOf op=(k:Int))&&(decide (op=1)||Vl.eq x ⟨0,0,false,[]⟩)&&(decide (op=2)||decide (var=0))
def rule (op var:Int) (x:Vl) (ts:List Int):Int:=
 if op=1 then(if vlRight x then x.ty else 0)
 else if op=2 then varTy var
 else if op=3 then(if ts.getD 0 0=2 then 2 else 0)
 else if op=4∨op=5 then(if ts.getD 0 0=2∧ts.getD 1 0=2 then 2 else 0)
 else if op=6 then(if ts.getD 0 0=ts.getD 1 0 then 2 else 0)
 else if op=7 then(if ts.getD 0 0=1∧ts.getD 1 0=1 then 2 else 0)
 else if op=13 then(if ts.getD 0 0=2∧ts.getD 1 0=ts.getD 2 0 then ts.getD 1 0 else 0)
 else(if ts.getD 0 0=1∧ts.getD 1 0=1 then 1 else 0)
mutual
def Ex.typed:Ex→Int
 | .mk op var ty n b s l=>if good op var ⟨ty,n,b,s⟩ l.length=true then(if (0:Int)∈Ex.typeds l then 0 else rule op var ⟨ty,n,b,s⟩ (Ex.typeds l)) else 0
def Ex.typeds:List Ex→List Int
 | []=>[]
 | e::l=>e.typed::Ex.typeds l
end
theorem Ex.typed_eq (e:Ex):e.typed=if good e.op e.var e.vl e.l.length=true then(if (0:Int)∈Ex.typeds e.l then 0 else rule e.op e.var e.vl (Ex.typeds e.l)) else 0:=by cases e;rw[Ex.typed];rfl
theorem Ex.typeds_map :∀l:List Ex,Ex.typeds l=l.map Ex.typed
 | []=>by simp[Ex.typeds]
 | e::l=>by simp[Ex.typeds,Ex.typeds_map l]
theorem good_len {op var:Int}{x:Vl}{k:Nat}(h:good op var x k=true):manyOf op=k∧k≤3:=by
 unfold good at h
 simp only[Bool.and_eq_true,decide_eq_true_eq]at h
 refine⟨h.1.1,?_⟩
 have:=h.1.1
 unfold manyOf at this
 omega
theorem varTy_bd (n : Int) : 0 ≤ varTy n ∧ varTy n ≤ 3 := by unfold varTy; repeat' split
                                                             all_goals omega
end Go.Proofs.YtmiencglfhpmeaaGreatDoor
namespace Go.Proofs.YtmiencglfhpmeaaGreatDoor
open Go.RowKit Hach
structure Arr3 (w:World) (b:Nat) (t:Nat→Int):Prop where
 lt:b<w.heap.size
 c :∀j,j<3→w.cell? ⟨b,j,none⟩=some (.int .i64 (t j))
 f :∀j,w.frozen? ⟨b,j,none⟩=false
theorem Arr3.ext {w w':World}{b:Nat}{t:Nat→Int}(h:Arr3 w b t) (hE:Ext w w'):Arr3 w' b t:=
 ⟨Nat.lt_of_lt_of_le h.lt hE.sz,fun j hj=>(hE.old (p:=⟨b,j,none⟩) h.lt).trans (h.c j hj),fun j=>(hE.below.frozen (p:=⟨b,j,none⟩) h.lt).trans (h.f j)⟩
theorem Arr3.set {w:World}{b:Nat}{t:Nat→Int}(h:Arr3 w b t) (k:Nat) (hk:k<3) (v:Int):Arr3 (w.setCell ⟨b,k,none⟩ (.int .i64 v)) b (fun j=>if j=k then v else t j):=by
 refine⟨?_,fun j hj=>?_,fun j=>?_⟩
 ·simpa using h.lt
 ·by_cases e:j=k
  ·subst e
   rw[World.cell?_setCell_same _ _ _ (h.c j hj)]
   simp
  ·rw[World.cell?_setCell_other _ _ _ _ (by intro h;simp only[Addr.mk.injEq]at h;omega),h.c j hj]
   simp[e]
 ·have:=h.f j
  simpa using this
theorem arr3_ext {w0 w:World}{b:Nat}{k:Nat}{v:Value}(hE:Ext w0 w) (hb:w0.heap.size≤b):Ext w0 (w.setCell ⟨b,k,none⟩ v):=
 Below.trans hE (below_row' (grown_set _ _ _ _) hE.sz (fun g e=>by simp only[Option.some.injEq]at e;omega))
theorem Ex.oks_mem {x:Ex}:∀ {l:List Ex},Ex.oks l→x∈l→x.ok
 | e::l,h,hx=>by
  rcases List.mem_cons.1 hx with rfl|hx
  ·exact h.1
  ·exact Ex.oks_mem h.2 hx
theorem Ex.ok.l {e:Ex}(h:e.ok):Ex.oks e.l:=by
 obtain⟨op,var,ty,n,b,s,l⟩:=e
 exact h.2.2.2.2.2
theorem Ex.ok.s {e:Ex}(h:e.ok):e.s.length<1048576:=by
 obtain⟨op,var,ty,n,b,s,l⟩:=e
 exact h.2.2.2.2.1
theorem Ex.ok.at_ {e:Ex}(h:e.ok) {k:Nat}(hk:k<e.l.length):(e.l[k]).ok:=Ex.oks_mem h.l (List.getElem_mem hk)
end Go.Proofs.YtmiencglfhpmeaaGreatDoor
