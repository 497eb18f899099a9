/- The frame of a law that changes nothing: its arguments read behind the call as before. -/
import Derived.Test.YtmiencglfhpmeaaGreatDoorRows
import Derived.ProofKit
import Derived.ShutString
import Derived.OpenShut
import Derived.Carry
import Derived.Lib.SmallJoins
import Derived.SliceStrings
import Derived.Test.YtmiencglfhpmeaaGreatDoorKQXq
import Derived.Test.YtmiencglfhpmeaaGreatDoorKQUb
import Derived.LaidMore
import Derived.Stop.LaidErr
import Derived.Lib.LaidTab
import Derived.HandedShaped
import Derived.MakeChecks
import Derived.ChangeSlices
import Derived.Test.YtmiencglfhpmeaaGreatDoorKQSo
open List renaming cons.injEq → zA
set_option linter.unusedSimpArgs false
set_option linter.unusedVariables false
namespace Go.Proofs.YtmiencglfhpmeaaGreatDoor
open Go.RowKit Hach
open Go.ChangeShapes Go.WideShapes Go.ChangeAt
theorem laid:laidOutB Tryz.prog=true:=by kernel_rfl
theorem trodAll_back {P:Program}(hl:laidOutB P=true) {H:Type}{enc:TypeId×Value→H}{W W':World}(hb:Below W.heap.size W W') :∀(ts:List TypeId) (vs:List Value) (ds:List (DataW H)) (ps:List MemPlace),(∀t∈ts,P.readableRec t=true∧t<P.types.size) →
  DataW.TrodAll enc P W 0 (fun _=>true) true ts vs ds ps→(∀x∈ps,x.block<W.heap.size)→DataW.TrodAll enc P W' 0 (fun b=>decide (b<W.heap.size)) true ts vs ds ps
 | [],vs,ds,ps,_,h,_=>by
  obtain⟨rfl,rfl,rfl⟩:=trodAll_nil h
  exact trodAll_mk0
 | t::ts,vs,ds,ps,ht,h,hlt=>by
  obtain⟨v,vs',d,ds',p,q,rfl,rfl,rfl,h0,r0⟩:=trodAll_cons h
  have h1:=ht t (List.mem_cons_self ..)
  exact trodAll_cons_mk (Below.trod hl h1.1 h1.2 h0 hb (fun x hx=>hlt x (List.mem_append_left _ hx)))
   (trodAll_back hl hb ts vs' ds' q (fun u hu=>ht u (List.mem_cons_of_mem _ hu)) r0 (fun x hx=>hlt x (List.mem_append_right _ hx)))
theorem args_back {P:Program}(hl:laidOutB P=true) {H:Type}{enc:TypeId×Value→H}{W W':World}(hb:Below W.heap.size W W') (ts:List TypeId) (vs:List Value) (ds:List (DataW H)) (ps:List MemPlace) (ht:(ts.all fun t=>P.readableRec t&&decide (t<P.types.size))=true)
  (hA:DataW.TrodAll enc P W 0 (fun _=>true) true ts vs ds ps) (hlt :∀x∈ps,x.block<W.heap.size):DataW.TrodAll enc P W' 0 (fun b=>decide (b<W.heap.size)) true ts vs ds ps:=
 trodAll_back hl hb ts vs ds ps (fun t h=>by
  have:=List.all_eq_true.1 ht t h
  rw[Bool.and_eq_true]at this
  exact⟨this.1,of_decide_eq_true this.2⟩) hA hlt
end Go.Proofs.YtmiencglfhpmeaaGreatDoor
namespace Go.Proofs.YtmiencglfhpmeaaGreatDoor
open Go.RowKit Hach
open Go.ChangeShapes Go.WideShapes Go.ChangeAt
def Laids:List (String×DataW Unit):=Rows.styleBackRow.laid
theorem own:ownKnob Tryz.prog.godebug=none:=by kernel_rfl
theorem star : "*" ++ "errors.errorString" = "*errors.errorString" := by decide
theorem rowE (u:TypeId) (h:Tryz.prog.typeName? 3 u=some "*errors.errorString"):u=219:=
 typeName_ptr_named (nm:= "errors.errorString") (by rw[star];kernel_rfl) (by kernel_rfl) (by decide) u (by rw[star];exact h)
theorem tabs_of {W:World}(hL:laidMetH Tryz.prog Laids W) (hS:W.ShapedOpen Tryz.prog):Wr.Tabs W:=by
 rw[MakeChecks.laidMetH_plain _ _ _ (by kernel_rfl)]at hL
 obtain⟨m,hm⟩:=cell_of_shapedOpen_int (P:=Tryz.prog) (w:=W) (g:=1) (zero:=#[.int .i64 0]) (t:=3) hS (of_decide_eq_true (by kernel_rfl)) (by kernel_rfl) rfl (by kernel_rfl) (by kernel_rfl) Tryz.underlying3
 have h0:Lib.TabIs Tryz.prog W "internal/strconv.uint64pow10" .u64 Lib.pow10Tab:=
  Lib.tabIs_of_head (g:=0) (t:=203) (e:=188) (n:=20) (by kernel_rfl) (by kernel_rfl) Tryz.underlying203 Tryz.underlying188 (by kernel_rfl) (by kernel_rfl) (show laidMet Tryz.prog (("internal/strconv.uint64pow10",Lib.tabData .u64 Lib.pow10Tab)::_) W from hL.tail.tail)
 obtain⟨a3,s3,hv3,_⟩:=laid_sentinel (g:=3) (ti:=101) hL.tail.tail.tail.tail (by kernel_rfl) (by kernel_rfl) Tryz.underlying101 rowE Tryz.underlying219 Tryz.underlying221 rfl rfl Tryz.underlying9 (by kernel_rfl) (by kernel_rfl)
 obtain⟨a2,s2,hv2,_⟩:=laid_sentinel (g:=2) (ti:=101) hL.tail.tail.tail.tail.tail (by kernel_rfl) (by kernel_rfl) Tryz.underlying101 rowE Tryz.underlying219 Tryz.underlying221 rfl rfl Tryz.underlying9 (by kernel_rfl) (by kernel_rfl)
 have c3:W.cell? ⟨3,0,none⟩=some (.iface 219 (.pointer (some a3))):=by
  simpa using World.var?_cell (P:=Tryz.prog) (g:=3) (by kernel_rfl) hv3 0
 have c2:W.cell? ⟨2,0,none⟩=some (.iface 219 (.pointer (some a2))):=by
  simpa using World.var?_cell (P:=Tryz.prog) (g:=2) (by kernel_rfl) hv2 0
 have hz:3<W.heap.size:=World.block_lt_of_cell? W _ c3
 exact⟨h0,hz,⟨m,hm⟩,⟨_,c2,.inr ⟨_,_,rfl⟩⟩,⟨_,c3,.inr ⟨_,_,rfl⟩⟩⟩
theorem handed_shaped {H:Type}{enc:TypeId×Value→H}{a:Assume}{C:Checked}{os:Os}{f:FuncId}{fn:Func}{s:ChangeSpec}{conds:List PathCond}{apart fresh handsOn again:Bool}{X:World→Array Value→Prop}
  (hX :∀(w w':World) (args:Array Value),w.heap=w'.heap→X w args→X w' args)
  (own:ownKnob C.prog.godebug=none) (started:os.Started) (noInit:C.prog.inits.idxOf? f=none) (hfn:C.prog.funcs[f]?=some fn)
  (witness :∃(w:World) (tape:Tape) (i:Input),w.os=os∧(w.forCall tape i).Shaped C.prog∧i.vars=[]∧Input.okWide C.prog (w.forCall tape i) .any w.heap.size f i ∧
   ((s.pre enc C.prog fn conds apart (w.forCall tape i).memory i.args∧X (w.forCall tape i).memory i.args)∧sizedMet enc C.prog fn (OpenSpec.ofChange s) apart (w.forCall tape i).memory i.args)∧a.holds C.prog (lone (Frame.enter C.prog f i.args .normal) [] (w.forCall tape i)))
  (contract :∀(W:World) (base:Nat) (args:Array Value) (ds gs:List (DataW H)) (before:List MemPlace),
   (∀(j:Nat) t v,fn.params[j]?=some t→args[j]?=some v→Value.okWide C.prog W .any base t v) →
   DataW.Whole enc C.prog fn.params.toList s.vars apart W args.toList ds gs before →
   W.ShapedOpen C.prog→X W args →
   Calls C.prog f args W fun e W' =>∃v,e=.returned v∧s.post enc C.prog fn apart fresh handsOn again W args v W') :
  ReturnsInHanded a C os f .any (fun w args=>(s.pre enc C.prog fn conds apart w args∧X w args)∧sizedMet enc C.prog fn (OpenSpec.ofChange s) apart w args) (s.post enc C.prog fn apart fresh handsOn again):=by
 refine returnsInHanded_of_calls own started noInit witness ?_
 intro w tape i _ hsh _ hok hpre hholds
 obtain⟨_,_,_,fn',hfn',_,_,_,_,hval⟩:=hok
 have e:fn'=fn:=Option.some.inj (hfn'.symm.trans hfn)
 subst e
 obtain⟨⟨⟨ds,gs,before,hw,hc⟩,hx⟩,hz⟩:=hpre
 have hw':=DataW.Whole.of_heap (w':=w.forCall tape i) (by rfl) hw
 refine(contract (w.forCall tape i) w.heap.size i.args ds gs before hval hw' hsh (hX _ _ _ (by rfl) hx)).mono fun e W' ⟨v,he,hp⟩=>?_
 subst he
 exact ChangeSpec.post_blind hp
theorem ints_open {H:Type}{enc:TypeId×Value→H}{W:World}{fuel:Nat}{A:Option Addr}{n c:Nat}{x:DataW H×List MemPlace}(h:DataW.trod enc Tryz.prog W 0 (fun _=>true) true fuel 22 (Value.slice A n c).cells.toList=some x):LI W A n:=by
 rcases open_ints Tryz.underlying22 Tryz.underlying3 (show Tryz.prog.cellsOf 3=1 by kernel_rfl) h with⟨hcs,_⟩|⟨a,len,cap,zs,hcs,_,hl,hm,hz,_,hcell,hws⟩
 ·simp[Value.cells]at hcs
  obtain⟨rfl,rfl,rfl⟩:=hcs
  exact⟨by decide,fun h=>absurd h (by omega)⟩
 ·simp[Value.cells]at hcs
  obtain⟨rfl,rfl,rfl⟩:=hcs
  have hz':zs.length=c:=by simpa using hz
  have hm':c<9223372036854775808:=by simp only[maxLen]at hm;omega
  refine⟨by omega,fun h0=>?_⟩
  obtain⟨b,o,spot⟩:=a
  have hspot:spot=none:=by simpa[Addr.add]using World.cell?_spot (hcell 0 (by omega))
  subst hspot
  have hb:b<W.heap.size:=World.block_lt_of_cell? W _ (hcell 0 (by omega))
  refine⟨b,o,rfl,hb,fun j hj=>?_⟩
  have:=hcell j (by omega)
  rw[Go.WideShapes.add_plain]at this
  exact⟨_,this⟩
end Go.Proofs.YtmiencglfhpmeaaGreatDoor
namespace Go.Proofs.YtmiencglfhpmeaaGreatDoor
open Go.RowKit Hach
open Go.ChangeShapes Go.WideShapes Go.ChangeAt Go.WideMaps Go.WideElems
open Go.ChangeMaps (open_string shut_string)
theorem list_of_bytes (b:ByteArray) :∃s:List UInt8,b=⟨s.toArray⟩∧b.size=s.length:=⟨b.data.toList,by cases b;simp,by cases b;simp[ByteArray.size]⟩
set_option maxRecDepth 100000
theorem i64_bd {n:Int}(h:(Lit.int .i64 n).wf=true):InI n:=by
 have:=bounds_i64 h
 exact⟨by omega,by omega⟩
theorem env_of {H:Type}{enc:TypeId×Value→H}{W:World}{m:Nat}{c0 c1 c2 c3 c4 c5 c6 c7 c8:Value}{z:DataW H×List MemPlace}(h:DataW.trod enc Tryz.prog W 0 (fun _=>true) true m 28 [c0,c1,c2,c3,c4,c5,c6,c7,c8]=some z) :
  ∃x:En,[c0,c1,c2,c3,c4,c5,c6,c7,c8]=[.int .i64 x.kind,.string ⟨x.cls.toArray⟩,.string ⟨x.name.toArray⟩,.int .i64 x.weight,.int .i64 x.level,.bool x.stairs,.int .i64 x.scale,.int .i64 x.hour,.int .i64 x.reader]∧x.raw:=by
 obtain⟨fs,hfs,h0,h1,h2,h3,h4,h5,h6,h7,h8,hsz⟩ :∃fs:Array Field,Tryz.prog.underlying 28=some (.struct fs)∧(∃f,fs[0]?=some f∧f.offset=0∧f.type=3)∧(∃f,fs[1]?=some f∧f.offset=1∧f.type=9)∧(∃f,fs[2]?=some f∧f.offset=2∧f.type=9)∧(∃f,fs[3]?=some f∧f.offset=3∧f.type=3)∧(∃f,fs[4]?=some f∧f.offset=4∧f.type=3)∧(∃f,fs[5]?=some f∧f.offset=5∧f.type=4)∧(∃f,fs[6]?=some f∧f.offset=6∧f.type=3)∧(∃f,fs[7]?=some f∧f.offset=7∧f.type=3)∧(∃f,fs[8]?=some f∧f.offset=8∧f.type=3)∧fs.size=9:=
  ⟨_,Tryz.underlying28,⟨_,rfl,rfl,rfl⟩,⟨_,rfl,rfl,rfl⟩,⟨_,rfl,rfl,rfl⟩,⟨_,rfl,rfl,rfl⟩,⟨_,rfl,rfl,rfl⟩,⟨_,rfl,rfl,rfl⟩,⟨_,rfl,rfl,rfl⟩,⟨_,rfl,rfl,rfl⟩,⟨_,rfl,rfl,rfl⟩,rfl⟩
 obtain⟨ys,n',hn',hy,hlen,hyl,hf⟩:=DataW.trod_struct hfs h
 have qint:Tryz.prog.cellsOf 3=1:=by kernel_rfl
 have qbool:Tryz.prog.cellsOf 4=1:=by kernel_rfl
 have qstring:Tryz.prog.cellsOf 9=1:=by kernel_rfl
 obtain⟨f0,u0,o0,p0⟩:=h0
 have t0:=hf 0 f0 u0
 rw[o0,p0,qint]at t0
 obtain⟨f1,u1,o1,p1⟩:=h1
 have t1:=hf 1 f1 u1
 rw[o1,p1,qstring]at t1
 obtain⟨f2,u2,o2,p2⟩:=h2
 have t2:=hf 2 f2 u2
 rw[o2,p2,qstring]at t2
 obtain⟨f3,u3,o3,p3⟩:=h3
 have t3:=hf 3 f3 u3
 rw[o3,p3,qint]at t3
 obtain⟨f4,u4,o4,p4⟩:=h4
 have t4:=hf 4 f4 u4
 rw[o4,p4,qint]at t4
 obtain⟨f5,u5,o5,p5⟩:=h5
 have t5:=hf 5 f5 u5
 rw[o5,p5,qbool]at t5
 obtain⟨f6,u6,o6,p6⟩:=h6
 have t6:=hf 6 f6 u6
 rw[o6,p6,qint]at t6
 obtain⟨f7,u7,o7,p7⟩:=h7
 have t7:=hf 7 f7 u7
 rw[o7,p7,qint]at t7
 obtain⟨f8,u8,o8,p8⟩:=h8
 have t8:=hf 8 f8 u8
 rw[o8,p8,qint]at t8
 rw[hsz]at hyl
 match ys,hyl with
 | [y0,y1,y2,y3,y4,y5,y6,y7,y8],_=>
  obtain⟨n0,e0,_,w0⟩:=DataW.trod_int Tryz.underlying3 (show DataW.trod enc Tryz.prog W 0 (fun _=>true) true n' 3 [c0]=some y0 from t0)
  obtain⟨b1,e1,_,w1⟩:=DataW.trod_string Tryz.underlying9 (show DataW.trod enc Tryz.prog W 0 (fun _=>true) true n' 9 [c1]=some y1 from t1)
  obtain⟨b2,e2,_,w2⟩:=DataW.trod_string Tryz.underlying9 (show DataW.trod enc Tryz.prog W 0 (fun _=>true) true n' 9 [c2]=some y2 from t2)
  obtain⟨n3,e3,_,w3⟩:=DataW.trod_int Tryz.underlying3 (show DataW.trod enc Tryz.prog W 0 (fun _=>true) true n' 3 [c3]=some y3 from t3)
  obtain⟨n4,e4,_,w4⟩:=DataW.trod_int Tryz.underlying3 (show DataW.trod enc Tryz.prog W 0 (fun _=>true) true n' 3 [c4]=some y4 from t4)
  obtain⟨b5,e5,_⟩:=DataW.trod_bool Tryz.underlying4 (show DataW.trod enc Tryz.prog W 0 (fun _=>true) true n' 4 [c5]=some y5 from t5)
  obtain⟨n6,e6,_,w6⟩:=DataW.trod_int Tryz.underlying3 (show DataW.trod enc Tryz.prog W 0 (fun _=>true) true n' 3 [c6]=some y6 from t6)
  obtain⟨n7,e7,_,w7⟩:=DataW.trod_int Tryz.underlying3 (show DataW.trod enc Tryz.prog W 0 (fun _=>true) true n' 3 [c7]=some y7 from t7)
  obtain⟨n8,e8,_,w8⟩:=DataW.trod_int Tryz.underlying3 (show DataW.trod enc Tryz.prog W 0 (fun _=>true) true n' 3 [c8]=some y8 from t8)
  simp only[zA,and_true]at e0 e1 e2 e3 e4 e5 e6 e7 e8
  subst e0 e1 e2 e3 e4 e5 e6 e7 e8
  obtain⟨s1,rfl,hs1⟩:=list_of_bytes b1
  obtain⟨s2,rfl,hs2⟩:=list_of_bytes b2
  exact⟨⟨n0,s1,s2,n3,n4,b5,n6,n7,n8⟩,rfl,i64_bd w0,by show s1.length<_;simp only[maxLen]at w1;omega,by show s2.length<_;simp only[maxLen]at w2;omega,i64_bd w3,i64_bd w4,i64_bd w6,i64_bd w7,i64_bd w8⟩
theorem env_open {H:Type}{enc:TypeId×Value→H}{r:Reach}{b0:Nat}{W:World}{v:Value}{d:DataW H}{ps:List MemPlace}(hv:Value.okWide Tryz.prog W r b0 28 v) (h:DataW.Trod enc Tryz.prog W 0 (fun _=>true) true 28 v d ps) :
  ∃x:En,v=x.v∧x.raw:=by
 simp only[Value.okWide,Tryz.underlying28]at hv
 obtain⟨cs,rfl,hsz,_⟩:=hv
 obtain⟨l⟩:=cs
 match l,hsz.trans (show Tryz.prog.cellsOf 28=9 by kernel_rfl) with
 | [c0,c1,c2,c3,c4,c5,c6,c7,c8],_=>
  obtain⟨fuel,hf⟩:=h
  obtain⟨x,ex,hx⟩:=env_of (show DataW.trod enc Tryz.prog W 0 (fun _=>true) true fuel 28 [c0,c1,c2,c3,c4,c5,c6,c7,c8]=some _ from hf)
  exact⟨x,by rw[ex];rfl,hx⟩
theorem three_of {H:Type}{enc:TypeId×Value→H}{W:World}{m:Nat}{c0 c1 c2:Value}{x:DataW H×List MemPlace}(h:DataW.trod enc Tryz.prog W 0 (fun _=>true) true m 23 [c0,c1,c2]=some x) :
  ∃a b c:Int,c0=.int .i64 a∧c1=.int .i64 b∧c2=.int .i64 c:=by
 have hC:Tryz.prog.cellsOf 3=1:=by kernel_rfl
 obtain⟨xs,m,_,_,_,hl,hget⟩:=DataW.trod_array Tryz.underlying23 h
 have g0:=hget 0 (by omega)
 have g1:=hget 1 (by omega)
 have g2:=hget 2 (by omega)
 rw[hC]at g0 g1 g2
 match xs,hl with
 | [x0,x1,x2],_=>
  obtain⟨a,e0,_,_⟩:=DataW.trod_int Tryz.underlying3 (show DataW.trod enc Tryz.prog W 0 (fun _=>true) true m 3 [c0]=some x0 from g0)
  obtain⟨b,e1,_,_⟩:=DataW.trod_int Tryz.underlying3 (show DataW.trod enc Tryz.prog W 0 (fun _=>true) true m 3 [c1]=some x1 from g1)
  obtain⟨c,e2,_,_⟩:=DataW.trod_int Tryz.underlying3 (show DataW.trod enc Tryz.prog W 0 (fun _=>true) true m 3 [c2]=some x2 from g2)
  simp only[zA,and_true]at e0 e1 e2
  exact⟨a,b,c,e0,e1,e2⟩
theorem slice_of {H:Type}{enc:TypeId×Value→H}{W:World}{m:Nat}{c0:Value}{x:DataW H×List MemPlace}(h:DataW.trod enc Tryz.prog W 0 (fun _=>true) true m 22 [c0]=some x) :
  ∃(A:Option Addr) (n c:Nat),c0=.slice A n c∧LI W A n:=by
 have key :∃(A:Option Addr) (n c:Nat),c0=.slice A n c:=by
  rcases DataW.trod_slice Tryz.underlying22 h with⟨e,_⟩|⟨a,len,cap,_,_,_,_,e,_⟩
  ·simp only[zA,and_true]at e;exact⟨none,0,0,e⟩
  ·simp only[zA,and_true]at e;exact⟨some a,len,cap,e⟩
 obtain⟨A,n,c,rfl⟩:=key
 exact⟨A,n,c,rfl,ints_open (show DataW.trod enc Tryz.prog W 0 (fun _=>true) true m 22 (Value.slice A n c).cells.toList=some x from h)⟩
theorem six_of {H:Type}{enc:TypeId×Value→H}{W:World}{m:Nat}{c0 c1 c2 c3 c4 c5:Value}{x:DataW H×List MemPlace}(h:DataW.trod enc Tryz.prog W 0 (fun _=>true) true m 24 [c0,c1,c2,c3,c4,c5]=some x) :
  ∃a b c a' b' c':Int,c0=.int .i64 a∧c1=.int .i64 b∧c2=.int .i64 c∧c3=.int .i64 a'∧c4=.int .i64 b'∧c5=.int .i64 c':=by
 have hC:Tryz.prog.cellsOf 23=3:=by kernel_rfl
 obtain⟨xs,m,_,_,_,hl,hget⟩:=DataW.trod_array Tryz.underlying24 h
 have g0:=hget 0 (by omega)
 have g1:=hget 1 (by omega)
 rw[hC]at g0 g1
 match xs,hl with
 | [x0,x1],_=>
  obtain⟨a,b,c,e0,e1,e2⟩:=three_of (show DataW.trod enc Tryz.prog W 0 (fun _=>true) true m 23 [c0,c1,c2]=some x0 from g0)
  obtain⟨a',b',c',e3,e4,e5⟩:=three_of (show DataW.trod enc Tryz.prog W 0 (fun _=>true) true m 23 [c3,c4,c5]=some x1 from g1)
  exact⟨a,b,c,a',b',c',e0,e1,e2,e3,e4,e5⟩
theorem case_open {H:Type}{enc:TypeId×Value→H}{r:Reach}{b0:Nat}{W:World}{v:Value}{d:DataW H}{ps:List MemPlace}(hv:Value.okWide Tryz.prog W r b0 26 v) (h:DataW.Trod enc Tryz.prog W 0 (fun _=>true) true 26 v d ps) :
  ∃(A:Option Addr) (n c:Nat) (p0 p1 p2 q0 q1 q2:Int),v=.agg (ca7 A n c p0 p1 p2 q0 q1 q2)∧LI W A n:=by
 simp only[Value.okWide,Tryz.underlying26]at hv
 obtain⟨cs,rfl,hsz,_⟩:=hv
 obtain⟨l⟩:=cs
 obtain⟨fs,hfs,h0,h1,hsz2⟩ :∃fs:Array Field,Tryz.prog.underlying 26=some (.struct fs)∧(∃f,fs[0]?=some f∧f.offset=0∧f.type=22)∧(∃f,fs[1]?=some f∧f.offset=1∧f.type=24)∧fs.size=2:=
  ⟨_,Tryz.underlying26,⟨_,rfl,rfl,rfl⟩,⟨_,rfl,rfl,rfl⟩,rfl⟩
 have qe:Tryz.prog.cellsOf 22=1:=by kernel_rfl
 have qv:Tryz.prog.cellsOf 24=6:=by kernel_rfl
 obtain⟨f0,u0,o0,p0⟩:=h0
 obtain⟨f1,u1,o1,p1⟩:=h1
 match l,hsz.trans (show Tryz.prog.cellsOf 26=7 by kernel_rfl) with
 | [a0,a1,a2,a3,a4,a5,a6],_=>
  obtain⟨fuel,hf⟩:=h
  obtain⟨ys,n',hn',hy,hlen,hyl,hfl⟩:=DataW.trod_struct hfs hf
  have t0:=hfl 0 f0 u0
  have t1:=hfl 1 f1 u1
  rw[o0,p0,qe]at t0
  rw[o1,p1,qv]at t1
  rw[hsz2]at hyl
  match ys,hyl with
  | [y0,y1],_=>
   obtain⟨A,n,c,rfl,hL⟩:=slice_of (show DataW.trod enc Tryz.prog W 0 (fun _=>true) true n' 22 [a0]=some y0 from t0)
   obtain⟨a,b,c',d,e,f,rfl,rfl,rfl,rfl,rfl,rfl⟩:=six_of (show DataW.trod enc Tryz.prog W 0 (fun _=>true) true n' 24 [a1,a2,a3,a4,a5,a6]=some y1 from t1)
   exact⟨A,n,c,a,b,c',d,e,f,rfl,hL⟩
end Go.Proofs.YtmiencglfhpmeaaGreatDoor
