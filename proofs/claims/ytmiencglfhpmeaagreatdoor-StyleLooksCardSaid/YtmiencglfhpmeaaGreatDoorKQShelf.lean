/- Values as Go's own: wrap, variable; the reference's Int, Bool, String, Var. -/
import Derived.Test.YtmiencglfhpmeaaGreatDoorKQXc
import Derived.Shelf.Strings.Builder1
import Derived.Shelf.Strings.Trim
import Derived.Shelf.Small.Utf8
import Derived.Shelf.Small.Strs
import Derived.Shelf.Small.Wraps
import Derived.Shelf.Strconv.Atoi
import Derived.Shelf.Strconv.Itoa0
import Derived.Shelf.Strconv.Itoa1
import Derived.Shelf.LaysM
import Derived.Shelf.Strconv.Itoa2
import Derived.Shelf.Strconv.Itoa3
import Derived.Shelf.Strconv.AtoiErrFast
import Derived.Shelf.Strconv.ParseIntEmpty
import Derived.Shelf.Strconv.AtoiFail
import Derived.Shelf.Strconv.Clone
import Derived.Shelf.Strconv.SyntaxError
import Derived.Shelf.LaysC
import Derived.Shelf.Strconv.ToError
import Derived.Shelf.Strconv.Lower
import Derived.Shelf.Strconv.ParseUint10
import Derived.Shelf.Strconv.ParseUint10Empty
import Derived.Shelf.Strconv.ParseUint10Any
import Derived.Shelf.Strconv.ParseInt10
import Derived.Shelf.Strconv.AtoiLong
import Derived.Shelf.Strconv.AtoiInnerAll
import Derived.Shelf.Strconv.RangeError
import Derived.Shelf.Strconv.ToErrorRange
import Derived.Shelf.Strconv.AtoiAll
import Derived.Shelf.Strconv.ErrVarAll
import Derived.Shelf.Strconv.ParseUintEmpty
import Derived.Shelf.Strconv.ParseUint10b64
import Derived.Shelf.Strconv.ParseUint10b32
import Derived.Shelf.Strconv.ParseUint10b16
import Derived.Shelf.Strconv.ParseUint10b8
import Derived.Shelf.Strconv.ParseUint10At
import Derived.Shelf.Strconv.ParseInt10At64
import Derived.Shelf.Strconv.ParseInt10At32
import Derived.Shelf.Strconv.ParseInt10At16
import Derived.Shelf.Strconv.ParseInt10At8
import Derived.Shelf.Strconv.ParseInt10All
import Derived.Shelf.Strings.Search1
import Derived.Shelf.Strings.Search2
import Derived.Shelf.Strings.Cut
import Derived.Shelf.Strings.Shaped
import Derived.Shelf.GgClosure.StringsIndexFunc
import Derived.Ground.GgwProg
import Derived.Shelf.GgClosure.StringsIndexFuncTop
import Derived.Shelf.GgClosure.StringsRunes
import Derived.Shelf.Unicode.Decode
import Derived.Shelf.Strings.Runes
import Derived.Shelf.Strings.AsciiSet
import Derived.Shelf.Unicode.DecodeSlow
import Derived.Shelf.Unicode.DecodeAny
import Derived.Shelf.Unicode.DecodeLast
import Derived.Shelf.Strings.FuncGrows
import Derived.Shelf.Slices.Turned
import Derived.Test.YtmiencglfhpmeaaGreatDoorProg
open List renaming getElem?_eq_getElem → zA
open Nat renaming le_succ → zB
open Go.Lib renaming hid → zC
set_option linter.unusedSimpArgs false
set_option linter.unusedVariables false
namespace Go.Proofs.YtmiencglfhpmeaaGreatDoor
open Go.RowKit Hach
inductive Va where
 | nil
 | int (n:Int)
 | bool (b:Bool)
 | txt (s:List UInt8)
def Va.v:Va→Value
 | .nil=>.nilIface
 | .int n=>.iface 3 (.int .i64 n)
 | .bool b=>.iface 4 (.bool b)
 | .txt s=>.iface 9 (.string ⟨s.toArray⟩)
structure Vl where
 ty:Int
 n:Int
 b:Bool
 s:List UInt8
def Vl.v (x:Vl):Value:=.agg #[.int .i64 x.ty,.int .i64 x.n,.bool x.b,.string ⟨x.s.toArray⟩]
def Va.vl:Va→Vl
 | .nil=>⟨0,0,false,[]⟩
 | .int n=>⟨1,n,false,[]⟩
 | .bool b=>⟨2,0,b,[]⟩
 | .txt s=>⟨3,0,false,s⟩
@[go_sem] theorem as_int_int (v:Value) (w:World):(Instr.typeAssert (.iface 3 v) 20 3 true).run Tryz.prog w=.ok (.tuple #[v,.bool true]) w:=by kernel_rfl
@[go_sem] theorem as_int_bool (v:Value) (w:World):(Instr.typeAssert (.iface 3 v) 20 4 true).run Tryz.prog w=.ok (.tuple #[.bool false,.bool false]) w:=by kernel_rfl
@[go_sem] theorem as_int_string (v:Value) (w:World):(Instr.typeAssert (.iface 3 v) 20 9 true).run Tryz.prog w=.ok (.tuple #[.string ByteArray.empty,.bool false]) w:=by kernel_rfl
@[go_sem] theorem as_nil_int (w:World):(Instr.typeAssert .nilIface 20 3 true).run Tryz.prog w=.ok (.tuple #[.int .i64 0,.bool false]) w:=by kernel_rfl
@[go_sem] theorem as_bool_int (v:Value) (w:World):(Instr.typeAssert (.iface 4 v) 20 3 true).run Tryz.prog w=.ok (.tuple #[.int .i64 0,.bool false]) w:=by kernel_rfl
@[go_sem] theorem as_bool_bool (v:Value) (w:World):(Instr.typeAssert (.iface 4 v) 20 4 true).run Tryz.prog w=.ok (.tuple #[v,.bool true]) w:=by kernel_rfl
@[go_sem] theorem as_bool_string (v:Value) (w:World):(Instr.typeAssert (.iface 4 v) 20 9 true).run Tryz.prog w=.ok (.tuple #[.string ByteArray.empty,.bool false]) w:=by kernel_rfl
@[go_sem] theorem as_nil_bool (w:World):(Instr.typeAssert .nilIface 20 4 true).run Tryz.prog w=.ok (.tuple #[.bool false,.bool false]) w:=by kernel_rfl
@[go_sem] theorem as_string_int (v:Value) (w:World):(Instr.typeAssert (.iface 9 v) 20 3 true).run Tryz.prog w=.ok (.tuple #[.int .i64 0,.bool false]) w:=by kernel_rfl
@[go_sem] theorem as_string_bool (v:Value) (w:World):(Instr.typeAssert (.iface 9 v) 20 4 true).run Tryz.prog w=.ok (.tuple #[.bool false,.bool false]) w:=by kernel_rfl
@[go_sem] theorem as_string_string (v:Value) (w:World):(Instr.typeAssert (.iface 9 v) 20 9 true).run Tryz.prog w=.ok (.tuple #[v,.bool true]) w:=by kernel_rfl
@[go_sem] theorem as_nil_string (w:World):(Instr.typeAssert .nilIface 20 9 true).run Tryz.prog w=.ok (.tuple #[.string ByteArray.empty,.bool false]) w:=by kernel_rfl
theorem ext_new {w:World}{o:Obj}:Ext w (w.alloc o):=Ext.alloc _ _
set_option maxRecDepth 100000 in
set_option maxHeartbeats 1000000 in
theorem wrap_any (x:Va) (w:World):Calls Tryz.prog 70 #[x.v] w fun e w'=>e=.returned x.vl.v∧Ext w w':=by
 cases x
 all_goals
  simp only[Va.vl,Vl.v,Va.v]
  go_enter Tryz.func70,Tryz.ntmps70
  go_wp2_with fail
  refine bodyPost_ret (v:=_) (by simp only[results,Tryz.results70];go_simp) rfl ⟨rfl,ext_new⟩
end Go.Proofs.YtmiencglfhpmeaaGreatDoor
namespace Go.Proofs.YtmiencglfhpmeaaGreatDoor
open Go.RowKit Hach
structure En where
 kind:Int
 cls:List UInt8
 name:List UInt8
 weight:Int
 level:Int
 stairs:Bool
 scale:Int
 hour:Int
 reader:Int
def En.v (x:En):Value:=.agg #[.int .i64 x.kind,.string ⟨x.cls.toArray⟩,.string ⟨x.name.toArray⟩,.int .i64 x.weight,.int .i64 x.level,.bool x.stairs,.int .i64 x.scale,.int .i64 x.hour,.int .i64 x.reader]
def En.var (x:En) (n:Int):Va:=
 if n=1 then .int (lim x.kind) else if n=2 then .txt x.cls else if n=3 then .txt x.name else if n=4 then .int (lim x.weight) else if n=5 then .int (lim x.level) else
 if n=6 then .bool x.stairs else if n=7 then .int (lim x.scale) else if n=8 then .int (lim x.hour) else if n=9 then .int (lim x.reader) else .nil
theorem vars_all {n:Int}(h:1≤n∧n≤9):n=1∨n=2∨n=3∨n=4∨n=5∨n=6∨n=7∨n=8∨n=9:=by omega
set_option maxRecDepth 100000 in
set_option maxHeartbeats 4000000 in
theorem variable_any (x:En) (n:Int) (w:World):Calls Tryz.prog 96 #[x.v,.int .i64 n] w fun e w'=>e=.returned (x.var n).v∧Ext w w':=by
 by_cases h:1≤n∧n≤9
 ·rcases vars_all h with rfl|rfl|rfl|rfl|rfl|rfl|rfl|rfl|rfl
  all_goals
   clear h
   simp only[En.var,En.v,Va.v,if_true,if_pos,if_neg,Int.reduceEq,if_false]
   go_enter Tryz.func96,Tryz.ntmps96
   go_wp2_with (go_at_call 98;refine(limit_any _ _).mono ?_;rintro e w' ⟨rfl,rfl⟩)
   go_ret
   exact⟨rfl,ext_new⟩
 ·have hv:x.var n=.nil:=by
   unfold En.var
   rw[if_neg (by omega),if_neg (by omega),if_neg (by omega),if_neg (by omega),if_neg (by omega),if_neg (by omega),if_neg (by omega),if_neg (by omega),if_neg (by omega)]
  rw[hv]
  clear hv
  have e1:(n == 1)=false:=int_ne (by omega)
  have e2:(n == 2)=false:=int_ne (by omega)
  have e3:(n == 3)=false:=int_ne (by omega)
  have e4:(n == 4)=false:=int_ne (by omega)
  have e5:(n == 5)=false:=int_ne (by omega)
  have e6:(n == 6)=false:=int_ne (by omega)
  have e7:(n == 7)=false:=int_ne (by omega)
  have e8:(n == 8)=false:=int_ne (by omega)
  have e9:(n == 9)=false:=int_ne (by omega)
  clear h
  simp only[En.v,Va.v]
  go_enter Tryz.func96,Tryz.ntmps96
  go_wp2_with fail
  go_ret
  exact⟨rfl,ext_new⟩
def zero4:Array Value:=#[.int .i64 0,.int .i64 0,.bool false,.string ⟨#[]⟩]
structure Zero4 (w:World) (b:Nat):Prop where
 c0:w.cell? ⟨b,0,none⟩=some (.int .i64 0)
 c1:w.cell? ⟨b,1,none⟩=some (.int .i64 0)
 c2:w.cell? ⟨b,2,none⟩=some (.bool false)
 c3:w.cell? ⟨b,3,none⟩=some (.string ⟨#[]⟩)
 f0:w.frozen? ⟨b,0,none⟩=false
 f1:w.frozen? ⟨b,1,none⟩=false
 f2:w.frozen? ⟨b,2,none⟩=false
 f3:w.frozen? ⟨b,3,none⟩=false
theorem Zero4.of {w:World}{b:Nat}(h:w.heap[b]?=some (.cells zero4 44 (0,0))):Zero4 w b:=by
 constructor<;>simp[World.cell?,World.frozen?,h,zero4]
theorem rInt_any (n:Int) (w:World):Calls Tryz.prog 126 #[.int .i64 n] w fun e w'=>e=.returned (.agg #[.int .i64 1,.int .i64 n,.bool false,.string ⟨#[]⟩])∧Ext w w':=by
 go_enter Tryz.func126,Tryz.ntmps126
 go_wp2_with fail
 refine bodyPost_ret (v:=_) (by simp only[results,Tryz.results126];go_simp) rfl ⟨rfl,ext_new⟩
theorem rBool_any (b:Bool) (w:World):Calls Tryz.prog 125 #[.bool b] w fun e w'=>e=.returned (.agg #[.int .i64 2,.int .i64 0,.bool b,.string ⟨#[]⟩])∧Ext w w':=by
 go_enter Tryz.func125,Tryz.ntmps125
 go_wp2_with fail
 refine bodyPost_ret (v:=_) (by simp only[results,Tryz.results125];go_simp) rfl ⟨rfl,ext_new⟩
theorem rString_any (s:ByteArray) (w:World):Calls Tryz.prog 150 #[.string s] w fun e w'=>e=.returned (.agg #[.int .i64 3,.int .i64 0,.bool false,.string s])∧Ext w w':=by
 go_enter Tryz.func150,Tryz.ntmps150
 go_wp2_with fail
 refine bodyPost_ret (v:=_) (by simp only[results,Tryz.results150];go_simp) rfl ⟨rfl,ext_new⟩
set_option maxRecDepth 100000 in
set_option maxHeartbeats 4000000 in
theorem varType_any (n:Int) (w:World):Calls Tryz.prog 149 #[.int .i64 n] w fun e w'=>e=.returned (.int .i64 (varTy n))∧Ext w w':=by
 by_cases h:1≤n∧n≤9
 ·rcases vars_all h with rfl|rfl|rfl|rfl|rfl|rfl|rfl|rfl|rfl
  all_goals
   clear h
   go_enter Tryz.func149,Tryz.ntmps149
   go_wp2_with fail
   go_ret
   exact⟨rfl,ext_new⟩
 ·have hv:varTy n=0:=by unfold varTy;rw[if_neg (by omega),if_neg (by omega),if_neg (by omega)]
  rw[hv]
  clear hv
  by_cases h1:n<1
  ·have t1:decide (n<1)=true:=by simpa using h1
   clear h h1
   go_enter Tryz.func149,Tryz.ntmps149
   go_wp2_with fail
   go_ret
   exact⟨rfl,Ext.refl _⟩
  ·have t1:decide (n<1)=false:=by simpa using h1
   have t9:decide (9<n)=true:=by simp;omega
   clear h h1
   go_enter Tryz.func149,Tryz.ntmps149
   go_wp2_with fail
   go_ret
   exact⟨rfl,Ext.refl _⟩
theorem Zero4.ext {w w':World}{b:Nat}(h:Zero4 w b) (hb:b<w.heap.size) (hE:Ext w w'):Zero4 w' b:=by
 have hf :∀o,w'.frozen? ⟨b,o,none⟩=w.frozen? ⟨b,o,none⟩:=fun o=>hE.below.frozen (p:=⟨b,o,none⟩) hb
 exact⟨(hE.old (p:=⟨b,0,none⟩) hb).trans h.c0,(hE.old (p:=⟨b,1,none⟩) hb).trans h.c1,(hE.old (p:=⟨b,2,none⟩) hb).trans h.c2,(hE.old (p:=⟨b,3,none⟩) hb).trans h.c3,(hf 0).trans h.f0,(hf 1).trans h.f1,(hf 2).trans h.f2,(hf 3).trans h.f3⟩
def vset (w:World) (b:Nat) (t n x s:Value):World:=(((w.setCell ⟨b,0,none⟩ t).setCell ⟨b,1,none⟩ n).setCell ⟨b,2,none⟩ x).setCell ⟨b,3,none⟩ s
theorem vset_grown (w:World) (b:Nat) (t n x s:Value):w.grownBy (vset w b t n x s) (some b):=
 grown_trans (grown_trans (grown_trans (grown_set _ _ _ _) (grown_set _ _ _ _)) (grown_set _ _ _ _)) (grown_set _ _ _ _)
theorem vset_ext {w0 w:World}{b:Nat}{t n x s:Value}(hE:Ext w0 w) (hb:w0.heap.size≤b):Ext w0 (vset w b t n x s):=
 Below.trans hE (below_row' (vset_grown w b t n x s) hE.sz (fun g e=>by simp only[Option.some.injEq]at e;omega))
set_option maxRecDepth 100000 in
set_option maxHeartbeats 4000000 in
theorem rVar_any (x:En) (n:Int) (h:1≤n∧n≤9) (w:World):Calls Tryz.prog 124 #[x.v,.int .i64 n] w fun e w'=>e=.returned (x.var n).vl.v∧Ext w w':=by
 obtain⟨w2,hw2⟩ :∃w2,(w.alloc (.cells #[.int .i64 x.kind,.string ⟨x.cls.toArray⟩,.string ⟨x.name.toArray⟩,.int .i64 x.weight,.int .i64 x.level,.bool x.stairs,.int .i64 x.scale,.int .i64 x.hour,.int .i64 x.reader] 28)).alloc (.cells zero4 44)=w2:=⟨_,rfl⟩
 have hE2:Ext w w2:=by rw[←hw2];exact ext_new.trans ext_new
 have hz:Zero4 w2 (w.heap.size+1):=by
  rw[←hw2]
  have h1:=Go.heap_alloc_new (w.alloc (.cells #[.int .i64 x.kind,.string ⟨x.cls.toArray⟩,.string ⟨x.name.toArray⟩,.int .i64 x.weight,.int .i64 x.level,.bool x.stairs,.int .i64 x.scale,.int .i64 x.hour,.int .i64 x.reader] 28)) (.cells zero4 44)
  rw[World.size_alloc]at h1
  exact Zero4.of h1
 have hl2:w.heap.size+1<w2.heap.size:=by rw[←hw2];simp
 have hc :∀j v,(#[.int .i64 x.kind,.string ⟨x.cls.toArray⟩,.string ⟨x.name.toArray⟩,.int .i64 x.weight,.int .i64 x.level,.bool x.stairs,.int .i64 x.scale,.int .i64 x.hour,.int .i64 x.reader]:Array Value)[j]?=some v→w2.cell? ⟨w.heap.size,j,none⟩=some v:=fun j v hj=>by
  rw[←hw2]
  exact((Ext.alloc _ _).old (p:=⟨w.heap.size,j,none⟩) (by simp)).trans (by rw[World.cell?_alloc_new];exact hj)
 unfold zero4 at hw2
 have HW:=zC hw2
 have HC:=zC hc
 clear hw2 hc
 rcases vars_all h with rfl|rfl|rfl|rfl|rfl|rfl|rfl|rfl|rfl
 all_goals
  clear h
  simp only[En.var,En.v,Va.vl,Vl.v,if_true,if_pos,if_neg,Int.reduceEq,if_false]
  go_enter Tryz.func124,Tryz.ntmps124
  go_wp2_with fail
 ·rw[HW.out]
  refine(rLimit_any _ _).mono ?_
  rintro e w' ⟨rfl,rfl⟩
  go_wp2_with fail
  refine(rInt_any _ _).mono ?_
  rintro e w' ⟨rfl,hE⟩
  obtain⟨z0,z1,z2,z3,f0,f1,f2,f3⟩:=hz.ext hl2 hE
  go_wp2_with fail
  refine bodyPost_ret (v:=_) (by simp only[results,Tryz.results124];go_simp) rfl ⟨rfl,vset_ext (hE2.trans hE) (zB _)⟩
 ·rw[HW.out]
  refine(rString_any _ _).mono ?_
  rintro e w' ⟨rfl,hE⟩
  obtain⟨z0,z1,z2,z3,f0,f1,f2,f3⟩:=hz.ext hl2 hE
  go_wp2_with fail
  refine bodyPost_ret (v:=_) (by simp only[results,Tryz.results124];go_simp) rfl ⟨rfl,vset_ext (hE2.trans hE) (zB _)⟩
 ·rw[HW.out]
  refine(rString_any _ _).mono ?_
  rintro e w' ⟨rfl,hE⟩
  obtain⟨z0,z1,z2,z3,f0,f1,f2,f3⟩:=hz.ext hl2 hE
  go_wp2_with fail
  refine bodyPost_ret (v:=_) (by simp only[results,Tryz.results124];go_simp) rfl ⟨rfl,vset_ext (hE2.trans hE) (zB _)⟩
 ·rw[HW.out]
  refine(rLimit_any _ _).mono ?_
  rintro e w' ⟨rfl,rfl⟩
  go_wp2_with fail
  refine(rInt_any _ _).mono ?_
  rintro e w' ⟨rfl,hE⟩
  obtain⟨z0,z1,z2,z3,f0,f1,f2,f3⟩:=hz.ext hl2 hE
  go_wp2_with fail
  refine bodyPost_ret (v:=_) (by simp only[results,Tryz.results124];go_simp) rfl ⟨rfl,vset_ext (hE2.trans hE) (zB _)⟩
 ·rw[HW.out]
  refine(rLimit_any _ _).mono ?_
  rintro e w' ⟨rfl,rfl⟩
  go_wp2_with fail
  refine(rInt_any _ _).mono ?_
  rintro e w' ⟨rfl,hE⟩
  obtain⟨z0,z1,z2,z3,f0,f1,f2,f3⟩:=hz.ext hl2 hE
  go_wp2_with fail
  refine bodyPost_ret (v:=_) (by simp only[results,Tryz.results124];go_simp) rfl ⟨rfl,vset_ext (hE2.trans hE) (zB _)⟩
 ·rw[HW.out]
  refine(rBool_any _ _).mono ?_
  rintro e w' ⟨rfl,hE⟩
  obtain⟨z0,z1,z2,z3,f0,f1,f2,f3⟩:=hz.ext hl2 hE
  go_wp2_with fail
  refine bodyPost_ret (v:=_) (by simp only[results,Tryz.results124];go_simp) rfl ⟨rfl,vset_ext (hE2.trans hE) (zB _)⟩
 ·rw[HW.out]
  refine(rLimit_any _ _).mono ?_
  rintro e w' ⟨rfl,rfl⟩
  go_wp2_with fail
  refine(rInt_any _ _).mono ?_
  rintro e w' ⟨rfl,hE⟩
  obtain⟨z0,z1,z2,z3,f0,f1,f2,f3⟩:=hz.ext hl2 hE
  go_wp2_with fail
  refine bodyPost_ret (v:=_) (by simp only[results,Tryz.results124];go_simp) rfl ⟨rfl,vset_ext (hE2.trans hE) (zB _)⟩
 ·rw[HW.out]
  refine(rLimit_any _ _).mono ?_
  rintro e w' ⟨rfl,rfl⟩
  go_wp2_with fail
  refine(rInt_any _ _).mono ?_
  rintro e w' ⟨rfl,hE⟩
  obtain⟨z0,z1,z2,z3,f0,f1,f2,f3⟩:=hz.ext hl2 hE
  go_wp2_with fail
  refine bodyPost_ret (v:=_) (by simp only[results,Tryz.results124];go_simp) rfl ⟨rfl,vset_ext (hE2.trans hE) (zB _)⟩
 ·rw[HW.out]
  refine(rLimit_any _ _).mono ?_
  rintro e w' ⟨rfl,rfl⟩
  go_wp2_with fail
  refine(rInt_any _ _).mono ?_
  rintro e w' ⟨rfl,hE⟩
  obtain⟨z0,z1,z2,z3,f0,f1,f2,f3⟩:=hz.ext hl2 hE
  go_wp2_with fail
  refine bodyPost_ret (v:=_) (by simp only[results,Tryz.results124];go_simp) rfl ⟨rfl,vset_ext (hE2.trans hE) (zB _)⟩
end Go.Proofs.YtmiencglfhpmeaaGreatDoor
namespace Go.Proofs.YtmiencglfhpmeaaGreatDoor
open Go.RowKit Hach
def okB (c:UInt8):Bool:=decide (32≤c.toNat)&&decide (c.toNat≤126)&&decide (c.toNat≠34)
def vlRight (x:Vl):Bool:=
 if x.ty=1 then decide (-1073741824≤x.n)&&decide (x.n≤1073741824) && !x.b&&decide (x.s=[])
 else if x.ty=2 then decide (x.n=0)&&decide (x.s=[])
 else if x.ty=3 then x.s.all okB&&decide (x.n=0) && !x.b&&decide (x.s.length≤24) else false
theorem toArr_size (l:List UInt8):(⟨l.toArray⟩:ByteArray).size=l.length:=by show l.toArray.size=_;simp
theorem ba_get (s:List UInt8) (k:Nat) (h:k<(⟨s.toArray⟩:ByteArray).size):(⟨s.toArray⟩:ByteArray)[k]'h=s.getD k 0:=by
 have h':k<s.length:=by rw[←toArr_size];exact h
 show s.toArray[k]'_=_
 simp[List.getD,zA h']
theorem str_ne {s:List UInt8}(h:s≠[]):s.isEmpty=false:=by cases s with
 | nil=>exact absurd rfl h
 | cons c s=>rfl
set_option maxRecDepth 100000 in
set_option maxHeartbeats 4000000 in
theorem right1 (n:Int) (b:Bool) (s:List UInt8) (w:World):Calls Tryz.prog 148 #[(Vl.mk 1 n b s).v] w fun e w'=>e=.returned (.bool (vlRight ⟨1,n,b,s⟩))∧Ext w w':=by
 unfold Vl.v
 by_cases h1 : -1073741824≤n
 ·have t1:decide (-1073741824≤n)=true:=by simpa using h1
  by_cases h2:n≤1073741824
  ·have t2:decide (n≤1073741824)=true:=by simpa using h2
   cases b with
   | false=>
    by_cases h3:s=[]
    ·subst h3
     have HR:Hid (vlRight ⟨1,n,false,[]⟩=true):=zC (by simp[vlRight,h1,h2])
     clear h1 h2
     go_enter Tryz.func148,Tryz.ntmps148
     go_wp2_with fail
     go_ret
     exact⟨by rw[HR.out];rfl,ext_new⟩
    ·have t3:=str_ne h3
     have HR:Hid (vlRight ⟨1,n,false,s⟩=false):=zC (by simp[vlRight,h3])
     clear h1 h2 h3
     go_enter Tryz.func148,Tryz.ntmps148
     go_wp2_with fail
     go_ret
     exact⟨by rw[HR.out];rfl,ext_new⟩
   | true=>
    have HR:Hid (vlRight ⟨1,n,true,s⟩=false):=zC (by simp[vlRight])
    clear h1 h2
    go_enter Tryz.func148,Tryz.ntmps148
    go_wp2_with fail
    go_ret
    exact⟨by rw[HR.out];rfl,ext_new⟩
  ·have t2:decide (n≤1073741824)=false:=by simpa using h2
   have HR:Hid (vlRight ⟨1,n,b,s⟩=false):=zC (by simp[vlRight,h2])
   clear h1 h2
   go_enter Tryz.func148,Tryz.ntmps148
   go_wp2_with fail
   go_ret
   exact⟨by rw[HR.out];rfl,ext_new⟩
 ·have t1:decide (-1073741824≤n)=false:=by simpa using h1
  have HR:Hid (vlRight ⟨1,n,b,s⟩=false):=zC (by simp[vlRight,h1])
  clear h1
  go_enter Tryz.func148,Tryz.ntmps148
  go_wp2_with fail
  go_ret
  exact⟨by rw[HR.out];rfl,ext_new⟩
set_option maxRecDepth 100000 in
set_option maxHeartbeats 4000000 in
theorem right2 (n:Int) (b:Bool) (s:List UInt8) (w:World):Calls Tryz.prog 148 #[(Vl.mk 2 n b s).v] w fun e w'=>e=.returned (.bool (vlRight ⟨2,n,b,s⟩))∧Ext w w':=by
 unfold Vl.v
 by_cases h1:n=0
 ·subst h1
  by_cases h3:s=[]
  ·subst h3
   have HR:Hid (vlRight ⟨2,0,b,[]⟩=true):=zC (by simp[vlRight])
   go_enter Tryz.func148,Tryz.ntmps148
   go_wp2_with fail
   go_ret
   exact⟨by rw[HR.out];rfl,ext_new⟩
  ·have t3:=str_ne h3
   have HR:Hid (vlRight ⟨2,0,b,s⟩=false):=zC (by simp[vlRight,h3])
   clear h3
   go_enter Tryz.func148,Tryz.ntmps148
   go_wp2_with fail
   go_ret
   exact⟨by rw[HR.out];rfl,ext_new⟩
 ·have t1:(n == 0)=false:=int_ne h1
  have HR:Hid (vlRight ⟨2,n,b,s⟩=false):=zC (by simp[vlRight,h1])
  clear h1
  go_enter Tryz.func148,Tryz.ntmps148
  go_wp2_with fail
  go_ret
  exact⟨by rw[HR.out];rfl,ext_new⟩
theorem right0 (t n:Int) (b:Bool) (s:List UInt8) (w:World) (h:t≠1∧t≠2∧t≠3):Calls Tryz.prog 148 #[(Vl.mk t n b s).v] w fun e w'=>e=.returned (.bool (vlRight ⟨t,n,b,s⟩))∧Ext w w':=by
 have HR:Hid (vlRight ⟨t,n,b,s⟩=false):=zC (by simp[vlRight,h.1,h.2.1,h.2.2])
 have e1:(t == 1)=false:=int_ne h.1
 have e2:(t == 2)=false:=int_ne h.2.1
 have e3:(t == 3)=false:=int_ne h.2.2
 clear h
 unfold Vl.v
 go_enter Tryz.func148,Tryz.ntmps148
 go_wp2_with fail
 go_ret
 exact⟨by rw[HR.out];rfl,ext_new⟩
set_option maxRecDepth 100000 in
set_option maxHeartbeats 4000000 in
theorem right3 (n:Int) (b:Bool) (s:List UInt8) (hs:s.length<9223372036854775808) (w:World):Calls Tryz.prog 148 #[(Vl.mk 3 n b s).v] w fun e w'=>e=.returned (.bool (vlRight ⟨3,n,b,s⟩))∧Ext w w':=by
 have hsz:=toArr_size s
 obtain⟨w2,hw2⟩ :∃w2,w.alloc (.cells #[.int .i64 3,.int .i64 n,.bool b,.string ⟨s.toArray⟩] 44)=w2:=⟨_,rfl⟩
 have hE2:Ext w w2:=by rw[←hw2];exact ext_new
 have c1:w2.cell? ⟨w.heap.size,1,none⟩=some (.int .i64 n):=by rw[←hw2,World.cell?_alloc_new];rfl
 have c2:w2.cell? ⟨w.heap.size,2,none⟩=some (.bool b):=by rw[←hw2,World.cell?_alloc_new];rfl
 have c3:w2.cell? ⟨w.heap.size,3,none⟩=some (.string ⟨s.toArray⟩):=by rw[←hw2,World.cell?_alloc_new];rfl
 have HW:=zC hw2
 clear hw2
 unfold Vl.v
 go_enter Tryz.func148,Tryz.ntmps148
 go_wp2_with fail
 rw[HW.out]
 clear HW
 go_loopw [3] (fun kv wr =>∃k:Nat,k≤s.length∧kv=.int .i64 k∧Hid ((s.take k).all okB=true)∧wr=w2) (fun kv _=>s.length-(intOf kv).toNat)
 case atStart=>exact⟨0,Nat.zero_le _,rfl,zC (by simp),rfl⟩
 case round=>
  obtain⟨k,hk,rfl,HK,rfl⟩:=hrel
  by_cases hlt:k<s.length
  ·have hb:=ba_get s k
   obtain⟨c,hc⟩ :∃c,s.getD k 0=c:=⟨_,rfl⟩
   have hsk:s[k]=c:=by rw[←hc];simp[List.getD,zA hlt]
   have hnx:okB c=true→(s.take (k+1)).all okB=true:=fun ho=>by
    rw[List.take_succ_eq_append_getElem hlt,List.all_append,HK.out,hsk];simp[ho]
   have hno:okB c=false→vlRight ⟨3,n,b,s⟩=false:=fun ho=>by
    have:s.all okB=false:=by
     rw[←Bool.not_eq_true,List.all_eq_true]
     intro h
     have:=h s[k] (List.getElem_mem hlt)
     rw[hsk,ho]at this;cases this
    simp[vlRight,this]
   rw[hc]at hb
   have HNX:=zC hnx
   have HNO:=zC hno
   have tk:decide (k<s.length)=true:=by simp;omega
   clear hnx hno hc hsk
   by_cases g1:c.toNat<32
   ·have u1:decide ((c.toNat:Int)<32)=true:=by simp;omega
    have ho:okB c=false:=by unfold okB;simp;omega
    have HO:=zC (HNO.out ho)
    clear ho g1
    go_wp2_with fail
    go_ret
    exact⟨by rw[HO.out];rfl,hE2⟩
   ·have u1:decide ((c.toNat:Int)<32)=false:=by simp;omega
    by_cases g2:126<c.toNat
    ·have u2:decide (126<(c.toNat:Int))=true:=by simp;omega
     have ho:okB c=false:=by unfold okB;simp;omega
     have HO:=zC (HNO.out ho)
     clear ho g1 g2
     go_wp2_with fail
     go_ret
     exact⟨by rw[HO.out];rfl,hE2⟩
    ·have u2:decide (126<(c.toNat:Int))=false:=by simp;omega
     by_cases g3:c.toNat=34
     ·have u3:((c.toNat:Int) == 34)=true:=by rw[beq_iff_eq];omega
      have ho:okB c=false:=by unfold okB;simp;omega
      have HO:=zC (HNO.out ho)
      clear ho g1 g2 g3
      go_wp2_with fail
      go_ret
      exact⟨by rw[HO.out];rfl,hE2⟩
     ·have u3:((c.toNat:Int) == 34)=false:=by rw[beq_eq_false_iff_ne];omega
      have ho:okB c=true:=by unfold okB;simp;omega
      have HO:=zC (HNX.out ho)
      clear ho g1 g2 g3
      go_wp2_with fail
      go_roundw
      case rel=>exact⟨k+1,by omega,by go_num,zC HO.out,by simp⟩
      case measure=>simp[intOf];omega
  ·have hall:s.all okB=true:=by have:=HK.out;rwa [List.take_of_length_le (by omega)]at this
   have tk:decide (k<s.length)=false:=by simp;omega
   have HA:=zC hall
   clear hall
   by_cases h1:n=0
   ·subst h1
    cases b with
    | false=>
     by_cases h4:s.length≤24
     ·have t4:decide ((s.length:Int)≤24)=true:=by simp;omega
      have HR:Hid (vlRight ⟨3,0,false,s⟩=true):=zC (by simp[vlRight,HA.out,h4])
      clear h4
      go_wp2_with fail
      go_ret
      exact⟨by rw[HR.out];rfl,hE2⟩
     ·have t4:decide ((s.length:Int)≤24)=false:=by simp;omega
      have HR:Hid (vlRight ⟨3,0,false,s⟩=false):=zC (by simp[vlRight,h4])
      clear h4
      go_wp2_with fail
      go_ret
      exact⟨by rw[HR.out];rfl,hE2⟩
    | true=>
     have HR:Hid (vlRight ⟨3,0,true,s⟩=false):=zC (by simp[vlRight])
     go_wp2_with fail
     go_ret
     exact⟨by rw[HR.out];rfl,hE2⟩
   ·have t1:(n == 0)=false:=int_ne h1
    have HR:Hid (vlRight ⟨3,n,b,s⟩=false):=zC (by simp[vlRight,h1])
    clear h1
    go_wp2_with fail
    go_ret
    exact⟨by rw[HR.out];rfl,hE2⟩
theorem right_any (x:Vl) (hs:x.s.length<9223372036854775808) (w:World):Calls Tryz.prog 148 #[x.v] w fun e w'=>e=.returned (.bool (vlRight x))∧Ext w w':=by
 obtain⟨t,n,b,s⟩:=x
 by_cases h1:t=1
 ·subst h1;exact right1 n b s w
 ·by_cases h2:t=2
  ·subst h2;exact right2 n b s w
  ·by_cases h3:t=3
   ·subst h3;exact right3 n b s hs w
   ·exact right0 t n b s w ⟨h1,h2,h3⟩
end Go.Proofs.YtmiencglfhpmeaaGreatDoor
namespace Go.Proofs
open Go.Shelf
def Tryz.lays169_ren:Go.Shelf.Ren:=⟨fun|169=>50|n=>n,fun|70=>96|9=>9|0=>0|72=>99|37=>97|127=>132|3=>3|5=>5|n=>n,fun|n=>n⟩
theorem Tryz.lays169:Go.Proofs.Lays.n169 Tryz.prog Tryz.lays169_ren:={
 mixed:=by kernel_rfl
 f169:=Tryz.func50.trans (congrArg some (by kernel_rfl))
 t0:=Tryz.underlying0
 a0:=Tryz.isAgg0
 z0:=Tryz.sizeOf0
 v0:=Tryz.zeroValue0
 t3:=Tryz.underlying3
 a3:=Tryz.isAgg3
 z3:=Tryz.sizeOf3
 v3:=Tryz.zeroValue3
 t9:=Tryz.underlying9
 a9:=Tryz.isAgg9
 z9:=Tryz.sizeOf9
 v9:=Tryz.zeroValue9
 t37:=Tryz.underlying97
 a37:=Tryz.isAgg97
 z37:=Tryz.sizeOf97
 v37:=Tryz.zeroValue97
 t70:=Tryz.underlying96
 a70:=Tryz.isAgg96
 z70:=Tryz.sizeOf96
 v70:=Tryz.zeroValue96
 t72:=Tryz.underlying99
 a72:=Tryz.isAgg99
 z72:=Tryz.sizeOf99
 v72:=Tryz.zeroValue99
 t127:=Tryz.underlying132
 a127:=Tryz.isAgg132
 z127:=Tryz.sizeOf132
 v127:=Tryz.zeroValue132 }
theorem Tryz.Builder_Extra_169:Builder.Extra Tryz.prog Tryz.lays169_ren:={
 sizeBuilder:=by kernel_rfl
 liesBuilder:=by kernel_rfl
 t5:=Tryz.underlying5
 a5:=Tryz.isAgg5
 z5:=Tryz.sizeOf5
 v5:=Tryz.zeroValue5
 infoByte:=by kernel_rfl
 cellsByte:=by kernel_rfl
 sizeByte:=by kernel_rfl
 neB5:=by decide }
def Tryz.lays160_ren:Go.Shelf.Ren:=⟨fun|160=>187|232=>195|231=>194|227=>196|234=>198|233=>197|236=>200|235=>199|228=>201|271=>204|151=>203|197=>202|120=>207|152=>206|260=>205|137=>185|119=>208|224=>175|225=>174|217=>173|266=>190|n=>n,fun|9=>9|4=>4|3=>3|5=>5|117=>225|116=>224|0=>0|124=>228|21=>21|105=>231|46=>206|119=>235|139=>238|138=>237|n=>n,fun|3=>6|4=>7|n=>n⟩
theorem Tryz.lays160:Go.Proofs.Lays.n160 Tryz.prog Tryz.lays160_ren:={
 mixed:=by kernel_rfl
 f119:=Tryz.func208.trans (congrArg some (by kernel_rfl))
 f120:=Tryz.func207.trans (congrArg some (by kernel_rfl))
 f137:=Tryz.func185.trans (congrArg some (by kernel_rfl))
 f151:=Tryz.func203.trans (congrArg some (by kernel_rfl))
 f152:=Tryz.func206.trans (congrArg some (by kernel_rfl))
 f160:=Tryz.func187.trans (congrArg some (by kernel_rfl))
 f197:=Tryz.func202.trans (congrArg some (by kernel_rfl))
 f217:=Tryz.func173.trans (congrArg some (by kernel_rfl))
 f224:=Tryz.func175.trans (congrArg some (by kernel_rfl))
 f225:=Tryz.func174.trans (congrArg some (by kernel_rfl))
 f227:=Tryz.func196.trans (congrArg some (by kernel_rfl))
 f228:=Tryz.func201.trans (congrArg some (by kernel_rfl))
 f231:=Tryz.func194.trans (congrArg some (by kernel_rfl))
 f232:=Tryz.func195.trans (congrArg some (by kernel_rfl))
 f233:=Tryz.func197.trans (congrArg some (by kernel_rfl))
 f234:=Tryz.func198.trans (congrArg some (by kernel_rfl))
 f235:=Tryz.func199.trans (congrArg some (by kernel_rfl))
 f236:=Tryz.func200.trans (congrArg some (by kernel_rfl))
 f260:=Tryz.func205.trans (congrArg some (by kernel_rfl))
 f266:=Tryz.func190.trans (congrArg some (by kernel_rfl))
 f271:=Tryz.func204.trans (congrArg some (by kernel_rfl))
 t0:=Tryz.underlying0
 a0:=Tryz.isAgg0
 z0:=Tryz.sizeOf0
 v0:=Tryz.zeroValue0
 t3:=Tryz.underlying3
 a3:=Tryz.isAgg3
 z3:=Tryz.sizeOf3
 v3:=Tryz.zeroValue3
 t4:=Tryz.underlying4
 a4:=Tryz.isAgg4
 z4:=Tryz.sizeOf4
 v4:=Tryz.zeroValue4
 t5:=Tryz.underlying5
 a5:=Tryz.isAgg5
 z5:=Tryz.sizeOf5
 v5:=Tryz.zeroValue5
 t9:=Tryz.underlying9
 a9:=Tryz.isAgg9
 z9:=Tryz.sizeOf9
 v9:=Tryz.zeroValue9
 t21:=Tryz.underlying21
 a21:=Tryz.isAgg21
 z21:=Tryz.sizeOf21
 v21:=Tryz.zeroValue21
 t46:=Tryz.underlying206
 a46:=Tryz.isAgg206
 z46:=Tryz.sizeOf206
 v46:=Tryz.zeroValue206
 t105:=Tryz.underlying231
 a105:=Tryz.isAgg231
 z105:=Tryz.sizeOf231
 v105:=Tryz.zeroValue231
 t116:=Tryz.underlying224
 a116:=Tryz.isAgg224
 z116:=Tryz.sizeOf224
 t117:=Tryz.underlying225
 a117:=Tryz.isAgg225
 z117:=Tryz.sizeOf225
 v117:=Tryz.zeroValue225
 t119:=Tryz.underlying235
 a119:=Tryz.isAgg235
 z119:=Tryz.sizeOf235
 t124:=Tryz.underlying228
 a124:=Tryz.isAgg228
 z124:=Tryz.sizeOf228
 v124:=Tryz.zeroValue228
 t138:=Tryz.underlying237
 a138:=Tryz.isAgg237
 z138:=Tryz.sizeOf237
 v138:=Tryz.zeroValue237
 t139:=Tryz.underlying238
 a139:=Tryz.isAgg238
 z139:=Tryz.sizeOf238
 v139:=Tryz.zeroValue238
 g3:=by kernel_rfl
 g4:=by kernel_rfl }
open Go.RowKit in
theorem Tryz.strings_Trim_one (s:ByteArray) (c:UInt8) (hc:c.toNat<128) (w:World) (hs:s.size≤9223372036854775807) :
  Calls Tryz.prog 187 #[.string s,.string ⟨#[c]⟩] w fun e w'=>e=.returned (.string ⟨(Lib.trimB s.data.toList c).toArray⟩)∧(w'=w∨w'=w.drew):=Any.strings_Trim_one Tryz.lays160 s c hc w hs
def Tryz.lays137_ren:Go.Shelf.Ren:=⟨fun|137=>185|217=>173|266=>190|n=>n,fun|9=>9|5=>5|3=>3|n=>n,fun|n=>n⟩
theorem Tryz.lays137:Go.Proofs.Lays.n137 Tryz.prog Tryz.lays137_ren:={
 mixed:=by kernel_rfl
 f137:=Tryz.func185.trans (congrArg some (by kernel_rfl))
 f217:=Tryz.func173.trans (congrArg some (by kernel_rfl))
 f266:=Tryz.func190.trans (congrArg some (by kernel_rfl))
 t3:=Tryz.underlying3
 a3:=Tryz.isAgg3
 z3:=Tryz.sizeOf3
 v3:=Tryz.zeroValue3
 t5:=Tryz.underlying5
 a5:=Tryz.isAgg5
 z5:=Tryz.sizeOf5
 v5:=Tryz.zeroValue5
 t9:=Tryz.underlying9
 a9:=Tryz.isAgg9
 z9:=Tryz.sizeOf9
 v9:=Tryz.zeroValue9 }
open Go.RowKit in
theorem Tryz.strings_IndexByte (s:ByteArray) (c:Int) (w:World) :
  Calls Tryz.prog 185 #[.string s,.int .u8 c] w fun e w'=>e=.returned (.int .i64 (Lib.indexByte s.data.toList c.toNat.toUInt8))∧w'=w:=Any.strings_IndexByte Tryz.lays137 s c w
def Tryz.lays121_ren:Go.Shelf.Ren:=⟨fun|121=>106|214=>129|n=>n,fun|4=>4|9=>9|n=>n,fun|n=>n⟩
theorem Tryz.lays121:Go.Proofs.Lays.n121 Tryz.prog Tryz.lays121_ren:={
 mixed:=by kernel_rfl
 f121:=Tryz.func106.trans (congrArg some (by kernel_rfl))
 f214:=Tryz.func129.trans (congrArg some (by kernel_rfl))
 t4:=Tryz.underlying4
 a4:=Tryz.isAgg4
 z4:=Tryz.sizeOf4
 v4:=Tryz.zeroValue4
 t9:=Tryz.underlying9
 a9:=Tryz.isAgg9
 z9:=Tryz.sizeOf9
 v9:=Tryz.zeroValue9 }
open Go.RowKit in
theorem Tryz.strconv_FormatBool (b:Bool) (w:World) :
  Calls Tryz.prog 106 #[.bool b] w fun e w'=>e=.returned (.string ⟨(Lib.formatBool b).toArray⟩)∧w'=w:=Any.strconv_FormatBool Tryz.lays121 b w
def Tryz.laysM171_ren:Go.Shelf.Ren:=⟨fun|171=>84|243=>105|246=>128|283=>151|284=>152|285=>153|286=>154|129=>169|317=>168|318=>170|319=>171|320=>172|337=>188|338=>189|n=>n,fun|3=>3|9=>9|2=>2|4=>4|171=>187|0=>0|53=>188|37=>97|5=>5|173=>191|212=>203|51=>204|20=>20|213=>205|46=>206|232=>229|233=>230|n=>n,fun|17=>0|18=>4|19=>5|n=>n⟩
theorem Tryz.laysM171:Go.Proofs.LaysM.n171 Tryz.prog Tryz.laysM171_ren:={
 mixed:=by kernel_rfl
 f129:=Tryz.func169.trans (congrArg some (by kernel_rfl))
 f171:=Tryz.func84.trans (congrArg some (by kernel_rfl))
 f243:=Tryz.func105.trans (congrArg some (by kernel_rfl))
 f246:=Tryz.func128.trans (congrArg some (by kernel_rfl))
 f283:=Tryz.func151.trans (congrArg some (by kernel_rfl))
 f284:=Tryz.func152.trans (congrArg some (by kernel_rfl))
 f285:=Tryz.func153.trans (congrArg some (by kernel_rfl))
 f286:=Tryz.func154.trans (congrArg some (by kernel_rfl))
 f317:=Tryz.func168.trans (congrArg some (by kernel_rfl))
 f318:=Tryz.func170.trans (congrArg some (by kernel_rfl))
 f319:=Tryz.func171.trans (congrArg some (by kernel_rfl))
 f320:=Tryz.func172.trans (congrArg some (by kernel_rfl))
 f337:=Tryz.func188.trans (congrArg some (by kernel_rfl))
 f338:=Tryz.func189.trans (congrArg some (by kernel_rfl))
 t0:=Tryz.underlying0
 a0:=Tryz.isAgg0
 z0:=Tryz.sizeOf0
 v0:=Tryz.zeroValue0
 t2:=Tryz.underlying2
 a2:=Tryz.isAgg2
 z2:=Tryz.sizeOf2
 v2:=Tryz.zeroValue2
 t3:=Tryz.underlying3
 a3:=Tryz.isAgg3
 z3:=Tryz.sizeOf3
 v3:=Tryz.zeroValue3
 t4:=Tryz.underlying4
 a4:=Tryz.isAgg4
 z4:=Tryz.sizeOf4
 v4:=Tryz.zeroValue4
 t5:=Tryz.underlying5
 a5:=Tryz.isAgg5
 z5:=Tryz.sizeOf5
 v5:=Tryz.zeroValue5
 t9:=Tryz.underlying9
 a9:=Tryz.isAgg9
 z9:=Tryz.sizeOf9
 v9:=Tryz.zeroValue9
 t20:=Tryz.underlying20
 a20:=Tryz.isAgg20
 z20:=Tryz.sizeOf20
 v20:=Tryz.zeroValue20
 t37:=Tryz.underlying97
 a37:=Tryz.isAgg97
 z37:=Tryz.sizeOf97
 v37:=Tryz.zeroValue97
 t46:=Tryz.underlying206
 a46:=Tryz.isAgg206
 z46:=Tryz.sizeOf206
 v46:=Tryz.zeroValue206
 t51:=Tryz.underlying204
 a51:=Tryz.isAgg204
 z51:=Tryz.sizeOf204
 v51:=Tryz.zeroValue204
 t53:=Tryz.underlying188
 a53:=Tryz.isAgg188
 z53:=Tryz.sizeOf188
 v53:=Tryz.zeroValue188
 t171:=Tryz.underlying187
 a171:=Tryz.isAgg187
 z171:=Tryz.sizeOf187
 v171:=Tryz.zeroValue187
 t173:=Tryz.underlying191
 a173:=Tryz.isAgg191
 z173:=Tryz.sizeOf191
 v173:=Tryz.zeroValue191
 t212:=Tryz.underlying203
 a212:=Tryz.isAgg203
 z212:=Tryz.sizeOf203
 v212:=Tryz.zeroValue203
 t213:=Tryz.underlying205
 a213:=Tryz.isAgg205
 z213:=Tryz.sizeOf205
 t232:=Tryz.underlying229
 a232:=Tryz.isAgg229
 z232:=Tryz.sizeOf229
 v232:=Tryz.zeroValue229
 t233:=Tryz.underlying230
 a233:=Tryz.isAgg230
 z233:=Tryz.sizeOf230
 v233:=Tryz.zeroValue230
 g17:=by kernel_rfl
 g18:=by kernel_rfl
 g19:=by kernel_rfl
 i0:=by kernel_rfl
 i2:=by kernel_rfl
 i3:=by kernel_rfl
 i4:=by kernel_rfl
 i5:=by kernel_rfl
 i9:=by kernel_rfl
 i20:=by kernel_rfl
 i37:=by kernel_rfl
 i46:=by kernel_rfl
 i51:=by kernel_rfl
 i53:=by kernel_rfl
 i171:=by kernel_rfl
 i173:=by kernel_rfl
 i212:=by kernel_rfl
 i232:=by kernel_rfl
 i233:=by kernel_rfl
 m17:=by kernel_rfl
 m18:=by kernel_rfl
 m19:=by kernel_rfl }
open Go.RowKit Go.Sort Go.Lib in
theorem Tryz.strconv_Itoa (n:Int) (h0 : -9223372036854775808≤n) (h1:n≤9223372036854775807) (w:World) (htab:Lib.TabIs Tryz.prog w "internal/strconv.uint64pow10" .u64 Lib.pow10Tab) :
  Calls Tryz.prog 84 #[.int .i64 n] w fun e w'=>e=.returned (.string ⟨(Lib.itoa n).toArray⟩) ∧∃k os,w'=grow (w.drewN k) os:=Any.strconv_Itoa Tryz.laysM171 n h0 h1 w htab
def Tryz.laysC172_ren:Go.Shelf.Ren:=⟨fun|172=>111|244=>135|245=>136|247=>156|279=>157|280=>158|281=>159|282=>160|287=>177|316=>178|171=>84|205=>179|321=>192|322=>193|243=>105|246=>128|283=>151|284=>152|285=>153|286=>154|129=>169|317=>168|318=>170|319=>171|320=>172|337=>188|338=>189|n=>n,fun|9=>9|3=>3|75=>101|76=>102|4=>4|5=>5|167=>194|37=>97|0=>0|85=>195|2=>2|168=>197|53=>188|175=>209|46=>206|210=>212|127=>132|145=>221|143=>219|21=>21|171=>187|173=>191|212=>203|51=>204|20=>20|213=>205|232=>229|233=>230|80=>107|n=>n,fun|15=>2|16=>3|17=>0|18=>4|19=>5|n=>n⟩
theorem Tryz.laysC172:Go.Proofs.LaysC.n172 Tryz.prog Tryz.laysC172_ren:={
 mixed:=by kernel_rfl
 f129:=Tryz.func169.trans (congrArg some (by kernel_rfl))
 f171:=Tryz.func84.trans (congrArg some (by kernel_rfl))
 f172:=Tryz.func111.trans (congrArg some (by kernel_rfl))
 f205:=Tryz.func179.trans (congrArg some (by kernel_rfl))
 f243:=Tryz.func105.trans (congrArg some (by kernel_rfl))
 f244:=Tryz.func135.trans (congrArg some (by kernel_rfl))
 f245:=Tryz.func136.trans (congrArg some (by kernel_rfl))
 f246:=Tryz.func128.trans (congrArg some (by kernel_rfl))
 f247:=Tryz.func156.trans (congrArg some (by kernel_rfl))
 f279:=Tryz.func157.trans (congrArg some (by kernel_rfl))
 f280:=Tryz.func158.trans (congrArg some (by kernel_rfl))
 f281:=Tryz.func159.trans (congrArg some (by kernel_rfl))
 f282:=Tryz.func160.trans (congrArg some (by kernel_rfl))
 f283:=Tryz.func151.trans (congrArg some (by kernel_rfl))
 f284:=Tryz.func152.trans (congrArg some (by kernel_rfl))
 f285:=Tryz.func153.trans (congrArg some (by kernel_rfl))
 f286:=Tryz.func154.trans (congrArg some (by kernel_rfl))
 f287:=Tryz.func177.trans (congrArg some (by kernel_rfl))
 f316:=Tryz.func178.trans (congrArg some (by kernel_rfl))
 f317:=Tryz.func168.trans (congrArg some (by kernel_rfl))
 f318:=Tryz.func170.trans (congrArg some (by kernel_rfl))
 f319:=Tryz.func171.trans (congrArg some (by kernel_rfl))
 f320:=Tryz.func172.trans (congrArg some (by kernel_rfl))
 f321:=Tryz.func192.trans (congrArg some (by kernel_rfl))
 f322:=Tryz.func193.trans (congrArg some (by kernel_rfl))
 f337:=Tryz.func188.trans (congrArg some (by kernel_rfl))
 f338:=Tryz.func189.trans (congrArg some (by kernel_rfl))
 t0:=Tryz.underlying0
 a0:=Tryz.isAgg0
 z0:=Tryz.sizeOf0
 v0:=Tryz.zeroValue0
 t2:=Tryz.underlying2
 a2:=Tryz.isAgg2
 z2:=Tryz.sizeOf2
 v2:=Tryz.zeroValue2
 t3:=Tryz.underlying3
 a3:=Tryz.isAgg3
 z3:=Tryz.sizeOf3
 v3:=Tryz.zeroValue3
 t4:=Tryz.underlying4
 a4:=Tryz.isAgg4
 z4:=Tryz.sizeOf4
 v4:=Tryz.zeroValue4
 t5:=Tryz.underlying5
 a5:=Tryz.isAgg5
 z5:=Tryz.sizeOf5
 v5:=Tryz.zeroValue5
 t9:=Tryz.underlying9
 a9:=Tryz.isAgg9
 z9:=Tryz.sizeOf9
 v9:=Tryz.zeroValue9
 t20:=Tryz.underlying20
 a20:=Tryz.isAgg20
 z20:=Tryz.sizeOf20
 v20:=Tryz.zeroValue20
 t21:=Tryz.underlying21
 a21:=Tryz.isAgg21
 z21:=Tryz.sizeOf21
 v21:=Tryz.zeroValue21
 t37:=Tryz.underlying97
 a37:=Tryz.isAgg97
 z37:=Tryz.sizeOf97
 v37:=Tryz.zeroValue97
 t46:=Tryz.underlying206
 a46:=Tryz.isAgg206
 z46:=Tryz.sizeOf206
 v46:=Tryz.zeroValue206
 t51:=Tryz.underlying204
 a51:=Tryz.isAgg204
 z51:=Tryz.sizeOf204
 v51:=Tryz.zeroValue204
 t53:=Tryz.underlying188
 a53:=Tryz.isAgg188
 z53:=Tryz.sizeOf188
 v53:=Tryz.zeroValue188
 t75:=Tryz.underlying101
 a75:=Tryz.isAgg101
 z75:=Tryz.sizeOf101
 v75:=Tryz.zeroValue101
 t76:=Tryz.underlying102
 a76:=Tryz.isAgg102
 z76:=Tryz.sizeOf102
 v76:=Tryz.zeroValue102
 t85:=Tryz.underlying195
 a85:=Tryz.isAgg195
 z85:=Tryz.sizeOf195
 v85:=Tryz.zeroValue195
 t127:=Tryz.underlying132
 a127:=Tryz.isAgg132
 z127:=Tryz.sizeOf132
 v127:=Tryz.zeroValue132
 t143:=Tryz.underlying219
 a143:=Tryz.isAgg219
 z143:=Tryz.sizeOf219
 v143:=Tryz.zeroValue219
 t145:=Tryz.underlying221
 a145:=Tryz.isAgg221
 z145:=Tryz.sizeOf221
 v145:=Tryz.zeroValue221
 t167:=Tryz.underlying194
 a167:=Tryz.isAgg194
 z167:=Tryz.sizeOf194
 v167:=Tryz.zeroValue194
 t168:=Tryz.underlying197
 a168:=Tryz.isAgg197
 z168:=Tryz.sizeOf197
 v168:=Tryz.zeroValue197
 t171:=Tryz.underlying187
 a171:=Tryz.isAgg187
 z171:=Tryz.sizeOf187
 v171:=Tryz.zeroValue187
 t173:=Tryz.underlying191
 a173:=Tryz.isAgg191
 z173:=Tryz.sizeOf191
 v173:=Tryz.zeroValue191
 t175:=Tryz.underlying209
 a175:=Tryz.isAgg209
 z175:=Tryz.sizeOf209
 v175:=Tryz.zeroValue209
 t210:=Tryz.underlying212
 a210:=Tryz.isAgg212
 z210:=Tryz.sizeOf212
 v210:=Tryz.zeroValue212
 t212:=Tryz.underlying203
 a212:=Tryz.isAgg203
 z212:=Tryz.sizeOf203
 v212:=Tryz.zeroValue203
 t213:=Tryz.underlying205
 a213:=Tryz.isAgg205
 z213:=Tryz.sizeOf205
 t232:=Tryz.underlying229
 a232:=Tryz.isAgg229
 z232:=Tryz.sizeOf229
 v232:=Tryz.zeroValue229
 t233:=Tryz.underlying230
 a233:=Tryz.isAgg230
 z233:=Tryz.sizeOf230
 v233:=Tryz.zeroValue230
 g15:=by kernel_rfl
 g16:=by kernel_rfl
 g17:=by kernel_rfl
 g18:=by kernel_rfl
 g19:=by kernel_rfl
 t80:=Tryz.underlying107
 a80:=Tryz.isAgg107
 z80:=Tryz.sizeOf107
 v80:=Tryz.zeroValue107
 i0:=by kernel_rfl
 i2:=by kernel_rfl
 i3:=by kernel_rfl
 i4:=by kernel_rfl
 i5:=by kernel_rfl
 i9:=by kernel_rfl
 i20:=by kernel_rfl
 i21:=by kernel_rfl
 i37:=by kernel_rfl
 i46:=by kernel_rfl
 i51:=by kernel_rfl
 i53:=by kernel_rfl
 i75:=by kernel_rfl
 i76:=by kernel_rfl
 i80:=by kernel_rfl
 i85:=by kernel_rfl
 i127:=by kernel_rfl
 i143:=by kernel_rfl
 i145:=by kernel_rfl
 i167:=by kernel_rfl
 i168:=by kernel_rfl
 i171:=by kernel_rfl
 i173:=by kernel_rfl
 i175:=by kernel_rfl
 i210:=by kernel_rfl
 i212:=by kernel_rfl
 i232:=by kernel_rfl
 i233:=by kernel_rfl
 m15:=by kernel_rfl
 m16:=by kernel_rfl
 m17:=by kernel_rfl
 m18:=by kernel_rfl
 m19:=by kernel_rfl
 c0:=by kernel_rfl
 c2:=by kernel_rfl
 c3:=by kernel_rfl
 c4:=by kernel_rfl
 c5:=by kernel_rfl
 c9:=by kernel_rfl
 c20:=by kernel_rfl
 c21:=by kernel_rfl
 c37:=by kernel_rfl
 c46:=by kernel_rfl
 c51:=by kernel_rfl
 c53:=by kernel_rfl
 c75:=by kernel_rfl
 c76:=by kernel_rfl
 c80:=by kernel_rfl
 c85:=by kernel_rfl
 c127:=by kernel_rfl
 c143:=by kernel_rfl
 c145:=by kernel_rfl
 c167:=by kernel_rfl
 c168:=by kernel_rfl
 c171:=by kernel_rfl
 c173:=by kernel_rfl
 c175:=by kernel_rfl
 c210:=by kernel_rfl
 c212:=by kernel_rfl
 c213:=by kernel_rfl
 c232:=by kernel_rfl
 c233:=by kernel_rfl }
open Go.RowKit in
theorem Tryz.strconv_Atoi_ok (s:ByteArray) (hmax:s.size≤9223372036854775806) (v:Int) (h:Lib.atoiAll s.data.toList=.ok v) (w:World) :
  Calls Tryz.prog 111 #[.string s] w fun e w'=>e=.returned (.tuple #[.int .i64 v,.nilIface])∧(w'=w ∨∃t,w'=Lib.bytesWorld w 5 t):=Any.strconv_Atoi_ok Tryz.laysC172 s hmax v h w
open Go.RowKit in
theorem Tryz.strconv_Atoi_range (s:ByteArray) (hlim:s.size≤281474976710656) (h:Lib.atoiAll s.data.toList=.range) (ev:Value) (w:World) (hv:w.cell? ⟨3,0,none⟩=some ev) (hev:ev=.nilIface ∨∃te pe,ev=.iface te pe) :
  Calls Tryz.prog 111 #[.string s] w fun e w' =>∃N,e=.returned (.tuple #[.int .i64 (Lib.atoiSat s.data.toList),.iface 197 (.pointer (some ⟨N,0,none⟩))])∧w.heap.size≤N∧w'.heap[N]?=some (.cells #[.string ⟨#[65,116,111,105]⟩,.string s,ev] 212 (0,0))∧Below w.heap.size w w':=Any.strconv_Atoi_range Tryz.laysC172 s hlim h ev w hv hev
def Tryz.lays145_ren:Go.Shelf.Ren:=⟨fun|145=>110|220=>134|219=>155|217=>173|225=>174|224=>175|267=>176|266=>190|314=>191|n=>n,fun|9=>9|4=>4|59=>154|3=>3|5=>5|46=>206|146=>217|51=>204|n=>n,fun|1=>1|n=>n⟩
theorem Tryz.lays145:Go.Proofs.Lays.n145 Tryz.prog Tryz.lays145_ren:={
 mixed:=by kernel_rfl
 f145:=Tryz.func110.trans (congrArg some (by kernel_rfl))
 f217:=Tryz.func173.trans (congrArg some (by kernel_rfl))
 f219:=Tryz.func155.trans (congrArg some (by kernel_rfl))
 f220:=Tryz.func134.trans (congrArg some (by kernel_rfl))
 f224:=Tryz.func175.trans (congrArg some (by kernel_rfl))
 f225:=Tryz.func174.trans (congrArg some (by kernel_rfl))
 f266:=Tryz.func190.trans (congrArg some (by kernel_rfl))
 f267:=Tryz.func176.trans (congrArg some (by kernel_rfl))
 f314:=Tryz.func191.trans (congrArg some (by kernel_rfl))
 t3:=Tryz.underlying3
 a3:=Tryz.isAgg3
 z3:=Tryz.sizeOf3
 v3:=Tryz.zeroValue3
 t4:=Tryz.underlying4
 a4:=Tryz.isAgg4
 z4:=Tryz.sizeOf4
 v4:=Tryz.zeroValue4
 t5:=Tryz.underlying5
 a5:=Tryz.isAgg5
 z5:=Tryz.sizeOf5
 v5:=Tryz.zeroValue5
 t9:=Tryz.underlying9
 a9:=Tryz.isAgg9
 z9:=Tryz.sizeOf9
 v9:=Tryz.zeroValue9
 t46:=Tryz.underlying206
 a46:=Tryz.isAgg206
 z46:=Tryz.sizeOf206
 v46:=Tryz.zeroValue206
 t51:=Tryz.underlying204
 a51:=Tryz.isAgg204
 z51:=Tryz.sizeOf204
 v51:=Tryz.zeroValue204
 t59:=Tryz.underlying154
 a59:=Tryz.isAgg154
 z59:=Tryz.sizeOf154
 v59:=Tryz.zeroValue154
 t146:=Tryz.underlying217
 a146:=Tryz.isAgg217
 z146:=Tryz.sizeOf217
 v146:=Tryz.zeroValue217
 g1:=by kernel_rfl }
open Go.RowKit Go.Lib in
theorem Tryz.strings_Cut (s sep:ByteArray) (m:Int) (w:World) (hs:s.size<4294967281) (hm:w.cell? ⟨1,0,none⟩=some (.int .i64 m)) :
  Calls Tryz.prog 110 #[.string s,.string sep] w fun e w'=>e=.returned (.tuple #[.string ⟨(Lib.cut s.data.toList sep.data.toList).1.toArray⟩,.string ⟨(Lib.cut s.data.toList sep.data.toList).2.1.toArray⟩,.bool (Lib.cut s.data.toList sep.data.toList).2.2]) ∧∃n,w'=w.drewN n:=Any.strings_Cut Tryz.lays145 s sep m w hs hm
def Tryz.laysGw15_ren:Go.Shelf.Ren:=⟨fun|15=>119|20=>146|n=>n,fun|9=>9|23=>167|3=>3|4=>4|0=>0|21=>21|n=>n,fun|n=>n⟩
theorem Tryz.laysGw15:Go.Proofs.LaysGw.n15 Tryz.prog Tryz.laysGw15_ren:={
 mixed:=by kernel_rfl
 f15:=Tryz.func119.trans (congrArg some (by kernel_rfl))
 f20:=Tryz.func146.trans (congrArg some (by kernel_rfl))
 t0:=Tryz.underlying0
 a0:=Tryz.isAgg0
 z0:=Tryz.sizeOf0
 v0:=Tryz.zeroValue0
 i0:=by kernel_rfl
 t3:=Tryz.underlying3
 a3:=Tryz.isAgg3
 z3:=Tryz.sizeOf3
 v3:=Tryz.zeroValue3
 i3:=by kernel_rfl
 t4:=Tryz.underlying4
 a4:=Tryz.isAgg4
 z4:=Tryz.sizeOf4
 v4:=Tryz.zeroValue4
 i4:=by kernel_rfl
 t9:=Tryz.underlying9
 a9:=Tryz.isAgg9
 z9:=Tryz.sizeOf9
 v9:=Tryz.zeroValue9
 i9:=by kernel_rfl
 t21:=Tryz.underlying21
 a21:=Tryz.isAgg21
 z21:=Tryz.sizeOf21
 v21:=Tryz.zeroValue21
 i21:=by kernel_rfl
 t23:=Tryz.underlying167
 a23:=Tryz.isAgg167
 z23:=Tryz.sizeOf167
 v23:=Tryz.zeroValue167
 i23:=by kernel_rfl }
open Go.RowKit Go.Lib in
theorem Tryz.strings_IndexFunc (g:Nat) (lb:Array Value) (eg :∀args w,(callFunc g args).run Tryz.prog w=.ok (.enter g args) w) (p:Nat→Bool) (s:ByteArray) (w:World) (hp:PredAt Tryz.prog g lb encR p w) :
  Calls Tryz.prog 119 #[.string s,.func (.func g) #[] lb] w fun e w'=>e=.returned (.int .i64 (Lib.idxFunc p true s))∧Below w.heap.size w w':=Any.strings_IndexFunc Tryz.laysGw15 g lb eg p s w hp
end Go.Proofs
