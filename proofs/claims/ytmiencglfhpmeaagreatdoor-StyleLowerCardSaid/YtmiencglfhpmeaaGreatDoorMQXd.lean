/- Values as Go's own: wrap, variable; the reference's Int, Bool, String, Var. -/
import Derived.Test.YtmiencglfhpmeaaGreatDoorMQXc
set_option linter.unusedSimpArgs false
set_option linter.unusedVariables false
namespace Go.Proofs.YtmiencglfhpmeaaGreatDoor
open Go.RowKit Hach
inductive Va where
 | nil
 | int (n : Int)
 | bool (b : Bool)
 | txt (s : List UInt8)
def Va.v : Va → Value
 | .nil => .nilIface
 | .int n => .iface 3 (.int .i64 n)
 | .bool b => .iface 4 (.bool b)
 | .txt s => .iface 9 (.string ⟨s.toArray⟩)
structure Vl where
 ty : Int
 n : Int
 b : Bool
 s : List UInt8
def Vl.v (x : Vl) : Value := .agg #[.int .i64 x.ty, .int .i64 x.n, .bool x.b, .string ⟨x.s.toArray⟩]
def Va.vl : Va → Vl
 | .nil => ⟨0, 0, false, []⟩
 | .int n => ⟨1, n, false, []⟩
 | .bool b => ⟨2, 0, b, []⟩
 | .txt s => ⟨3, 0, false, s⟩
@[go_sem] theorem as_int_int (v : Value) (w : World) : (Instr.typeAssert (.iface 3 v) 20 3 true).run Tryz.prog w = .ok (.tuple #[v, .bool true]) w := by kernel_rfl
@[go_sem] theorem as_int_bool (v : Value) (w : World) : (Instr.typeAssert (.iface 3 v) 20 4 true).run Tryz.prog w = .ok (.tuple #[.bool false, .bool false]) w := by kernel_rfl
@[go_sem] theorem as_int_string (v : Value) (w : World) : (Instr.typeAssert (.iface 3 v) 20 9 true).run Tryz.prog w = .ok (.tuple #[.string ByteArray.empty, .bool false]) w := by kernel_rfl
@[go_sem] theorem as_nil_int (w : World) : (Instr.typeAssert .nilIface 20 3 true).run Tryz.prog w = .ok (.tuple #[.int .i64 0, .bool false]) w := by kernel_rfl
@[go_sem] theorem as_bool_int (v : Value) (w : World) : (Instr.typeAssert (.iface 4 v) 20 3 true).run Tryz.prog w = .ok (.tuple #[.int .i64 0, .bool false]) w := by kernel_rfl
@[go_sem] theorem as_bool_bool (v : Value) (w : World) : (Instr.typeAssert (.iface 4 v) 20 4 true).run Tryz.prog w = .ok (.tuple #[v, .bool true]) w := by kernel_rfl
@[go_sem] theorem as_bool_string (v : Value) (w : World) : (Instr.typeAssert (.iface 4 v) 20 9 true).run Tryz.prog w = .ok (.tuple #[.string ByteArray.empty, .bool false]) w := by kernel_rfl
@[go_sem] theorem as_nil_bool (w : World) : (Instr.typeAssert .nilIface 20 4 true).run Tryz.prog w = .ok (.tuple #[.bool false, .bool false]) w := by kernel_rfl
@[go_sem] theorem as_string_int (v : Value) (w : World) : (Instr.typeAssert (.iface 9 v) 20 3 true).run Tryz.prog w = .ok (.tuple #[.int .i64 0, .bool false]) w := by kernel_rfl
@[go_sem] theorem as_string_bool (v : Value) (w : World) : (Instr.typeAssert (.iface 9 v) 20 4 true).run Tryz.prog w = .ok (.tuple #[.bool false, .bool false]) w := by kernel_rfl
@[go_sem] theorem as_string_string (v : Value) (w : World) : (Instr.typeAssert (.iface 9 v) 20 9 true).run Tryz.prog w = .ok (.tuple #[v, .bool true]) w := by kernel_rfl
@[go_sem] theorem as_nil_string (w : World) : (Instr.typeAssert .nilIface 20 9 true).run Tryz.prog w = .ok (.tuple #[.string ByteArray.empty, .bool false]) w := by kernel_rfl
theorem ext_new {w : World} {o : Obj} : Ext w (w.alloc o) := Ext.alloc _ _
set_option maxRecDepth 100000 in
set_option maxHeartbeats 1000000 in
theorem wrap_any (x : Va) (w : World) : Calls Tryz.prog 70 #[x.v] w fun e w' => e = .returned x.vl.v ∧ Ext w w' := by
 cases x
 all_goals
  simp only [Va.vl, Vl.v, Va.v]
  go_enter Tryz.func70, Tryz.ntmps70
  go_wp2_with fail
  refine bodyPost_ret (v := _) (by simp only [results, Tryz.results70]; go_simp) rfl ⟨rfl, ext_new⟩
end Go.Proofs.YtmiencglfhpmeaaGreatDoor
namespace Go.Proofs.YtmiencglfhpmeaaGreatDoor
open Go.RowKit Hach
structure En where
 kind : Int
 cls : List UInt8
 name : List UInt8
 weight : Int
 level : Int
 stairs : Bool
 scale : Int
 hour : Int
 reader : Int
def En.v (x : En) : Value := .agg #[.int .i64 x.kind, .string ⟨x.cls.toArray⟩, .string ⟨x.name.toArray⟩, .int .i64 x.weight, .int .i64 x.level, .bool x.stairs, .int .i64 x.scale, .int .i64 x.hour, .int .i64 x.reader]
def En.var (x : En) (n : Int) : Va :=
 if n = 1 then .int (lim x.kind) else if n = 2 then .txt x.cls else if n = 3 then .txt x.name else if n = 4 then .int (lim x.weight) else if n = 5 then .int (lim x.level) else
 if n = 6 then .bool x.stairs else if n = 7 then .int (lim x.scale) else if n = 8 then .int (lim x.hour) else if n = 9 then .int (lim x.reader) else .nil
theorem vars_all {n : Int} (h : 1 ≤ n ∧ n ≤ 9) : n = 1 ∨ n = 2 ∨ n = 3 ∨ n = 4 ∨ n = 5 ∨ n = 6 ∨ n = 7 ∨ n = 8 ∨ n = 9 := by omega
set_option maxRecDepth 100000 in
set_option maxHeartbeats 4000000 in
theorem variable_any (x : En) (n : Int) (w : World) : Calls Tryz.prog 96 #[x.v, .int .i64 n] w fun e w' => e = .returned (x.var n).v ∧ Ext w w' := by
 by_cases h : 1 ≤ n ∧ n ≤ 9
 ·rcases vars_all h with rfl | rfl | rfl | rfl | rfl | rfl | rfl | rfl | rfl
  all_goals
   clear h
   simp only [En.var, En.v, Va.v, if_true, if_pos, if_neg, Int.reduceEq, if_false]
   go_enter Tryz.func96, Tryz.ntmps96
   go_wp2_with (go_at_call 98; refine (limit_any _ _).mono ?_; rintro e w' ⟨rfl, rfl⟩)
   go_ret
   exact ⟨rfl, ext_new⟩
 ·have hv : x.var n = .nil := by
   unfold En.var
   rw [if_neg (by omega), if_neg (by omega), if_neg (by omega), if_neg (by omega), if_neg (by omega), if_neg (by omega), if_neg (by omega), if_neg (by omega), if_neg (by omega)]
  rw [hv]
  clear hv
  have e1 : (n == 1) = false := int_ne (by omega)
  have e2 : (n == 2) = false := int_ne (by omega)
  have e3 : (n == 3) = false := int_ne (by omega)
  have e4 : (n == 4) = false := int_ne (by omega)
  have e5 : (n == 5) = false := int_ne (by omega)
  have e6 : (n == 6) = false := int_ne (by omega)
  have e7 : (n == 7) = false := int_ne (by omega)
  have e8 : (n == 8) = false := int_ne (by omega)
  have e9 : (n == 9) = false := int_ne (by omega)
  clear h
  simp only [En.v, Va.v]
  go_enter Tryz.func96, Tryz.ntmps96
  go_wp2_with fail
  go_ret
  exact ⟨rfl, ext_new⟩
def zero4 : Array Value := #[.int .i64 0, .int .i64 0, .bool false, .string ⟨#[]⟩]
structure Zero4 (w : World) (b : Nat) : Prop where
 c0 : w.cell? ⟨b, 0, none⟩ = some (.int .i64 0)
 c1 : w.cell? ⟨b, 1, none⟩ = some (.int .i64 0)
 c2 : w.cell? ⟨b, 2, none⟩ = some (.bool false)
 c3 : w.cell? ⟨b, 3, none⟩ = some (.string ⟨#[]⟩)
 f0 : w.frozen? ⟨b, 0, none⟩ = false
 f1 : w.frozen? ⟨b, 1, none⟩ = false
 f2 : w.frozen? ⟨b, 2, none⟩ = false
 f3 : w.frozen? ⟨b, 3, none⟩ = false
theorem Zero4.of {w : World} {b : Nat} (h : w.heap[b]? = some (.cells zero4 44 (0, 0))) : Zero4 w b := by
 constructor <;> simp [World.cell?, World.frozen?, h, zero4]
theorem rInt_any (n : Int) (w : World) : Calls Tryz.prog 126 #[.int .i64 n] w fun e w' => e = .returned (.agg #[.int .i64 1, .int .i64 n, .bool false, .string ⟨#[]⟩]) ∧ Ext w w' := by
 go_enter Tryz.func126, Tryz.ntmps126
 go_wp2_with fail
 refine bodyPost_ret (v := _) (by simp only [results, Tryz.results126]; go_simp) rfl ⟨rfl, ext_new⟩
theorem rBool_any (b : Bool) (w : World) : Calls Tryz.prog 125 #[.bool b] w fun e w' => e = .returned (.agg #[.int .i64 2, .int .i64 0, .bool b, .string ⟨#[]⟩]) ∧ Ext w w' := by
 go_enter Tryz.func125, Tryz.ntmps125
 go_wp2_with fail
 refine bodyPost_ret (v := _) (by simp only [results, Tryz.results125]; go_simp) rfl ⟨rfl, ext_new⟩
theorem rString_any (s : ByteArray) (w : World) : Calls Tryz.prog 150 #[.string s] w fun e w' => e = .returned (.agg #[.int .i64 3, .int .i64 0, .bool false, .string s]) ∧ Ext w w' := by
 go_enter Tryz.func150, Tryz.ntmps150
 go_wp2_with fail
 refine bodyPost_ret (v := _) (by simp only [results, Tryz.results150]; go_simp) rfl ⟨rfl, ext_new⟩
set_option maxRecDepth 100000 in
set_option maxHeartbeats 4000000 in
theorem varType_any (n : Int) (w : World) : Calls Tryz.prog 149 #[.int .i64 n] w fun e w' => e = .returned (.int .i64 (varTy n)) ∧ Ext w w' := by
 by_cases h : 1 ≤ n ∧ n ≤ 9
 ·rcases vars_all h with rfl | rfl | rfl | rfl | rfl | rfl | rfl | rfl | rfl
  all_goals
   clear h
   go_enter Tryz.func149, Tryz.ntmps149
   go_wp2_with fail
   go_ret
   exact ⟨rfl, ext_new⟩
 ·have hv : varTy n = 0 := by unfold varTy; rw [if_neg (by omega), if_neg (by omega), if_neg (by omega)]
  rw [hv]
  clear hv
  by_cases h1 : n < 1
  ·have t1 : decide (n < 1) = true := by simpa using h1
   clear h h1
   go_enter Tryz.func149, Tryz.ntmps149
   go_wp2_with fail
   go_ret
   exact ⟨rfl, Ext.refl _⟩
  ·have t1 : decide (n < 1) = false := by simpa using h1
   have t9 : decide (9 < n) = true := by simp; omega
   clear h h1
   go_enter Tryz.func149, Tryz.ntmps149
   go_wp2_with fail
   go_ret
   exact ⟨rfl, Ext.refl _⟩
theorem Zero4.ext {w w' : World} {b : Nat} (h : Zero4 w b) (hb : b < w.heap.size) (hE : Ext w w') : Zero4 w' b := by
 have hf : ∀ o, w'.frozen? ⟨b, o, none⟩ = w.frozen? ⟨b, o, none⟩ := fun o => hE.below.frozen (p := ⟨b, o, none⟩) hb
 exact ⟨(hE.old (p := ⟨b, 0, none⟩) hb).trans h.c0, (hE.old (p := ⟨b, 1, none⟩) hb).trans h.c1, (hE.old (p := ⟨b, 2, none⟩) hb).trans h.c2, (hE.old (p := ⟨b, 3, none⟩) hb).trans h.c3, (hf 0).trans h.f0, (hf 1).trans h.f1, (hf 2).trans h.f2, (hf 3).trans h.f3⟩
def vset (w : World) (b : Nat) (t n x s : Value) : World := (((w.setCell ⟨b, 0, none⟩ t).setCell ⟨b, 1, none⟩ n).setCell ⟨b, 2, none⟩ x).setCell ⟨b, 3, none⟩ s
theorem vset_grown (w : World) (b : Nat) (t n x s : Value) : w.grownBy (vset w b t n x s) (some b) :=
 grown_trans (grown_trans (grown_trans (grown_set _ _ _ _) (grown_set _ _ _ _)) (grown_set _ _ _ _)) (grown_set _ _ _ _)
theorem vset_ext {w0 w : World} {b : Nat} {t n x s : Value} (hE : Ext w0 w) (hb : w0.heap.size ≤ b) : Ext w0 (vset w b t n x s) :=
 Below.trans hE (below_row' (vset_grown w b t n x s) hE.sz (fun g e => by simp only [Option.some.injEq] at e; omega))
set_option maxRecDepth 100000 in
set_option maxHeartbeats 4000000 in
theorem rVar_any (x : En) (n : Int) (h : 1 ≤ n ∧ n ≤ 9) (w : World) : Calls Tryz.prog 124 #[x.v, .int .i64 n] w fun e w' => e = .returned (x.var n).vl.v ∧ Ext w w' := by
 obtain ⟨w2, hw2⟩ : ∃ w2, (w.alloc (.cells #[.int .i64 x.kind, .string ⟨x.cls.toArray⟩, .string ⟨x.name.toArray⟩, .int .i64 x.weight, .int .i64 x.level, .bool x.stairs, .int .i64 x.scale, .int .i64 x.hour, .int .i64 x.reader] 28)).alloc (.cells zero4 44) = w2 := ⟨_, rfl⟩
 have hE2 : Ext w w2 := by rw [← hw2]; exact ext_new.trans ext_new
 have hz : Zero4 w2 (w.heap.size + 1) := by
  rw [← hw2]
  have h1 := Go.heap_alloc_new (w.alloc (.cells #[.int .i64 x.kind, .string ⟨x.cls.toArray⟩, .string ⟨x.name.toArray⟩, .int .i64 x.weight, .int .i64 x.level, .bool x.stairs, .int .i64 x.scale, .int .i64 x.hour, .int .i64 x.reader] 28)) (.cells zero4 44)
  rw [World.size_alloc] at h1
  exact Zero4.of h1
 have hl2 : w.heap.size + 1 < w2.heap.size := by rw [← hw2]; simp
 have hc : ∀ j v, (#[.int .i64 x.kind, .string ⟨x.cls.toArray⟩, .string ⟨x.name.toArray⟩, .int .i64 x.weight, .int .i64 x.level, .bool x.stairs, .int .i64 x.scale, .int .i64 x.hour, .int .i64 x.reader] : Array Value)[j]? = some v → w2.cell? ⟨w.heap.size, j, none⟩ = some v := fun j v hj => by
  rw [← hw2]
  exact ((Ext.alloc _ _).old (p := ⟨w.heap.size, j, none⟩) (by simp)).trans (by rw [World.cell?_alloc_new]; exact hj)
 unfold zero4 at hw2
 have HW := Lib.hid hw2
 have HC := Lib.hid hc
 clear hw2 hc
 rcases vars_all h with rfl | rfl | rfl | rfl | rfl | rfl | rfl | rfl | rfl
 all_goals
  clear h
  simp only [En.var, En.v, Va.vl, Vl.v, if_true, if_pos, if_neg, Int.reduceEq, if_false]
  go_enter Tryz.func124, Tryz.ntmps124
  go_wp2_with fail
 ·rw [HW.out]
  refine (rLimit_any _ _).mono ?_
  rintro e w' ⟨rfl, rfl⟩
  go_wp2_with fail
  refine (rInt_any _ _).mono ?_
  rintro e w' ⟨rfl, hE⟩
  obtain ⟨z0, z1, z2, z3, f0, f1, f2, f3⟩ := hz.ext hl2 hE
  go_wp2_with fail
  refine bodyPost_ret (v := _) (by simp only [results, Tryz.results124]; go_simp) rfl ⟨rfl, vset_ext (hE2.trans hE) (Nat.le_succ _)⟩
 ·rw [HW.out]
  refine (rString_any _ _).mono ?_
  rintro e w' ⟨rfl, hE⟩
  obtain ⟨z0, z1, z2, z3, f0, f1, f2, f3⟩ := hz.ext hl2 hE
  go_wp2_with fail
  refine bodyPost_ret (v := _) (by simp only [results, Tryz.results124]; go_simp) rfl ⟨rfl, vset_ext (hE2.trans hE) (Nat.le_succ _)⟩
 ·rw [HW.out]
  refine (rString_any _ _).mono ?_
  rintro e w' ⟨rfl, hE⟩
  obtain ⟨z0, z1, z2, z3, f0, f1, f2, f3⟩ := hz.ext hl2 hE
  go_wp2_with fail
  refine bodyPost_ret (v := _) (by simp only [results, Tryz.results124]; go_simp) rfl ⟨rfl, vset_ext (hE2.trans hE) (Nat.le_succ _)⟩
 ·rw [HW.out]
  refine (rLimit_any _ _).mono ?_
  rintro e w' ⟨rfl, rfl⟩
  go_wp2_with fail
  refine (rInt_any _ _).mono ?_
  rintro e w' ⟨rfl, hE⟩
  obtain ⟨z0, z1, z2, z3, f0, f1, f2, f3⟩ := hz.ext hl2 hE
  go_wp2_with fail
  refine bodyPost_ret (v := _) (by simp only [results, Tryz.results124]; go_simp) rfl ⟨rfl, vset_ext (hE2.trans hE) (Nat.le_succ _)⟩
 ·rw [HW.out]
  refine (rLimit_any _ _).mono ?_
  rintro e w' ⟨rfl, rfl⟩
  go_wp2_with fail
  refine (rInt_any _ _).mono ?_
  rintro e w' ⟨rfl, hE⟩
  obtain ⟨z0, z1, z2, z3, f0, f1, f2, f3⟩ := hz.ext hl2 hE
  go_wp2_with fail
  refine bodyPost_ret (v := _) (by simp only [results, Tryz.results124]; go_simp) rfl ⟨rfl, vset_ext (hE2.trans hE) (Nat.le_succ _)⟩
 ·rw [HW.out]
  refine (rBool_any _ _).mono ?_
  rintro e w' ⟨rfl, hE⟩
  obtain ⟨z0, z1, z2, z3, f0, f1, f2, f3⟩ := hz.ext hl2 hE
  go_wp2_with fail
  refine bodyPost_ret (v := _) (by simp only [results, Tryz.results124]; go_simp) rfl ⟨rfl, vset_ext (hE2.trans hE) (Nat.le_succ _)⟩
 ·rw [HW.out]
  refine (rLimit_any _ _).mono ?_
  rintro e w' ⟨rfl, rfl⟩
  go_wp2_with fail
  refine (rInt_any _ _).mono ?_
  rintro e w' ⟨rfl, hE⟩
  obtain ⟨z0, z1, z2, z3, f0, f1, f2, f3⟩ := hz.ext hl2 hE
  go_wp2_with fail
  refine bodyPost_ret (v := _) (by simp only [results, Tryz.results124]; go_simp) rfl ⟨rfl, vset_ext (hE2.trans hE) (Nat.le_succ _)⟩
 ·rw [HW.out]
  refine (rLimit_any _ _).mono ?_
  rintro e w' ⟨rfl, rfl⟩
  go_wp2_with fail
  refine (rInt_any _ _).mono ?_
  rintro e w' ⟨rfl, hE⟩
  obtain ⟨z0, z1, z2, z3, f0, f1, f2, f3⟩ := hz.ext hl2 hE
  go_wp2_with fail
  refine bodyPost_ret (v := _) (by simp only [results, Tryz.results124]; go_simp) rfl ⟨rfl, vset_ext (hE2.trans hE) (Nat.le_succ _)⟩
 ·rw [HW.out]
  refine (rLimit_any _ _).mono ?_
  rintro e w' ⟨rfl, rfl⟩
  go_wp2_with fail
  refine (rInt_any _ _).mono ?_
  rintro e w' ⟨rfl, hE⟩
  obtain ⟨z0, z1, z2, z3, f0, f1, f2, f3⟩ := hz.ext hl2 hE
  go_wp2_with fail
  refine bodyPost_ret (v := _) (by simp only [results, Tryz.results124]; go_simp) rfl ⟨rfl, vset_ext (hE2.trans hE) (Nat.le_succ _)⟩
end Go.Proofs.YtmiencglfhpmeaaGreatDoor
namespace Go.Proofs.YtmiencglfhpmeaaGreatDoor
open Go.RowKit Hach
def okB (c : UInt8) : Bool := decide (32 ≤ c.toNat) && decide (c.toNat ≤ 126) && decide (c.toNat ≠ 34)
def vlRight (x : Vl) : Bool :=
 if x.ty = 1 then decide (-1073741824 ≤ x.n) && decide (x.n ≤ 1073741824) && !x.b && decide (x.s = [])
 else if x.ty = 2 then decide (x.n = 0) && decide (x.s = [])
 else if x.ty = 3 then x.s.all okB && decide (x.n = 0) && !x.b && decide (x.s.length ≤ 24) else false
theorem toArr_size (l : List UInt8) : (⟨l.toArray⟩ : ByteArray).size = l.length := by show l.toArray.size = _; simp
theorem ba_get (s : List UInt8) (k : Nat) (h : k < (⟨s.toArray⟩ : ByteArray).size) : (⟨s.toArray⟩ : ByteArray)[k]'h = s.getD k 0 := by
 have h' : k < s.length := by rw [← toArr_size]; exact h
 show s.toArray[k]'_ = _
 simp [List.getD, List.getElem?_eq_getElem h']
theorem str_ne {s : List UInt8} (h : s ≠ []) : s.isEmpty = false := by cases s with
 | nil => exact absurd rfl h
 | cons c s => rfl
set_option maxRecDepth 100000 in
set_option maxHeartbeats 4000000 in
theorem right1 (n : Int) (b : Bool) (s : List UInt8) (w : World) : Calls Tryz.prog 148 #[(Vl.mk 1 n b s).v] w fun e w' => e = .returned (.bool (vlRight ⟨1, n, b, s⟩)) ∧ Ext w w' := by
 unfold Vl.v
 by_cases h1 : -1073741824 ≤ n
 ·have t1 : decide (-1073741824 ≤ n) = true := by simpa using h1
  by_cases h2 : n ≤ 1073741824
  ·have t2 : decide (n ≤ 1073741824) = true := by simpa using h2
   cases b with
   | false =>
    by_cases h3 : s = []
    ·subst h3
     have HR : Hid (vlRight ⟨1, n, false, []⟩ = true) := Lib.hid (by simp [vlRight, h1, h2])
     clear h1 h2
     go_enter Tryz.func148, Tryz.ntmps148
     go_wp2_with fail
     go_ret
     exact ⟨by rw [HR.out]; rfl, ext_new⟩
    ·have t3 := str_ne h3
     have HR : Hid (vlRight ⟨1, n, false, s⟩ = false) := Lib.hid (by simp [vlRight, h3])
     clear h1 h2 h3
     go_enter Tryz.func148, Tryz.ntmps148
     go_wp2_with fail
     go_ret
     exact ⟨by rw [HR.out]; rfl, ext_new⟩
   | true =>
    have HR : Hid (vlRight ⟨1, n, true, s⟩ = false) := Lib.hid (by simp [vlRight])
    clear h1 h2
    go_enter Tryz.func148, Tryz.ntmps148
    go_wp2_with fail
    go_ret
    exact ⟨by rw [HR.out]; rfl, ext_new⟩
  ·have t2 : decide (n ≤ 1073741824) = false := by simpa using h2
   have HR : Hid (vlRight ⟨1, n, b, s⟩ = false) := Lib.hid (by simp [vlRight, h2])
   clear h1 h2
   go_enter Tryz.func148, Tryz.ntmps148
   go_wp2_with fail
   go_ret
   exact ⟨by rw [HR.out]; rfl, ext_new⟩
 ·have t1 : decide (-1073741824 ≤ n) = false := by simpa using h1
  have HR : Hid (vlRight ⟨1, n, b, s⟩ = false) := Lib.hid (by simp [vlRight, h1])
  clear h1
  go_enter Tryz.func148, Tryz.ntmps148
  go_wp2_with fail
  go_ret
  exact ⟨by rw [HR.out]; rfl, ext_new⟩
set_option maxRecDepth 100000 in
set_option maxHeartbeats 4000000 in
theorem right2 (n : Int) (b : Bool) (s : List UInt8) (w : World) : Calls Tryz.prog 148 #[(Vl.mk 2 n b s).v] w fun e w' => e = .returned (.bool (vlRight ⟨2, n, b, s⟩)) ∧ Ext w w' := by
 unfold Vl.v
 by_cases h1 : n = 0
 ·subst h1
  by_cases h3 : s = []
  ·subst h3
   have HR : Hid (vlRight ⟨2, 0, b, []⟩ = true) := Lib.hid (by simp [vlRight])
   go_enter Tryz.func148, Tryz.ntmps148
   go_wp2_with fail
   go_ret
   exact ⟨by rw [HR.out]; rfl, ext_new⟩
  ·have t3 := str_ne h3
   have HR : Hid (vlRight ⟨2, 0, b, s⟩ = false) := Lib.hid (by simp [vlRight, h3])
   clear h3
   go_enter Tryz.func148, Tryz.ntmps148
   go_wp2_with fail
   go_ret
   exact ⟨by rw [HR.out]; rfl, ext_new⟩
 ·have t1 : (n == 0) = false := int_ne h1
  have HR : Hid (vlRight ⟨2, n, b, s⟩ = false) := Lib.hid (by simp [vlRight, h1])
  clear h1
  go_enter Tryz.func148, Tryz.ntmps148
  go_wp2_with fail
  go_ret
  exact ⟨by rw [HR.out]; rfl, ext_new⟩
theorem right0 (t n : Int) (b : Bool) (s : List UInt8) (w : World) (h : t ≠ 1 ∧ t ≠ 2 ∧ t ≠ 3) : Calls Tryz.prog 148 #[(Vl.mk t n b s).v] w fun e w' => e = .returned (.bool (vlRight ⟨t, n, b, s⟩)) ∧ Ext w w' := by
 have HR : Hid (vlRight ⟨t, n, b, s⟩ = false) := Lib.hid (by simp [vlRight, h.1, h.2.1, h.2.2])
 have e1 : (t == 1) = false := int_ne h.1
 have e2 : (t == 2) = false := int_ne h.2.1
 have e3 : (t == 3) = false := int_ne h.2.2
 clear h
 unfold Vl.v
 go_enter Tryz.func148, Tryz.ntmps148
 go_wp2_with fail
 go_ret
 exact ⟨by rw [HR.out]; rfl, ext_new⟩
set_option maxRecDepth 100000 in
set_option maxHeartbeats 4000000 in
theorem right3 (n : Int) (b : Bool) (s : List UInt8) (hs : s.length < 9223372036854775808) (w : World) : Calls Tryz.prog 148 #[(Vl.mk 3 n b s).v] w fun e w' => e = .returned (.bool (vlRight ⟨3, n, b, s⟩)) ∧ Ext w w' := by
 have hsz := toArr_size s
 obtain ⟨w2, hw2⟩ : ∃ w2, w.alloc (.cells #[.int .i64 3, .int .i64 n, .bool b, .string ⟨s.toArray⟩] 44) = w2 := ⟨_, rfl⟩
 have hE2 : Ext w w2 := by rw [← hw2]; exact ext_new
 have c1 : w2.cell? ⟨w.heap.size, 1, none⟩ = some (.int .i64 n) := by rw [← hw2, World.cell?_alloc_new]; rfl
 have c2 : w2.cell? ⟨w.heap.size, 2, none⟩ = some (.bool b) := by rw [← hw2, World.cell?_alloc_new]; rfl
 have c3 : w2.cell? ⟨w.heap.size, 3, none⟩ = some (.string ⟨s.toArray⟩) := by rw [← hw2, World.cell?_alloc_new]; rfl
 have HW := Lib.hid hw2
 clear hw2
 unfold Vl.v
 go_enter Tryz.func148, Tryz.ntmps148
 go_wp2_with fail
 rw [HW.out]
 clear HW
 go_loopw [3] (fun kv wr => ∃ k : Nat, k ≤ s.length ∧ kv = .int .i64 k ∧ Hid ((s.take k).all okB = true) ∧ wr = w2) (fun kv _ => s.length - (intOf kv).toNat)
 case atStart => exact ⟨0, Nat.zero_le _, rfl, Lib.hid (by simp), rfl⟩
 case round =>
  obtain ⟨k, hk, rfl, HK, rfl⟩ := hrel
  by_cases hlt : k < s.length
  ·have hb := ba_get s k
   obtain ⟨c, hc⟩ : ∃ c, s.getD k 0 = c := ⟨_, rfl⟩
   have hsk : s[k] = c := by rw [← hc]; simp [List.getD, List.getElem?_eq_getElem hlt]
   have hnx : okB c = true → (s.take (k + 1)).all okB = true := fun ho => by
    rw [List.take_succ_eq_append_getElem hlt, List.all_append, HK.out, hsk]; simp [ho]
   have hno : okB c = false → vlRight ⟨3, n, b, s⟩ = false := fun ho => by
    have : s.all okB = false := by
     rw [← Bool.not_eq_true, List.all_eq_true]
     intro h
     have := h s[k] (List.getElem_mem hlt)
     rw [hsk, ho] at this; cases this
    simp [vlRight, this]
   rw [hc] at hb
   have HNX := Lib.hid hnx
   have HNO := Lib.hid hno
   have tk : decide (k < s.length) = true := by simp; omega
   clear hnx hno hc hsk
   by_cases g1 : c.toNat < 32
   ·have u1 : decide ((c.toNat : Int) < 32) = true := by simp; omega
    have ho : okB c = false := by unfold okB; simp; omega
    have HO := Lib.hid (HNO.out ho)
    clear ho g1
    go_wp2_with fail
    go_ret
    exact ⟨by rw [HO.out]; rfl, hE2⟩
   ·have u1 : decide ((c.toNat : Int) < 32) = false := by simp; omega
    by_cases g2 : 126 < c.toNat
    ·have u2 : decide (126 < (c.toNat : Int)) = true := by simp; omega
     have ho : okB c = false := by unfold okB; simp; omega
     have HO := Lib.hid (HNO.out ho)
     clear ho g1 g2
     go_wp2_with fail
     go_ret
     exact ⟨by rw [HO.out]; rfl, hE2⟩
    ·have u2 : decide (126 < (c.toNat : Int)) = false := by simp; omega
     by_cases g3 : c.toNat = 34
     ·have u3 : ((c.toNat : Int) == 34) = true := by rw [beq_iff_eq]; omega
      have ho : okB c = false := by unfold okB; simp; omega
      have HO := Lib.hid (HNO.out ho)
      clear ho g1 g2 g3
      go_wp2_with fail
      go_ret
      exact ⟨by rw [HO.out]; rfl, hE2⟩
     ·have u3 : ((c.toNat : Int) == 34) = false := by rw [beq_eq_false_iff_ne]; omega
      have ho : okB c = true := by unfold okB; simp; omega
      have HO := Lib.hid (HNX.out ho)
      clear ho g1 g2 g3
      go_wp2_with fail
      go_roundw
      case rel => exact ⟨k + 1, by omega, by go_num, Lib.hid HO.out, by simp⟩
      case measure => simp [intOf]; omega
  ·have hall : s.all okB = true := by have := HK.out; rwa [List.take_of_length_le (by omega)] at this
   have tk : decide (k < s.length) = false := by simp; omega
   have HA := Lib.hid hall
   clear hall
   by_cases h1 : n = 0
   ·subst h1
    cases b with
    | false =>
     by_cases h4 : s.length ≤ 24
     ·have t4 : decide ((s.length : Int) ≤ 24) = true := by simp; omega
      have HR : Hid (vlRight ⟨3, 0, false, s⟩ = true) := Lib.hid (by simp [vlRight, HA.out, h4])
      clear h4
      go_wp2_with fail
      go_ret
      exact ⟨by rw [HR.out]; rfl, hE2⟩
     ·have t4 : decide ((s.length : Int) ≤ 24) = false := by simp; omega
      have HR : Hid (vlRight ⟨3, 0, false, s⟩ = false) := Lib.hid (by simp [vlRight, h4])
      clear h4
      go_wp2_with fail
      go_ret
      exact ⟨by rw [HR.out]; rfl, hE2⟩
    | true =>
     have HR : Hid (vlRight ⟨3, 0, true, s⟩ = false) := Lib.hid (by simp [vlRight])
     go_wp2_with fail
     go_ret
     exact ⟨by rw [HR.out]; rfl, hE2⟩
   ·have t1 : (n == 0) = false := int_ne h1
    have HR : Hid (vlRight ⟨3, n, b, s⟩ = false) := Lib.hid (by simp [vlRight, h1])
    clear h1
    go_wp2_with fail
    go_ret
    exact ⟨by rw [HR.out]; rfl, hE2⟩
theorem right_any (x : Vl) (hs : x.s.length < 9223372036854775808) (w : World) : Calls Tryz.prog 148 #[x.v] w fun e w' => e = .returned (.bool (vlRight x)) ∧ Ext w w' := by
 obtain ⟨t, n, b, s⟩ := x
 by_cases h1 : t = 1
 ·subst h1; exact right1 n b s w
 ·by_cases h2 : t = 2
  ·subst h2; exact right2 n b s w
  ·by_cases h3 : t = 3
   ·subst h3; exact right3 n b s hs w
   ·exact right0 t n b s w ⟨h1, h2, h3⟩
end Go.Proofs.YtmiencglfhpmeaaGreatDoor
