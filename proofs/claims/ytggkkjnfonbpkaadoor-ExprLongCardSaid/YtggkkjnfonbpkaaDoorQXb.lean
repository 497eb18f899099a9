/- Numbers, classes of operators, variables: plain; the contracts of limit and class, and of the reference's small functions. -/
import Derived.Test.YtggkkjnfonbpkaaDoorQEg

set_option linter.unusedSimpArgs false
set_option linter.unusedVariables false
namespace Go.Proofs.YtggkkjnfonbpkaaDoor
open Go.RowKit Hach

def lim (n : Int) : Int := max (-1073741824) (min n 1073741824)
theorem lim_bd (n : Int) : -1073741824 ≤ lim n ∧ lim n ≤ 1073741824 := by unfold lim; omega
theorem lim_id {n : Int} (h1 : -1073741824 ≤ n) (h2 : n ≤ 1073741824) : lim n = n := by unfold lim; omega
def manyOf (op : Int) : Int := if op = 1 ∨ op = 2 then 0 else if op = 3 then 1 else if 4 ≤ op ∧ op ≤ 12 then 2 else if op = 13 then 3 else -1
def kindOf (op : Int) : Int := if op = 3 ∨ op = 4 ∨ op = 5 then 1 else if op = 6 then 2 else if op = 7 then 3 else if 8 ≤ op ∧ op ≤ 12 then 4 else if op = 13 then 5 else 0
def varTy (n : Int) : Int := if n = 2 ∨ n = 3 then 3 else if n = 6 then 2 else if 1 ≤ n ∧ n ≤ 9 then 1 else 0

theorem ret_i {a b : Int} (h : a = b) : Ending.returned (Value.int .i64 a) = .returned (.int .i64 b) := by rw [h]
theorem limit_any (n : Int) (w : World) : Calls Tryd.prog 39 #[.int .i64 n] w fun e w' => e = .returned (.int .i64 (lim n)) ∧ w' = w := by
  go_enter Tryd.func39, Tryd.ntmps39
  go_wp2_with fail
  all_goals
    go_ret
    exact ⟨ret_i (by unfold lim; omega), rfl⟩
theorem ops_all {op : Int} (h : 1 ≤ op ∧ op ≤ 13) : op = 1 ∨ op = 2 ∨ op = 3 ∨ op = 4 ∨ op = 5 ∨ op = 6 ∨ op = 7 ∨ op = 8 ∨ op = 9 ∨ op = 10 ∨ op = 11 ∨ op = 12 ∨ op = 13 := by omega
theorem int_ne {a b : Int} (h : a ≠ b) : (a == b) = false := by simpa using h
set_option maxHeartbeats 1000000 in
theorem class_any (op : Int) (w : World) : Calls Tryd.prog 34 #[.int .i64 op] w fun e w' => e = .returned (.tuple #[.int .i64 (kindOf op), .int .i64 (manyOf op)]) ∧ w' = w := by
  by_cases h : 1 ≤ op ∧ op ≤ 13
  · rcases ops_all h with rfl | rfl | rfl | rfl | rfl | rfl | rfl | rfl | rfl | rfl | rfl | rfl | rfl
    all_goals
      clear h
      go_enter Tryd.func34, Tryd.ntmps34
      go_wp2_with fail
      go_ret2
      exact ⟨rfl, rfl⟩
  · have hk : kindOf op = 0 := by unfold kindOf; repeat' split <;> omega
    have hm : manyOf op = -1 := by unfold manyOf; repeat' split <;> omega
    have e1 : (op == 1) = false := int_ne (by omega)
    have e2 : (op == 2) = false := int_ne (by omega)
    have e3 : (op == 3) = false := int_ne (by omega)
    have e4 : (op == 4) = false := int_ne (by omega)
    have e5 : (op == 5) = false := int_ne (by omega)
    have e6 : (op == 6) = false := int_ne (by omega)
    have e7 : (op == 7) = false := int_ne (by omega)
    have e13 : (op == 13) = false := int_ne (by omega)
    have HK := Lib.hid hk
    have HM := Lib.hid hm
    clear hk hm
    by_cases h8 : 8 ≤ op
    · have t8 : decide (8 ≤ op) = true := by simpa using h8
      have t12 : decide (op ≤ 12) = false := by simp; omega
      clear h h8
      go_enter Tryd.func34, Tryd.ntmps34
      go_wp2_with fail
      go_ret2
      exact ⟨by rw [HK.out, HM.out]; rfl, rfl⟩
    · have t8 : decide (8 ≤ op) = false := by simpa using h8
      clear h h8
      go_enter Tryd.func34, Tryd.ntmps34
      go_wp2_with fail
      go_ret2
      exact ⟨by rw [HK.out, HM.out]; rfl, rfl⟩
end Go.Proofs.YtggkkjnfonbpkaaDoor

/- Values as Go's own: wrap, variable; the reference's Int, Bool, String, Var. -/
namespace Go.Proofs.YtggkkjnfonbpkaaDoor
open Go.RowKit Hach

/- what an interface value holds -/
inductive Va where
  | nil
  | int (n : Int)
  | bool (b : Bool)
  | txt (s : List UInt8)
def Va.v : Va → Value
  | .nil => .nilIface
  | .int n => .iface 3 (.int .i64 n)
  | .bool b => .iface 4 (.bool b)
  | .txt s => .iface 9 (.string ⟨s.toArray⟩)
/- the same as a value of the map -/
structure Vl where
  ty : Int
  n : Int
  b : Bool
  s : List UInt8
def Vl.v (x : Vl) : Value := .agg #[.int .i64 x.ty, .int .i64 x.n, .bool x.b, .string ⟨x.s.toArray⟩]
def Va.vl : Va → Vl
  | .nil => ⟨0, 0, false, []⟩
  | .int n => ⟨1, n, false, []⟩
  | .bool b => ⟨2, 0, b, []⟩
  | .txt s => ⟨3, 0, false, s⟩
/- type switches, settled -/
@[go_sem] theorem as_int_int (v : Value) (w : World) : (Instr.typeAssert (.iface 3 v) 20 3 true).run Tryd.prog w = .ok (.tuple #[v, .bool true]) w := by kernel_rfl
@[go_sem] theorem as_int_bool (v : Value) (w : World) : (Instr.typeAssert (.iface 3 v) 20 4 true).run Tryd.prog w = .ok (.tuple #[.bool false, .bool false]) w := by kernel_rfl
@[go_sem] theorem as_int_string (v : Value) (w : World) : (Instr.typeAssert (.iface 3 v) 20 9 true).run Tryd.prog w = .ok (.tuple #[.string ByteArray.empty, .bool false]) w := by kernel_rfl
@[go_sem] theorem as_nil_int (w : World) : (Instr.typeAssert .nilIface 20 3 true).run Tryd.prog w = .ok (.tuple #[.int .i64 0, .bool false]) w := by kernel_rfl
@[go_sem] theorem as_bool_int (v : Value) (w : World) : (Instr.typeAssert (.iface 4 v) 20 3 true).run Tryd.prog w = .ok (.tuple #[.int .i64 0, .bool false]) w := by kernel_rfl
@[go_sem] theorem as_bool_bool (v : Value) (w : World) : (Instr.typeAssert (.iface 4 v) 20 4 true).run Tryd.prog w = .ok (.tuple #[v, .bool true]) w := by kernel_rfl
@[go_sem] theorem as_bool_string (v : Value) (w : World) : (Instr.typeAssert (.iface 4 v) 20 9 true).run Tryd.prog w = .ok (.tuple #[.string ByteArray.empty, .bool false]) w := by kernel_rfl
@[go_sem] theorem as_nil_bool (w : World) : (Instr.typeAssert .nilIface 20 4 true).run Tryd.prog w = .ok (.tuple #[.bool false, .bool false]) w := by kernel_rfl
@[go_sem] theorem as_string_int (v : Value) (w : World) : (Instr.typeAssert (.iface 9 v) 20 3 true).run Tryd.prog w = .ok (.tuple #[.int .i64 0, .bool false]) w := by kernel_rfl
@[go_sem] theorem as_string_bool (v : Value) (w : World) : (Instr.typeAssert (.iface 9 v) 20 4 true).run Tryd.prog w = .ok (.tuple #[.bool false, .bool false]) w := by kernel_rfl
@[go_sem] theorem as_string_string (v : Value) (w : World) : (Instr.typeAssert (.iface 9 v) 20 9 true).run Tryd.prog w = .ok (.tuple #[v, .bool true]) w := by kernel_rfl
@[go_sem] theorem as_nil_string (w : World) : (Instr.typeAssert .nilIface 20 9 true).run Tryd.prog w = .ok (.tuple #[.string ByteArray.empty, .bool false]) w := by kernel_rfl
theorem ext_new {w : World} {o : Obj} : Ext w (w.alloc o) := Ext.alloc _ _
set_option maxRecDepth 100000 in
set_option maxHeartbeats 1000000 in
theorem wrap_any (x : Va) (w : World) : Calls Tryd.prog 22 #[x.v] w fun e w' => e = .returned x.vl.v ∧ Ext w w' := by
  cases x
  all_goals
    simp only [Va.vl, Vl.v, Va.v]
    go_enter Tryd.func22, Tryd.ntmps22
    go_wp2_with fail
    refine bodyPost_ret (v := _) (by simp only [results, Tryd.results22]; go_simp) rfl ⟨rfl, ext_new⟩
end Go.Proofs.YtggkkjnfonbpkaaDoor

/- Environments and variables: the contracts of variable, of the reference's Var and VarType, Int, Bool, String. -/
namespace Go.Proofs.YtggkkjnfonbpkaaDoor
open Go.RowKit Hach

structure En where
  kind : Int
  cls : List UInt8
  name : List UInt8
  weight : Int
  level : Int
  stairs : Bool
  scale : Int
  hour : Int
  reader : Int
def En.v (x : En) : Value := .agg #[.int .i64 x.kind, .string ⟨x.cls.toArray⟩, .string ⟨x.name.toArray⟩, .int .i64 x.weight, .int .i64 x.level, .bool x.stairs, .int .i64 x.scale, .int .i64 x.hour, .int .i64 x.reader]
def En.var (x : En) (n : Int) : Va :=
  if n = 1 then .int (lim x.kind) else if n = 2 then .txt x.cls else if n = 3 then .txt x.name else if n = 4 then .int (lim x.weight) else if n = 5 then .int (lim x.level) else
  if n = 6 then .bool x.stairs else if n = 7 then .int (lim x.scale) else if n = 8 then .int (lim x.hour) else if n = 9 then .int (lim x.reader) else .nil
theorem vars_all {n : Int} (h : 1 ≤ n ∧ n ≤ 9) : n = 1 ∨ n = 2 ∨ n = 3 ∨ n = 4 ∨ n = 5 ∨ n = 6 ∨ n = 7 ∨ n = 8 ∨ n = 9 := by omega
set_option maxRecDepth 100000 in
set_option maxHeartbeats 4000000 in
theorem variable_any (x : En) (n : Int) (w : World) : Calls Tryd.prog 38 #[x.v, .int .i64 n] w fun e w' => e = .returned (x.var n).v ∧ Ext w w' := by
  by_cases h : 1 ≤ n ∧ n ≤ 9
  · rcases vars_all h with rfl | rfl | rfl | rfl | rfl | rfl | rfl | rfl | rfl
    all_goals
      clear h
      simp only [En.var, En.v, Va.v, if_true, if_pos, if_neg, Int.reduceEq, if_false]
      go_enter Tryd.func38, Tryd.ntmps38
      go_wp2_with (go_at_call 39; refine (limit_any _ _).mono ?_; rintro e w' ⟨rfl, rfl⟩)
      go_ret
      exact ⟨rfl, ext_new⟩
  · have hv : x.var n = .nil := by
      unfold En.var
      rw [if_neg (by omega), if_neg (by omega), if_neg (by omega), if_neg (by omega), if_neg (by omega), if_neg (by omega), if_neg (by omega), if_neg (by omega), if_neg (by omega)]
    rw [hv]
    clear hv
    have e1 : (n == 1) = false := int_ne (by omega)
    have e2 : (n == 2) = false := int_ne (by omega)
    have e3 : (n == 3) = false := int_ne (by omega)
    have e4 : (n == 4) = false := int_ne (by omega)
    have e5 : (n == 5) = false := int_ne (by omega)
    have e6 : (n == 6) = false := int_ne (by omega)
    have e7 : (n == 7) = false := int_ne (by omega)
    have e8 : (n == 8) = false := int_ne (by omega)
    have e9 : (n == 9) = false := int_ne (by omega)
    clear h
    simp only [En.v, Va.v]
    go_enter Tryd.func38, Tryd.ntmps38
    go_wp2_with fail
    go_ret
    exact ⟨rfl, ext_new⟩
/- a block that holds one value -/
def zero4 : Array Value := #[.int .i64 0, .int .i64 0, .bool false, .string ⟨#[]⟩]
structure Zero4 (w : World) (b : Nat) : Prop where
  c0 : w.cell? ⟨b, 0, none⟩ = some (.int .i64 0)
  c1 : w.cell? ⟨b, 1, none⟩ = some (.int .i64 0)
  c2 : w.cell? ⟨b, 2, none⟩ = some (.bool false)
  c3 : w.cell? ⟨b, 3, none⟩ = some (.string ⟨#[]⟩)
  f0 : w.frozen? ⟨b, 0, none⟩ = false
  f1 : w.frozen? ⟨b, 1, none⟩ = false
  f2 : w.frozen? ⟨b, 2, none⟩ = false
  f3 : w.frozen? ⟨b, 3, none⟩ = false
theorem Zero4.of {w : World} {b : Nat} (h : w.heap[b]? = some (.cells zero4 26 (0, 0))) : Zero4 w b := by
  constructor <;> simp [World.cell?, World.frozen?, h, zero4]
theorem rInt_any (n : Int) (w : World) : Calls Tryd.prog 8 #[.int .i64 n] w fun e w' => e = .returned (.agg #[.int .i64 1, .int .i64 n, .bool false, .string ⟨#[]⟩]) ∧ Ext w w' := by
  go_enter Tryd.func8, Tryd.ntmps8
  go_wp2_with fail
  refine bodyPost_ret (v := _) (by simp only [results, Tryd.results8]; go_simp) rfl ⟨rfl, ext_new⟩
theorem rBool_any (b : Bool) (w : World) : Calls Tryd.prog 9 #[.bool b] w fun e w' => e = .returned (.agg #[.int .i64 2, .int .i64 0, .bool b, .string ⟨#[]⟩]) ∧ Ext w w' := by
  go_enter Tryd.func9, Tryd.ntmps9
  go_wp2_with fail
  refine bodyPost_ret (v := _) (by simp only [results, Tryd.results9]; go_simp) rfl ⟨rfl, ext_new⟩
theorem Zero4.ext {w w' : World} {b : Nat} (h : Zero4 w b) (hb : b < w.heap.size) (hE : Ext w w') : Zero4 w' b := by
  have hf : ∀ o, w'.frozen? ⟨b, o, none⟩ = w.frozen? ⟨b, o, none⟩ := fun o => hE.below.frozen (p := ⟨b, o, none⟩) hb
  exact ⟨(hE.old (p := ⟨b, 0, none⟩) hb).trans h.c0, (hE.old (p := ⟨b, 1, none⟩) hb).trans h.c1, (hE.old (p := ⟨b, 2, none⟩) hb).trans h.c2, (hE.old (p := ⟨b, 3, none⟩) hb).trans h.c3, (hf 0).trans h.f0, (hf 1).trans h.f1, (hf 2).trans h.f2, (hf 3).trans h.f3⟩
def vset (w : World) (b : Nat) (t n x s : Value) : World := (((w.setCell ⟨b, 0, none⟩ t).setCell ⟨b, 1, none⟩ n).setCell ⟨b, 2, none⟩ x).setCell ⟨b, 3, none⟩ s
theorem vset_grown (w : World) (b : Nat) (t n x s : Value) : w.grownBy (vset w b t n x s) (some b) :=
  grown_trans (grown_trans (grown_trans (grown_set _ _ _ _) (grown_set _ _ _ _)) (grown_set _ _ _ _)) (grown_set _ _ _ _)
theorem vset_ext {w0 w : World} {b : Nat} {t n x s : Value} (hE : Ext w0 w) (hb : w0.heap.size ≤ b) : Ext w0 (vset w b t n x s) :=
  Below.trans hE (below_row' (vset_grown w b t n x s) hE.sz (fun g e => by simp only [Option.some.injEq] at e; omega))
end Go.Proofs.YtggkkjnfonbpkaaDoor

/- Right values: plain; the contract of the reference's Right. -/
namespace Go.Proofs.YtggkkjnfonbpkaaDoor
open Go.RowKit Hach

def okB (c : UInt8) : Bool := decide (32 ≤ c.toNat) && decide (c.toNat ≤ 126) && decide (c.toNat ≠ 34)
def vlRight (x : Vl) : Bool :=
  if x.ty = 1 then decide (-1073741824 ≤ x.n) && decide (x.n ≤ 1073741824) && !x.b && decide (x.s = [])
  else if x.ty = 2 then decide (x.n = 0) && decide (x.s = [])
  else if x.ty = 3 then x.s.all okB && decide (x.n = 0) && !x.b && decide (x.s.length ≤ 24) else false
theorem toArr_size (l : List UInt8) : (⟨l.toArray⟩ : ByteArray).size = l.length := by show l.toArray.size = _; simp
theorem ba_get (s : List UInt8) (k : Nat) (h : k < (⟨s.toArray⟩ : ByteArray).size) : (⟨s.toArray⟩ : ByteArray)[k]'h = s.getD k 0 := by
  have h' : k < s.length := by rw [← toArr_size]; exact h
  show s.toArray[k]'_ = _
  simp [List.getD, List.getElem?_eq_getElem h']
theorem str_ne {s : List UInt8} (h : s ≠ []) : s.isEmpty = false := by cases s with
  | nil => exact absurd rfl h
  | cons c s => rfl
theorem ret_b {a b : Bool} (h : a = b) : Ending.returned (Value.bool a) = .returned (.bool b) := by rw [h]
end Go.Proofs.YtggkkjnfonbpkaaDoor
