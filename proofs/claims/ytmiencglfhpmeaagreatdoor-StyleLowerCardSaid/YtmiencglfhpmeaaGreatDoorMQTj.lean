/- The frame of a law that changes nothing: its arguments read behind the call as before. -/
import Derived.Test.YtmiencglfhpmeaaGreatDoorRows
import Derived.ProofKit
import Derived.ShutString
import Derived.OpenShut
import Derived.Carry
import Derived.Lib.SmallJoins
import Derived.SliceStrings
import Derived.Test.YtmiencglfhpmeaaGreatDoorMQXv
import Derived.Test.YtmiencglfhpmeaaGreatDoorMQTi
import Derived.LaidMore
import Derived.Stop.LaidErr
import Derived.Lib.LaidTab
import Derived.HandedShaped
import Derived.MakeChecks
import Derived.ChangeSlices
set_option linter.unusedSimpArgs false
set_option linter.unusedVariables false
namespace Go.Proofs.YtmiencglfhpmeaaGreatDoor
open Go.RowKit Hach
open Go.ChangeShapes Go.WideShapes Go.ChangeAt
theorem laid : laidOutB Tryz.prog = true := by kernel_rfl
theorem trodAll_back {P : Program} (hl : laidOutB P = true) {H : Type} {enc : TypeId × Value → H} {W W' : World} (hb : Below W.heap.size W W') : ∀ (ts : List TypeId) (vs : List Value) (ds : List (DataW H)) (ps : List MemPlace), (∀ t ∈ ts, P.readableRec t = true ∧ t < P.types.size) →
  DataW.TrodAll enc P W 0 (fun _ => true) true ts vs ds ps → (∀ x ∈ ps, x.block < W.heap.size) → DataW.TrodAll enc P W' 0 (fun b => decide (b < W.heap.size)) true ts vs ds ps
 | [], vs, ds, ps, _, h, _ => by
  obtain ⟨rfl, rfl, rfl⟩ := trodAll_nil h
  exact trodAll_mk0
 | t :: ts, vs, ds, ps, ht, h, hlt => by
  obtain ⟨v, vs', d, ds', p, q, rfl, rfl, rfl, h0, r0⟩ := trodAll_cons h
  have h1 := ht t (List.mem_cons_self ..)
  exact trodAll_cons_mk (Below.trod hl h1.1 h1.2 h0 hb (fun x hx => hlt x (List.mem_append_left _ hx)))
   (trodAll_back hl hb ts vs' ds' q (fun u hu => ht u (List.mem_cons_of_mem _ hu)) r0 (fun x hx => hlt x (List.mem_append_right _ hx)))
theorem args_back {P : Program} (hl : laidOutB P = true) {H : Type} {enc : TypeId × Value → H} {W W' : World} (hb : Below W.heap.size W W') (ts : List TypeId) (vs : List Value) (ds : List (DataW H)) (ps : List MemPlace) (ht : (ts.all fun t => P.readableRec t && decide (t < P.types.size)) = true)
  (hA : DataW.TrodAll enc P W 0 (fun _ => true) true ts vs ds ps) (hlt : ∀ x ∈ ps, x.block < W.heap.size) : DataW.TrodAll enc P W' 0 (fun b => decide (b < W.heap.size)) true ts vs ds ps :=
 trodAll_back hl hb ts vs ds ps (fun t h => by
  have := List.all_eq_true.1 ht t h
  rw [Bool.and_eq_true] at this
  exact ⟨this.1, of_decide_eq_true this.2⟩) hA hlt
end Go.Proofs.YtmiencglfhpmeaaGreatDoor
namespace Go.Proofs.YtmiencglfhpmeaaGreatDoor
open Go.RowKit Hach
open Go.ChangeShapes Go.WideShapes Go.ChangeAt
def Laids : List (String × DataW Unit) := Rows.styleBackRow.laid
theorem own : ownKnob Tryz.prog.godebug = none := by kernel_rfl
theorem star : "*" ++ "errors.errorString" = "*errors.errorString" := by decide
theorem rowE (u : TypeId) (h : Tryz.prog.typeName? 3 u = some "*errors.errorString") : u = 219 :=
 typeName_ptr_named (nm := "errors.errorString") (by rw [star]; kernel_rfl) (by kernel_rfl) (by decide) u (by rw [star]; exact h)
theorem tabs_of {W : World} (hL : laidMetH Tryz.prog Laids W) (hS : W.ShapedOpen Tryz.prog) : Wr.Tabs W := by
 rw [MakeChecks.laidMetH_plain _ _ _ (by kernel_rfl)] at hL
 obtain ⟨m, hm⟩ := cell_of_shapedOpen_int (P := Tryz.prog) (w := W) (g := 1) (zero := #[.int .i64 0]) (t := 3) hS (of_decide_eq_true (by kernel_rfl)) (by kernel_rfl) rfl (by kernel_rfl) (by kernel_rfl) Tryz.underlying3
 have h0 : Lib.TabIs Tryz.prog W "internal/strconv.uint64pow10" .u64 Lib.pow10Tab :=
  Lib.tabIs_of_head (g := 0) (t := 203) (e := 188) (n := 20) (by kernel_rfl) (by kernel_rfl) Tryz.underlying203 Tryz.underlying188 (by kernel_rfl) (by kernel_rfl) (show laidMet Tryz.prog (("internal/strconv.uint64pow10", Lib.tabData .u64 Lib.pow10Tab) :: _) W from hL.tail.tail)
 obtain ⟨a3, s3, hv3, _⟩ := laid_sentinel (g := 3) (ti := 101) hL.tail.tail.tail.tail (by kernel_rfl) (by kernel_rfl) Tryz.underlying101 rowE Tryz.underlying219 Tryz.underlying221 rfl rfl Tryz.underlying9 (by kernel_rfl) (by kernel_rfl)
 obtain ⟨a2, s2, hv2, _⟩ := laid_sentinel (g := 2) (ti := 101) hL.tail.tail.tail.tail.tail (by kernel_rfl) (by kernel_rfl) Tryz.underlying101 rowE Tryz.underlying219 Tryz.underlying221 rfl rfl Tryz.underlying9 (by kernel_rfl) (by kernel_rfl)
 have c3 : W.cell? ⟨3, 0, none⟩ = some (.iface 219 (.pointer (some a3))) := by
  simpa using World.var?_cell (P := Tryz.prog) (g := 3) (by kernel_rfl) hv3 0
 have c2 : W.cell? ⟨2, 0, none⟩ = some (.iface 219 (.pointer (some a2))) := by
  simpa using World.var?_cell (P := Tryz.prog) (g := 2) (by kernel_rfl) hv2 0
 have hz : 3 < W.heap.size := World.block_lt_of_cell? W _ c3
 exact ⟨h0, hz, ⟨m, hm⟩, ⟨_, c2, .inr ⟨_, _, rfl⟩⟩, ⟨_, c3, .inr ⟨_, _, rfl⟩⟩⟩
theorem handed_shaped {H : Type} {enc : TypeId × Value → H} {a : Assume} {C : Checked} {os : Os} {f : FuncId} {fn : Func} {s : ChangeSpec} {conds : List PathCond} {apart fresh handsOn again : Bool} {X : World → Array Value → Prop}
  (hX : ∀ (w w' : World) (args : Array Value), w.heap = w'.heap → X w args → X w' args)
  (own : ownKnob C.prog.godebug = none) (started : os.Started) (noInit : C.prog.inits.idxOf? f = none) (hfn : C.prog.funcs[f]? = some fn)
  (witness : ∃ (w : World) (tape : Tape) (i : Input), w.os = os ∧ (w.forCall tape i).Shaped C.prog ∧ i.vars = [] ∧ Input.okWide C.prog (w.forCall tape i) .any w.heap.size f i ∧
   ((s.pre enc C.prog fn conds apart (w.forCall tape i).memory i.args ∧ X (w.forCall tape i).memory i.args) ∧ sizedMet enc C.prog fn (OpenSpec.ofChange s) apart (w.forCall tape i).memory i.args) ∧ a.holds C.prog (lone (Frame.enter C.prog f i.args .normal) [] (w.forCall tape i)))
  (contract : ∀ (W : World) (base : Nat) (args : Array Value) (ds gs : List (DataW H)) (before : List MemPlace),
   (∀ (j : Nat) t v, fn.params[j]? = some t → args[j]? = some v → Value.okWide C.prog W .any base t v) →
   DataW.Whole enc C.prog fn.params.toList s.vars apart W args.toList ds gs before →
   W.ShapedOpen C.prog → X W args →
   Calls C.prog f args W fun e W' => ∃ v, e = .returned v ∧ s.post enc C.prog fn apart fresh handsOn again W args v W') :
  ReturnsInHanded a C os f .any (fun w args => (s.pre enc C.prog fn conds apart w args ∧ X w args) ∧ sizedMet enc C.prog fn (OpenSpec.ofChange s) apart w args) (s.post enc C.prog fn apart fresh handsOn again) := by
 refine returnsInHanded_of_calls own started noInit witness ?_
 intro w tape i _ hsh _ hok hpre hholds
 obtain ⟨_, _, _, fn', hfn', _, _, _, _, hval⟩ := hok
 have e : fn' = fn := Option.some.inj (hfn'.symm.trans hfn)
 subst e
 obtain ⟨⟨⟨ds, gs, before, hw, hc⟩, hx⟩, hz⟩ := hpre
 have hw' := DataW.Whole.of_heap (w' := w.forCall tape i) (by rfl) hw
 refine (contract (w.forCall tape i) w.heap.size i.args ds gs before hval hw' hsh (hX _ _ _ (by rfl) hx)).mono fun e W' ⟨v, he, hp⟩ => ?_
 subst he
 exact ChangeSpec.post_blind hp
theorem ints_open {H : Type} {enc : TypeId × Value → H} {W : World} {fuel : Nat} {A : Option Addr} {n c : Nat} {x : DataW H × List MemPlace} (h : DataW.trod enc Tryz.prog W 0 (fun _ => true) true fuel 22 (Value.slice A n c).cells.toList = some x) : LI W A n := by
 rcases open_ints Tryz.underlying22 Tryz.underlying3 (show Tryz.prog.cellsOf 3 = 1 by kernel_rfl) h with ⟨hcs, _⟩ | ⟨a, len, cap, zs, hcs, _, hl, hm, hz, _, hcell, hws⟩
 ·simp [Value.cells] at hcs
  obtain ⟨rfl, rfl, rfl⟩ := hcs
  exact ⟨by decide, fun h => absurd h (by omega)⟩
 ·simp [Value.cells] at hcs
  obtain ⟨rfl, rfl, rfl⟩ := hcs
  have hz' : zs.length = c := by simpa using hz
  have hm' : c < 9223372036854775808 := by simp only [maxLen] at hm; omega
  refine ⟨by omega, fun h0 => ?_⟩
  obtain ⟨b, o, spot⟩ := a
  have hspot : spot = none := by simpa [Addr.add] using World.cell?_spot (hcell 0 (by omega))
  subst hspot
  have hb : b < W.heap.size := World.block_lt_of_cell? W _ (hcell 0 (by omega))
  refine ⟨b, o, rfl, hb, fun j hj => ?_⟩
  have := hcell j (by omega)
  rw [Go.WideShapes.add_plain] at this
  exact ⟨_, this⟩
end Go.Proofs.YtmiencglfhpmeaaGreatDoor
