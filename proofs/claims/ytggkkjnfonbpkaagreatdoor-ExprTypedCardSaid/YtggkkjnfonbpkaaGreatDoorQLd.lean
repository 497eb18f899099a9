/- The frame of the laws of expressions: what the listed variables give the walks; the wrap; the openers (printed by gen_ld.py). -/
import Derived.Test.YtggkkjnfonbpkaaGreatDoorQXn
import Derived.Test.YtggkkjnfonbpkaaGreatDoorQLc
import Derived.LaidMore
import Derived.Stop.LaidErr
import Derived.Lib.LaidTab
import Derived.HandedShaped
import Derived.MakeChecks
import Derived.ChangeSlices
import Derived.SliceStrings

set_option linter.unusedSimpArgs false
set_option linter.unusedVariables false
namespace Go.Proofs.YtggkkjnfonbpkaaGreatDoor
open Go.RowKit Hach
open Go.ChangeShapes Go.WideShapes Go.ChangeAt

def Laids : List (String × DataW Unit) := Rows.exprBackRow.laid
theorem own : ownKnob Tryz.prog.godebug = none := by kernel_rfl

theorem star : "*" ++ "errors.errorString" = "*errors.errorString" := by decide
theorem rowE (u : TypeId) (h : Tryz.prog.typeName? 3 u = some "*errors.errorString") : u = 174 :=
  typeName_ptr_named (nm := "errors.errorString") (by rw [star]; kernel_rfl) (by kernel_rfl) (by decide) u (by rw [star]; exact h)
theorem tabs_of {W : World} (hL : laidMetH Tryz.prog Laids W) : Tabs W := by
  rw [MakeChecks.laidMetH_plain _ _ _ (by kernel_rfl)] at hL
  have h0 : Lib.TabIs Tryz.prog W "internal/strconv.uint64pow10" .u64 Lib.pow10Tab :=
    Lib.tabIs_of_head (g := 0) (t := 155) (e := 140) (n := 20) (by kernel_rfl) (by kernel_rfl) Tryz.underlying155 Tryz.underlying140 (by kernel_rfl) (by kernel_rfl) (show laidMet Tryz.prog (("internal/strconv.uint64pow10", Lib.tabData .u64 Lib.pow10Tab) :: _) W from hL.tail.tail)
  obtain ⟨a3, s3, hv3, _⟩ := laid_sentinel (g := 3) (ti := 127) hL.tail.tail.tail.tail (by kernel_rfl) (by kernel_rfl) Tryz.underlying127 rowE Tryz.underlying174 Tryz.underlying176 rfl rfl Tryz.underlying9 (by kernel_rfl) (by kernel_rfl)
  obtain ⟨a2, s2, hv2, _⟩ := laid_sentinel (g := 2) (ti := 127) hL.tail.tail.tail.tail.tail (by kernel_rfl) (by kernel_rfl) Tryz.underlying127 rowE Tryz.underlying174 Tryz.underlying176 rfl rfl Tryz.underlying9 (by kernel_rfl) (by kernel_rfl)
  have c3 : W.cell? ⟨3, 0, none⟩ = some (.iface 174 (.pointer (some a3))) := by
    simpa using World.var?_cell (P := Tryz.prog) (g := 3) (by kernel_rfl) hv3 0
  have c2 : W.cell? ⟨2, 0, none⟩ = some (.iface 174 (.pointer (some a2))) := by
    simpa using World.var?_cell (P := Tryz.prog) (g := 2) (by kernel_rfl) hv2 0
  have hz : 3 < W.heap.size := World.block_lt_of_cell? W _ c3
  exact ⟨h0, hz, ⟨_, c2, .inr ⟨_, _, rfl⟩⟩, ⟨_, c3, .inr ⟨_, _, rfl⟩⟩⟩

/- the wrap, the world's shape kept, a condition besides -/
theorem handed_shaped {H : Type} {enc : TypeId × Value → H} {a : Assume} {C : Checked} {os : Os} {f : FuncId} {fn : Func} {s : ChangeSpec} {conds : List PathCond} {apart fresh handsOn again : Bool} {X : World → Array Value → Prop}
    (hX : ∀ (w w' : World) (args : Array Value), w.heap = w'.heap → X w args → X w' args)
    (own : ownKnob C.prog.godebug = none) (started : os.Started) (noInit : C.prog.inits.idxOf? f = none) (hfn : C.prog.funcs[f]? = some fn)
    (witness : ∃ (w : World) (tape : Tape) (i : Input), w.os = os ∧ (w.forCall tape i).Shaped C.prog ∧ i.vars = [] ∧ Input.okWide C.prog (w.forCall tape i) .any w.heap.size f i ∧
      ((s.pre enc C.prog fn conds apart (w.forCall tape i).memory i.args ∧ X (w.forCall tape i).memory i.args) ∧ sizedMet enc C.prog fn (OpenSpec.ofChange s) apart (w.forCall tape i).memory i.args) ∧ a.holds C.prog (lone (Frame.enter C.prog f i.args .normal) [] (w.forCall tape i)))
    (contract : ∀ (W : World) (base : Nat) (args : Array Value) (ds gs : List (DataW H)) (before : List MemPlace),
      (∀ (j : Nat) t v, fn.params[j]? = some t → args[j]? = some v → Value.okWide C.prog W .any base t v) →
      DataW.Whole enc C.prog fn.params.toList s.vars apart W args.toList ds gs before →
      W.ShapedOpen C.prog → X W args →
      Calls C.prog f args W fun e W' => ∃ v, e = .returned v ∧ s.post enc C.prog fn apart fresh handsOn again W args v W') :
    ReturnsInHanded a C os f .any (fun w args => (s.pre enc C.prog fn conds apart w args ∧ X w args) ∧ sizedMet enc C.prog fn (OpenSpec.ofChange s) apart w args) (s.post enc C.prog fn apart fresh handsOn again) := by
  refine returnsInHanded_of_calls own started noInit witness ?_
  intro w tape i _ hsh _ hok hpre hholds
  obtain ⟨_, _, _, fn', hfn', _, _, _, _, hval⟩ := hok
  have e : fn' = fn := Option.some.inj (hfn'.symm.trans hfn)
  subst e
  obtain ⟨⟨⟨ds, gs, before, hw, hc⟩, hx⟩, hz⟩ := hpre
  have hw' := DataW.Whole.of_heap (w' := w.forCall tape i) (by rfl) hw
  refine (contract (w.forCall tape i) w.heap.size i.args ds gs before hval hw' hsh (hX _ _ _ (by rfl) hx)).mono fun e W' ⟨v, he, hp⟩ => ?_
  subst he
  exact ChangeSpec.post_blind hp

/- lists among the arguments -/
theorem ints_open {H : Type} {enc : TypeId × Value → H} {W : World} {fuel : Nat} {A : Option Addr} {n c : Nat} {x : DataW H × List MemPlace} (h : DataW.trod enc Tryz.prog W 0 (fun _ => true) true fuel 22 (Value.slice A n c).cells.toList = some x) : LI W A n := by
  rcases open_ints Tryz.underlying22 Tryz.underlying3 (show Tryz.prog.cellsOf 3 = 1 by kernel_rfl) h with ⟨hcs, _⟩ | ⟨a, len, cap, zs, hcs, _, hl, hm, hz, _, hcell, hws⟩
  · simp [Value.cells] at hcs
    obtain ⟨rfl, rfl, rfl⟩ := hcs
    exact ⟨by decide, fun h => absurd h (by omega)⟩
  · simp [Value.cells] at hcs
    obtain ⟨rfl, rfl, rfl⟩ := hcs
    have hz' : zs.length = c := by simpa using hz
    have hm' : c < 9223372036854775808 := by simp only [maxLen] at hm; omega
    refine ⟨by omega, fun h0 => ?_⟩
    obtain ⟨b, o, spot⟩ := a
    have hspot : spot = none := by simpa [Addr.add] using World.cell?_spot (hcell 0 (by omega))
    subst hspot
    have hb : b < W.heap.size := World.block_lt_of_cell? W _ (hcell 0 (by omega))
    refine ⟨b, o, rfl, hb, fun j hj => ?_⟩
    have := hcell j (by omega)
    rw [Go.WideShapes.add_plain] at this
    exact ⟨_, this⟩
theorem bytes_open {H : Type} {enc : TypeId × Value → H} {W : World} {fuel : Nat} {A : Option Addr} {n c : Nat} {x : DataW H × List MemPlace} (h : DataW.trod enc Tryz.prog W 0 (fun _ => true) true fuel 57 (Value.slice A n c).cells.toList = some x) :
    ∃ bl : List Nat, BI W A bl ∧ n = bl.length := by
  rcases open_ints Tryz.underlying57 Tryz.underlying5 (show Tryz.prog.cellsOf 5 = 1 by kernel_rfl) h with ⟨hcs, _⟩ | ⟨a, len, cap, zs, hcs, _, hl, hm, hz, _, hcell, hws⟩
  · simp [Value.cells] at hcs
    obtain ⟨rfl, rfl, rfl⟩ := hcs
    exact ⟨[], ⟨by decide, fun x h => (by cases h), fun h => absurd rfl h⟩, rfl⟩
  · simp [Value.cells] at hcs
    obtain ⟨rfl, rfl, rfl⟩ := hcs
    have hz' : zs.length = c := by simpa using hz
    have hm' : c < 9223372036854775808 := by simp only [maxLen] at hm; omega
    have hb8 : ∀ v ∈ zs, 0 ≤ v ∧ v ≤ 255 := fun v hv => by have := bounds_u8 (hws v hv); omega
    have hlen : ((zs.take n).map Int.toNat).length = n := by rw [List.length_map, List.length_take, hz']; omega
    refine ⟨(zs.take n).map Int.toNat, ⟨by rw [hlen]; omega, fun y hy => ?_, fun h0 => ?_⟩, hlen.symm⟩
    · obtain ⟨v, hv, rfl⟩ := List.mem_map.1 hy
      have := hb8 v (List.mem_of_mem_take hv)
      omega
    · have hn0 : 0 < n := by
        rw [← hlen]
        cases hq : (zs.take n).map Int.toNat with
        | nil => exact absurd hq h0
        | cons x l => simp
      obtain ⟨b, o, spot⟩ := a
      have hspot : spot = none := by simpa [Addr.add] using World.cell?_spot (hcell 0 (by omega))
      subst hspot
      have hb : b < W.heap.size := World.block_lt_of_cell? W _ (hcell 0 (by omega))
      refine ⟨b, o, rfl, hb, fun j hj => ?_⟩
      rw [hlen] at hj
      have := hcell j (by omega)
      rw [Go.WideShapes.add_plain] at this
      rw [this]
      have hjz : j < zs.length := by omega
      have h1 := hb8 zs[j] (List.getElem_mem hjz)
      simp [List.getD, hj, hjz]
      omega
end Go.Proofs.YtggkkjnfonbpkaaGreatDoor
