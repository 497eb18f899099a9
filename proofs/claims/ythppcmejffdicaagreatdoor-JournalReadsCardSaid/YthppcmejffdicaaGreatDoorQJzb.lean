/- sync.Once's Do where it has not been done and its lock is free: the contracts of its parts; what is called is strings.Replacer's buildOnce, by a contract of its own. -/
import Derived.Test.YthppcmejffdicaaGreatDoorQJza
import Derived.Tactics
import Derived.Tactics2
import Derived.Defers
import Derived.Laws.Pointers
import Derived.Laws.LoneSync
import Derived.RegionTactic
import Derived.RegionCalls
import Derived.ChangeAlike

set_option linter.unusedSimpArgs false
set_option linter.unusedVariables false
namespace Go.Proofs.YthppcmejffdicaaGreatDoor
open Go.RowKit Hach Num Jn

theorem disable (w : World) : (callFunc 116 #[]).run Tryz.prog w = .ok (.value (.tuple #[])) w := run_call_mark0 Tryz.func116 (by kernel_rfl) (by kernel_rfl) (by kernel_rfl) .disable (by kernel_rfl) w
theorem enable (w : World) : (callFunc 118 #[]).run Tryz.prog w = .ok (.value (.tuple #[])) w := run_call_mark0 Tryz.func118 (by kernel_rfl) (by kernel_rfl) (by kernel_rfl) .enable (by kernel_rfl) w
theorem acquire (a : Addr) (w : World) : (callFunc 119 #[.pointer (some a)]).run Tryz.prog w = .ok (.value (.tuple #[])) w := run_call_marked Tryz.func119 (by kernel_rfl) (by kernel_rfl) (by kernel_rfl) .acquire (by kernel_rfl) a w
theorem releaseMerge (a : Addr) (w : World) : (callFunc 121 #[.pointer (some a)]).run Tryz.prog w = .ok (.value (.tuple #[])) w := run_call_marked Tryz.func121 (by kernel_rfl) (by kernel_rfl) (by kernel_rfl) .releaseMerge (by kernel_rfl) a w

theorem store_deferred (a : Addr) (x : Value) (u : FrameMode) (w : World) (hc : w.cell? a = some x) (hz : w.frozen? a = false) :
    CallsD Tryz.prog 98 #[.pointer (some a), .bool true] u w fun e u' w' => u' = u ∧ (e = .returned (.tuple #[]) ∧ w' = w.drew.setCell a (.int .u32 1)) := by
  have hc' : w.drew.cell? a = some x := by go_simp
  have hz' : w.drew.frozen? a = false := by go_simp
  have hst := run_call_store (P := Tryz.prog) Tryz.func110 (by kernel_rfl) (by kernel_rfl) (by kernel_rfl) (by kernel_rfl) (k := .u32) (y := 1) hc' hz'
  go_enter_d Tryz.func98, Tryz.ntmps98
  go_wp2
  go_region_calls
  all_goals (go_end0; exact ⟨rfl, rfl⟩)

set_option maxRecDepth 100000 in
set_option maxHeartbeats 1600000 in
theorem unlock_deferred (a : Addr) (u : FrameMode) (w : World) (hc : w.cell? a = some (.int .i32 1)) (hz : w.frozen? a = false) :
    CallsD Tryz.prog 97 #[.pointer (some a)] u w fun e u' w' => u' = u ∧ (e = .returned (.tuple #[]) ∧ w' = w.setCell a (.int .i32 0)) := by
  have hd := disable
  have he := enable
  have hr := releaseMerge
  have hadd := run_call_add (P := Tryz.prog) Tryz.func122 (by kernel_rfl) (by kernel_rfl) (by kernel_rfl) .i32 (by kernel_rfl) (y := -1) (s := 0) hc hz (by simp [go_sem]; rfl)
  have hcv := run_convert_to_unsafe (P := Tryz.prog) (src := 172) (dst := 129) Tryz.underlying172 Tryz.underlying129 (by kernel_rfl) hc
  go_enter_d Tryz.func97, Tryz.ntmps97
  go_wp2
  go_end0
  go_wp2
  go_end0
  exact ⟨rfl, rfl⟩

set_option maxRecDepth 100000 in
set_option maxHeartbeats 1600000 in
theorem lock_free (a : Addr) (w : World) (hc : w.cell? a = some (.int .i32 0)) (hz : w.frozen? a = false) :
    Calls Tryz.prog 96 #[.pointer (some a)] w fun e w' => e = .returned (.tuple #[]) ∧ w' = w.setCell a (.int .i32 1) := by
  have hd := disable
  have he := enable
  have ha := acquire
  have hcas := run_call_cas_hit (P := Tryz.prog) Tryz.func117 (by kernel_rfl) (by kernel_rfl) (by kernel_rfl) .i32 (by kernel_rfl) (y := 1) hc hz
  have hc' : (w.setCell a (.int .i32 1)).cell? a = some (.int .i32 1) := World.cell?_setCell_same w a _ hc
  have hcv := run_convert_to_unsafe (P := Tryz.prog) (src := 172) (dst := 129) Tryz.underlying172 Tryz.underlying129 (by kernel_rfl) hc'
  go_enter Tryz.func96, Tryz.ntmps96
  go_wp2
  first | go_end0 | (simp only [Exit.inBlock, Exit.then]; refine bodyPost_ret (results_none rfl _ _ _) rfl ?_) | refine bodyPost_ret (results_none rfl _ _ _) rfl ?_
  go_wp2
  go_end0
  exact ⟨rfl, rfl⟩

theorem load_zero (a : Addr) (w : World) (hc : w.cell? a = some (.int .u32 0)) :
    Calls Tryz.prog 83 #[.pointer (some a)] w fun e w' => e = .returned (.bool false) ∧ w' = w := by
  have hl := run_call_load (P := Tryz.prog) Tryz.func95 (by kernel_rfl) (by kernel_rfl) (by kernel_rfl) .u32 (by kernel_rfl) hc
  go_enter Tryz.func83, Tryz.ntmps83
  go_wp2_with fail
  go_ret
  exact ⟨rfl, rfl⟩

/- a replacer in memory that is not yet built: five cells -/
structure Rpl (w : World) (b : Nat) (m : Int) (r o : Value) : Prop where
  row : ∃ cs t, w.heap[b]? = some (.cells cs t (0, 0)) ∧ cs = #[.int .u32 0, .int .i32 m, .int .u32 0, r, o]
theorem Rpl.cell {w : World} {b : Nat} {m : Int} {r o : Value} (h : Rpl w b m r o) : w.cell? ⟨b, 0, none⟩ = some (.int .u32 0) ∧ w.cell? ⟨b, 1, none⟩ = some (.int .i32 m) ∧ w.cell? ⟨b, 3, none⟩ = some r ∧ w.cell? ⟨b, 4, none⟩ = some o := by
  obtain ⟨cs, t, h, rfl⟩ := h.row
  refine ⟨?_, ?_, ?_, ?_⟩ <;> simp [World.cell?, h]
theorem Rpl.fz {w : World} {b : Nat} {m : Int} {r o : Value} (h : Rpl w b m r o) (i : Nat) : w.frozen? ⟨b, i, none⟩ = false := by
  obtain ⟨cs, t, h, rfl⟩ := h.row
  simp [World.frozen?, h]
theorem Rpl.lt {w : World} {b : Nat} {m : Int} {r o : Value} (h : Rpl w b m r o) : b < w.heap.size := by
  obtain ⟨cs, t, h, rfl⟩ := h.row
  exact (Array.getElem?_eq_some_iff.1 h).1
theorem Rpl.lock {w : World} {b : Nat} {m : Int} {r o : Value} (h : Rpl w b m r o) (m' : Int) : Rpl (w.setCell ⟨b, 1, none⟩ (.int .i32 m')) b m' r o := by
  obtain ⟨cs, t, h, rfl⟩ := h.row
  exact ⟨_, t, by simp [World.setCell, Array.getElem?_modify, h], rfl⟩
theorem Rpl.built {w : World} {b : Nat} {m : Int} {r o : Value} (h : Rpl w b m r o) (r' : Value) : Rpl (w.setCell ⟨b, 3, none⟩ r') b m r' o := by
  obtain ⟨cs, t, h, rfl⟩ := h.row
  exact ⟨_, t, by simp [World.setCell, Array.getElem?_modify, h], rfl⟩
theorem Rpl.gone {w : World} {b : Nat} {m : Int} {r o : Value} (h : Rpl w b m r o) (o' : Value) : Rpl (w.setCell ⟨b, 4, none⟩ o') b m r o' := by
  obtain ⟨cs, t, h, rfl⟩ := h.row
  exact ⟨_, t, by simp [World.setCell, Array.getElem?_modify, h], rfl⟩
theorem Rpl.drew {w : World} {b : Nat} {m : Int} {r o : Value} (h : Rpl w b m r o) : Rpl w.drew b m r o := ⟨h.row⟩
theorem Rpl.ext {w w' : World} {b : Nat} {m : Int} {r o : Value} (h : Rpl w b m r o) (hE : Ext w w') : Rpl w' b m r o := by
  have hl := h.lt
  obtain ⟨cs, t, h, e⟩ := h.row
  exact ⟨cs, t, (Below.block hE b hl).trans h, e⟩

set_option maxRecDepth 100000 in
set_option maxHeartbeats 1600000 in
/- doSlow, what it calls being buildOnce -/
theorem slow_of (b : Nat) (w : World) (r o o' : Value) (R : Value → World → Prop) (h : Rpl w b 0 r o)
    (hb : Calls Tryz.prog 76 #[.pointer (some ⟨b, 0, none⟩)] (w.setCell ⟨b, 1, none⟩ (.int .i32 1)) fun e w' => e = .returned (.tuple #[]) ∧ ∃ r', Rpl w' b 1 r' o' ∧ R r' w') :
    Calls Tryz.prog 84 #[.pointer (some ⟨b, 0, none⟩), .func (.func 76) #[.pointer (some ⟨b, 0, none⟩)] #[]] w fun e w' => e = .returned (.tuple #[]) ∧
      ∃ r' w2, Rpl w2 b 1 r' o' ∧ R r' w2 ∧ w' = (w2.drew.setCell ⟨b, 0, none⟩ (.int .u32 1)).setCell ⟨b, 1, none⟩ (.int .i32 0) := by
  obtain ⟨h0, h1, h3, h4⟩ := h.cell
  have f1 := h.fz 1
  have hl : (w.setCell ⟨b, 1, none⟩ (.int .i32 1)).cell? ⟨b, 0, none⟩ = some (.int .u32 0) := (World.cell?_setCell_other _ ⟨b, 1, none⟩ ⟨b, 0, none⟩ _ (by simp)).trans h0
  have hnot : ∀ (x : Bool) (w : World), (Op.unary .not (.bool x)).run Tryz.prog w = .ok (.bool (!x)) w := fun _ _ => rfl
  go_enter_defers Tryz.func84, Tryz.ntmps84
  go_wp2_with (first | (go_at_call 96; refine (lock_free ⟨b, 1, none⟩ _ (by go_simp) (by go_simp)).mono ?_; rintro e w' ⟨rfl, rfl⟩) | (go_at_call 83; refine (load_zero ⟨b, 0, none⟩ _ hl).mono ?_; rintro e w' ⟨rfl, rfl⟩) | (go_at_call 76; refine hb.mono ?_; rintro e w2 ⟨rfl, r', hR2, hRR⟩))
  obtain ⟨g0, g1, g3, g4⟩ := hR2.cell
  have z0 := hR2.fz 0
  have z1 := hR2.fz 1
  refine leaves_cons (f := 98) (args := #[.pointer (some ⟨b, 0, none⟩), .bool true]) (by simp) (by simp [go_sem]) ?_
  refine (store_deferred ⟨b, 0, none⟩ (.int .u32 0) .returning _ g0 z0).mono ?_
  rintro e u' w'' ⟨rfl, rfl, rfl⟩
  refine leaves_cons (f := 97) (args := #[.pointer (some ⟨b, 1, none⟩)]) (by simp [settle]) (by simp [go_sem]) ?_
  refine (unlock_deferred ⟨b, 1, none⟩ _ _ ?_ (by simp [z1])).mono ?_
  · refine (World.cell?_setCell_other _ ⟨b, 0, none⟩ ⟨b, 1, none⟩ _ (by simp)).trans ?_
    rw [World.cell?_drew]
    exact g1
  rintro e u' w'' ⟨rfl, rfl, rfl⟩
  simp [Leaves, settle, results, Tryz.results84]
  exact ⟨r', w2, hR2, hRR, rfl⟩

set_option maxRecDepth 100000 in
set_option maxHeartbeats 1600000 in
theorem do_of (b : Nat) (w : World) (r o o' : Value) (R : Value → World → Prop) (h : Rpl w b 0 r o)
    (hb : Calls Tryz.prog 76 #[.pointer (some ⟨b, 0, none⟩)] (w.setCell ⟨b, 1, none⟩ (.int .i32 1)) fun e w' => e = .returned (.tuple #[]) ∧ ∃ r', Rpl w' b 1 r' o' ∧ R r' w') :
    Calls Tryz.prog 75 #[.pointer (some ⟨b, 0, none⟩), .func (.func 76) #[.pointer (some ⟨b, 0, none⟩)] #[]] w fun e w' => e = .returned (.tuple #[]) ∧
      ∃ r' w2, Rpl w2 b 1 r' o' ∧ R r' w2 ∧ w' = (w2.drew.setCell ⟨b, 0, none⟩ (.int .u32 1)).setCell ⟨b, 1, none⟩ (.int .i32 0) := by
  obtain ⟨h0, h1, h3, h4⟩ := h.cell
  have hnot : ∀ (x : Bool) (w : World), (Op.unary .not (.bool x)).run Tryz.prog w = .ok (.bool (!x)) w := fun _ _ => rfl
  go_enter Tryz.func75, Tryz.ntmps75
  go_wp2_with (first | (go_at_call 84; refine (slow_of b _ r o o' R h hb).mono ?_; rintro e w' ⟨rfl, hw⟩) | (go_at_call 83; refine (load_zero ⟨b, 0, none⟩ _ h0).mono ?_; rintro e w' ⟨rfl, rfl⟩))
  go_end0
  exact ⟨rfl, hw⟩
theorem setCell_size (w : World) (a : Addr) (v : Value) : (w.setCell a v).heap.size = w.heap.size := by unfold World.setCell; exact Array.size_modify
/- where nothing but the replacer's own block and what is new has been written -/
theorem done_below {w w2 : World} {b B : Nat} (h : Below B w w2) (hB : B ≤ b) : Below B w ((w2.drew.setCell ⟨b, 0, none⟩ (.int .u32 1)).setCell ⟨b, 1, none⟩ (.int .i32 0)) := (h.drew.setCell (by exact hB) _).setCell (by exact hB) _
theorem done_cell {w2 : World} {b : Nat} {m : Int} {r o : Value} (h : Rpl w2 b m r o) : ((w2.drew.setCell ⟨b, 0, none⟩ (.int .u32 1)).setCell ⟨b, 1, none⟩ (.int .i32 0)).cell? ⟨b, 3, none⟩ = some r := by
  rw [World.cell?_setCell_other _ ⟨b, 1, none⟩ ⟨b, 3, none⟩ _ (by simp), World.cell?_setCell_other _ ⟨b, 0, none⟩ ⟨b, 3, none⟩ _ (by simp), World.cell?_drew]
  exact h.cell.2.2.1
theorem done_other {w2 : World} {b : Nat} {p : Addr} (hp : p.block ≠ b) : ((w2.drew.setCell ⟨b, 0, none⟩ (.int .u32 1)).setCell ⟨b, 1, none⟩ (.int .i32 0)).cell? p = w2.cell? p := by
  rw [World.cell?_setCell_other _ ⟨b, 1, none⟩ p _ (fun e => hp (by rw [← e])), World.cell?_setCell_other _ ⟨b, 0, none⟩ p _ (fun e => hp (by rw [← e])), World.cell?_drew]
theorem done_size {w2 : World} {b : Nat} : ((w2.drew.setCell ⟨b, 0, none⟩ (.int .u32 1)).setCell ⟨b, 1, none⟩ (.int .i32 0)).heap.size = w2.heap.size := (setCell_size _ _ _).trans (setCell_size _ _ _)
end Go.Proofs.YthppcmejffdicaaGreatDoor
