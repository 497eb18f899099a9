/- Environments that lie in a block of their own; the law's env (printed by gen_ig.py). -/
import Derived.Test.YtggkkjnfonbpkaaGreatDoorQXl
import Derived.Test.YtggkkjnfonbpkaaGreatDoorQEg
import Derived.Test.YtggkkjnfonbpkaaGreatDoorQXe
import Derived.Test.YtggkkjnfonbpkaaGreatDoorQXi

set_option linter.unusedSimpArgs false
set_option linter.unusedVariables false
namespace Go.Proofs.YtggkkjnfonbpkaaGreatDoor
open Go.RowKit Hach

def Ev_row (x : En) : Array Value := #[.int .i64 x.kind, .string ⟨x.cls.toArray⟩, .string ⟨x.name.toArray⟩, .int .i64 x.weight, .int .i64 x.level, .bool x.stairs, .int .i64 x.scale, .int .i64 x.hour, .int .i64 x.reader]
def Ev_zero : Array Value := #[.int .i64 0, .string ⟨#[]⟩, .string ⟨#[]⟩, .int .i64 0, .int .i64 0, .bool false, .int .i64 0, .int .i64 0, .int .i64 0]
def EvB (w : World) (b : Nat) (x : En) : Prop := w.heap[b]? = some (.cells (Ev_row x) 31 (0, 0))
def EvZ (w : World) (b : Nat) : Prop := w.heap[b]? = some (.cells Ev_zero 31 (0, 0))
theorem EvB.lt {w : World} {b : Nat} {x : En} (h : EvB w b x) : b < w.heap.size := (Array.getElem?_eq_some_iff.1 h).1
theorem EvB.ext {w w' : World} {b : Nat} {x : En} (h : EvB w b x) (hE : Ext w w') : EvB w' b x := (hE.below.block b h.lt).trans h
theorem EvB.own {w w' : World} {b : Nat} {x : En} {r : Option Nat} (h : EvB w b x) (hg : w.grownBy w' r) (hb : some b ≠ r) : EvB w' b x := (hg.block b h.lt hb).trans h
theorem EvB.new (w : World) (x : En) : EvB (w.alloc (.cells (Ev_row x) 31)) w.heap.size x := Go.heap_alloc_new _ _
theorem EvB.cells {w : World} {b : Nat} {x : En} (h : EvB w b x) : w.cell? ⟨b, 0, none⟩ = some (.int .i64 x.kind) ∧ w.cell? ⟨b, 1, none⟩ = some (.string ⟨x.cls.toArray⟩) ∧ w.cell? ⟨b, 2, none⟩ = some (.string ⟨x.name.toArray⟩) ∧ w.cell? ⟨b, 3, none⟩ = some (.int .i64 x.weight) ∧ w.cell? ⟨b, 4, none⟩ = some (.int .i64 x.level) ∧ w.cell? ⟨b, 5, none⟩ = some (.bool x.stairs) ∧ w.cell? ⟨b, 6, none⟩ = some (.int .i64 x.scale) ∧ w.cell? ⟨b, 7, none⟩ = some (.int .i64 x.hour) ∧ w.cell? ⟨b, 8, none⟩ = some (.int .i64 x.reader) := by
  have h' : w.heap[b]? = _ := h
  refine ⟨?_, ?_, ?_, ?_, ?_, ?_, ?_, ?_, ?_⟩ <;> simp [World.cell?, h', Ev_row]
theorem EvB.free {w : World} {b : Nat} {x : En} (h : EvB w b x) : w.frozen? ⟨b, 0, none⟩ = false ∧ w.frozen? ⟨b, 1, none⟩ = false ∧ w.frozen? ⟨b, 2, none⟩ = false ∧ w.frozen? ⟨b, 3, none⟩ = false ∧ w.frozen? ⟨b, 4, none⟩ = false ∧ w.frozen? ⟨b, 5, none⟩ = false ∧ w.frozen? ⟨b, 6, none⟩ = false ∧ w.frozen? ⟨b, 7, none⟩ = false ∧ w.frozen? ⟨b, 8, none⟩ = false := by
  have h' : w.heap[b]? = _ := h
  refine ⟨?_, ?_, ?_, ?_, ?_, ?_, ?_, ?_, ?_⟩ <;> simp [World.frozen?, h']
theorem EvZ.lt {w : World} {b : Nat} (h : EvZ w b) : b < w.heap.size := (Array.getElem?_eq_some_iff.1 h).1
theorem EvZ.ext {w w' : World} {b : Nat} (h : EvZ w b) (hE : Ext w w') : EvZ w' b := (hE.below.block b h.lt).trans h
theorem EvZ.own {w w' : World} {b : Nat} {r : Option Nat} (h : EvZ w b) (hg : w.grownBy w' r) (hb : some b ≠ r) : EvZ w' b := (hg.block b h.lt hb).trans h
theorem EvZ.new (w : World) : EvZ (w.alloc (.cells Ev_zero 31)) w.heap.size := Go.heap_alloc_new _ _
theorem EvZ.cells {w : World} {b : Nat} (h : EvZ w b) : w.cell? ⟨b, 0, none⟩ = some (.int .i64 0) ∧ w.cell? ⟨b, 1, none⟩ = some (.string ⟨#[]⟩) ∧ w.cell? ⟨b, 2, none⟩ = some (.string ⟨#[]⟩) ∧ w.cell? ⟨b, 3, none⟩ = some (.int .i64 0) ∧ w.cell? ⟨b, 4, none⟩ = some (.int .i64 0) ∧ w.cell? ⟨b, 5, none⟩ = some (.bool false) ∧ w.cell? ⟨b, 6, none⟩ = some (.int .i64 0) ∧ w.cell? ⟨b, 7, none⟩ = some (.int .i64 0) ∧ w.cell? ⟨b, 8, none⟩ = some (.int .i64 0) := by
  have h' : w.heap[b]? = _ := h
  refine ⟨?_, ?_, ?_, ?_, ?_, ?_, ?_, ?_, ?_⟩ <;> simp [World.cell?, h', Ev_zero]
theorem EvZ.free {w : World} {b : Nat} (h : EvZ w b) : w.frozen? ⟨b, 0, none⟩ = false ∧ w.frozen? ⟨b, 1, none⟩ = false ∧ w.frozen? ⟨b, 2, none⟩ = false ∧ w.frozen? ⟨b, 3, none⟩ = false ∧ w.frozen? ⟨b, 4, none⟩ = false ∧ w.frozen? ⟨b, 5, none⟩ = false ∧ w.frozen? ⟨b, 6, none⟩ = false ∧ w.frozen? ⟨b, 7, none⟩ = false ∧ w.frozen? ⟨b, 8, none⟩ = false := by
  have h' : w.heap[b]? = _ := h
  refine ⟨?_, ?_, ?_, ?_, ?_, ?_, ?_, ?_, ?_⟩ <;> simp [World.frozen?, h']
def setEv (w : World) (b : Nat) (x : En) : World := ((((((((w.setCell ⟨b, 0, none⟩ (.int .i64 x.kind)).setCell ⟨b, 1, none⟩ (.string ⟨x.cls.toArray⟩)).setCell ⟨b, 2, none⟩ (.string ⟨x.name.toArray⟩)).setCell ⟨b, 3, none⟩ (.int .i64 x.weight)).setCell ⟨b, 4, none⟩ (.int .i64 x.level)).setCell ⟨b, 5, none⟩ (.bool x.stairs)).setCell ⟨b, 6, none⟩ (.int .i64 x.scale)).setCell ⟨b, 7, none⟩ (.int .i64 x.hour)).setCell ⟨b, 8, none⟩ (.int .i64 x.reader)
theorem setEv_in {w : World} {b : Nat} {y : En} (h : EvB w b y) (x : En) : EvB (setEv w b x) b x := by
  have h' : w.heap[b]? = some (.cells (Ev_row y) 31 (0, 0)) := h
  simp [EvB, setEv, World.setCell, Array.getElem?_modify, h', Ev_row]
theorem setEv_z {w : World} {b : Nat} (h : EvZ w b) (x : En) : EvB (setEv w b x) b x := by
  have h' : w.heap[b]? = some (.cells Ev_zero 31 (0, 0)) := h
  simp [EvB, setEv, World.setCell, Array.getElem?_modify, h', Ev_row, Ev_zero]
theorem setEv_grown (w : World) (b : Nat) (x : En) : w.grownBy (setEv w b x) (some b) := grown_trans (grown_trans (grown_trans (grown_trans (grown_trans (grown_trans (grown_trans (grown_trans (grown_set _ _ _ _) (grown_set _ _ _ _)) (grown_set _ _ _ _)) (grown_set _ _ _ _)) (grown_set _ _ _ _)) (grown_set _ _ _ _)) (grown_set _ _ _ _)) (grown_set _ _ _ _)) (grown_set _ _ _ _)
theorem resEv {fn : Func} {t : Tmp} (hr : fn.results = #[.cell t 31]) {w : World} {b : Nat} {x : En} (h : EvB w b x) (tmps : Array Value) (ht : tmps.getD t undef = .pointer (some ⟨b, 0, none⟩)) :
    (results fn tmps).run Tryz.prog w = .ok (.agg (Ev_row x)) w := by
  obtain ⟨p0, p1, p2, p3, p4, p5, p6, p7, p8⟩ := h.cells
  clear h
  rw [Array.getD_eq_getD_getElem?] at ht
  simp only [results, hr]
  unfold Ev_row
  go_simp
theorem finEvZ {fn : Func} {t : Tmp} (hr : fn.results = #[.cell t 31]) {blk : Nat} {wr : World} {Q : Ending → World → Prop} (x : En) (hz : EvZ wr blk) {tmps : Array Value} (ht : tmps.getD t undef = .pointer (some ⟨blk, 0, none⟩))
    (hQ : Q (.returned (.agg (Ev_row x))) (setEv wr blk x)) : bodyPost Tryz.prog fn Q Exit.ret ⟨tmps, []⟩ (setEv wr blk x) :=
  bodyPost_ret (resEv hr (setEv_z hz x) tmps ht) rfl hQ
theorem finEvB {fn : Func} {t : Tmp} (hr : fn.results = #[.cell t 31]) {blk : Nat} {wr : World} {Q : Ending → World → Prop} {y : En} (x : En) (hz : EvB wr blk y) {tmps : Array Value} (ht : tmps.getD t undef = .pointer (some ⟨blk, 0, none⟩))
    (hQ : Q (.returned (.agg (Ev_row x))) (setEv wr blk x)) : bodyPost Tryz.prog fn Q Exit.ret ⟨tmps, []⟩ (setEv wr blk x) :=
  bodyPost_ret (resEv hr (setEv_in hz x) tmps ht) rfl hQ

def En.raw (x : En) : Prop := InI x.kind ∧ x.cls.length < 9223372036854775808 ∧ x.name.length < 9223372036854775808 ∧ InI x.weight ∧ InI x.level ∧ InI x.scale ∧ InI x.hour ∧ InI x.reader
def En.cut (x : En) (k : Nat) : En := { x with cls := x.cls.take k, name := x.name.take k }
theorem EvB.set1 {w : World} {b : Nat} {x : En} (h : EvB w b x) (s : List UInt8) : EvB (w.setCell ⟨b, 1, none⟩ (.string ⟨s.toArray⟩)) b { x with cls := s } := by
  have h' : w.heap[b]? = some (.cells (Ev_row x) 31 (0, 0)) := h
  simp [EvB, World.setCell, Array.getElem?_modify, h', Ev_row]
theorem EvB.set2 {w : World} {b : Nat} {x : En} (h : EvB w b x) (s : List UInt8) : EvB (w.setCell ⟨b, 2, none⟩ (.string ⟨s.toArray⟩)) b { x with name := s } := by
  have h' : w.heap[b]? = some (.cells (Ev_row x) 31 (0, 0)) := h
  simp [EvB, World.setCell, Array.getElem?_modify, h', Ev_row]
/- the class may have been cut already -/
def En.cutC (x : En) : En := { x with cls := x.cls.take 30 }
theorem En.cutC2 (x : En) : x.cutC.cutC = x.cutC := by unfold En.cutC; simp [List.take_take]
def EvS (b : Nat) (x : En) (W W' : World) : Prop := W.grownBy W' (some b) ∧ (EvB W b x ∨ EvB W b x.cutC → EvB W' b x ∨ EvB W' b x.cutC) ∧ (EvB W b x.cutC → EvB W' b x.cutC)
theorem EvS.refl (b : Nat) (x : En) (W : World) : EvS b x W W := ⟨grown_of (Ext.refl W) _, fun h => h, fun h => h⟩
theorem EvS.trans {b : Nat} {x : En} {U V W : World} (h : EvS b x U V) (k : EvS b x V W) : EvS b x U W := ⟨grown_trans h.1 k.1, fun y => k.2.1 (h.2.1 y), fun y => k.2.2 (h.2.2 y)⟩
theorem EvS.put {b : Nat} {x : En} (W : World) : EvS b x W (W.setCell ⟨b, 1, none⟩ (.string ⟨(x.cls.take 30).toArray⟩)) := by
  have key : EvB W b x ∨ EvB W b x.cutC → EvB (W.setCell ⟨b, 1, none⟩ (.string ⟨(x.cls.take 30).toArray⟩)) b x.cutC := by
    rintro (h | h)
    · exact h.set1 (x.cls.take 30)
    · exact h.set1 (x.cls.take 30)
  exact ⟨grown_set _ _ _ _, fun h => .inr (key h), fun h => key (.inr h)⟩
def clsP (b : Nat) (x : En) (m : Nat) (C : ByteArray) : SPr (EvS b x) := ⟨fun v _ => ∃ S : ByteArray, v = .string S ∧ S.size < 9223372036854775808 ∧ min S.size 30 = m ∧ S.extract 0 m = C, fun h _ => h⟩
def lenP (b : Nat) (x : En) (m : Nat) : SPr (EvS b x) := ⟨fun v _ => ∃ n : Nat, v = .int .i64 (n : Int) ∧ min n 30 = m, fun h _ => h⟩
def cutP (b : Nat) (x : En) : SPr (EvS b x) := ⟨fun _ W => EvB W b x.cutC, fun h hE => hE.2.2 h⟩
theorem cls_cells {w : World} {b : Nat} {x : En} (h : EvB w b x ∨ EvB w b x.cutC) : (w.cell? ⟨b, 1, none⟩ = some (.string ⟨x.cls.toArray⟩) ∨ w.cell? ⟨b, 1, none⟩ = some (.string ⟨(x.cls.take 30).toArray⟩)) ∧ w.cell? ⟨b, 2, none⟩ = some (.string ⟨x.name.toArray⟩) := by
  rcases h with h | h
  · exact ⟨.inl h.cells.2.1, h.cells.2.2.1⟩
  · exact ⟨.inr h.cells.2.1, h.cells.2.2.1⟩
theorem cls_free {w : World} {b : Nat} {x : En} (h : EvB w b x ∨ EvB w b x.cutC) : w.frozen? ⟨b, 1, none⟩ = false ∧ w.frozen? ⟨b, 2, none⟩ = false := by
  rcases h with h | h <;> exact ⟨h.free.2.1, h.free.2.2.1⟩
set_option maxRecDepth 100000 in
theorem lawEnv_any (x : En) (hx : x.raw) (w : World) : Calls Tryz.prog 11 #[x.v] w fun e w' => e = .returned (x.cut 30).v ∧ Ext w w' := by
  have h2 := take_cut x.name 30
  have hs1 := toArr_size x.cls
  have hs2 := toArr_size x.name
  have hx1 := hx.2.1
  have hx2 := hx.2.2.1
  obtain ⟨m, hm⟩ : ∃ m, min x.cls.length 30 = m := ⟨_, rfl⟩
  obtain ⟨C, hC⟩ : ∃ C : ByteArray, (⟨(x.cls.take 30).toArray⟩ : ByteArray) = C := ⟨_, rfl⟩
  have hcl : ∀ S : ByteArray, S = ⟨x.cls.toArray⟩ ∨ S = ⟨(x.cls.take 30).toArray⟩ → S.size < 9223372036854775808 ∧ min S.size 30 = m ∧ S.extract 0 m = C := by
    rintro S (rfl | rfl)
    · have h1 := take_cut x.cls 30
      rw [hs1] at h1 ⊢
      rw [hm] at h1
      exact ⟨by omega, hm, by rw [h1, hC]⟩
    · have h1 := take_cut (x.cls.take 30) 30
      have h3 := toArr_size (x.cls.take 30)
      rw [h3] at h1 ⊢
      have h4 : min (x.cls.take 30).length 30 = m := by rw [List.length_take]; omega
      rw [h4, List.take_take] at h1
      refine ⟨by rw [List.length_take]; omega, h4, by rw [h1, ← hC]; rfl⟩
  obtain ⟨w0, hw0⟩ : ∃ w0, w.alloc (.cells (Ev_row x) 31) = w0 := ⟨_, rfl⟩
  have hB0 := EvB.new w x
  rw [hw0] at hB0
  have hE0 : Ext w w0 := by rw [← hw0]; exact Ext.alloc _ _
  have hs0 : w0.heap.size = w.heap.size + 1 := by rw [← hw0]; simp
  obtain ⟨w1, hw1⟩ : ∃ w1, w0.alloc (.cells Ev_zero 31) = w1 := ⟨_, rfl⟩
  have hZ1 := EvZ.new w0
  have hE1 : Ext w0 w1 := by rw [← hw1]; exact Ext.alloc _ _
  rw [hw1, hs0] at hZ1
  have hB1 := hB0.ext hE1
  have hs1' : w1.heap.size = w.heap.size + 2 := by rw [← hw1]; simp; omega
  unfold Ev_row at hw0
  unfold Ev_zero at hw1
  have HW0 := Lib.hid hw0
  have HW1 := Lib.hid hw1
  have HCL := Lib.hid hcl
  have HC := Lib.hid hC
  obtain ⟨sn, hsn⟩ : ∃ v : ByteArray, (⟨x.name.toArray⟩ : ByteArray) = v := ⟨_, rfl⟩
  have hb2 : sn.size < 9223372036854775808 := by rw [← hsn, hs2]; omega
  have HN := Lib.hid hsn
  rw [hsn] at h2
  have H2 := Lib.hid h2
  have hE01 := hE0.trans hE1
  unfold En.v
  clear hw0 hw1 hs1 hs2 hx hB0 hs0 hcl hC hsn h2 hE0 hE1
  go_enter Tryz.func11, Tryz.ntmps11
  go_upto_region 1 with fail
  rw [HW0.out, HW1.out]
  have CW := Lib.hid (fun (W : World) (hE : EvS w.heap.size x w1.drew W) => hE.2.1 (.inl (hB1.ext (Ext.drew _))))
  apply wp_region_rel (E := EvS w.heap.size x) (EvS.refl w.heap.size x) (@EvS.trans w.heap.size x) (l := [_, _, _, _, _, _, _, _, _, _, _, _, _, _, _, _, _]) (t := [_]) [some 3, some 4, some 5, some 6, some 7, some 8, some 9, some 10, some 11, some 12, some 13, some 14, some 15, some 16, some 17, none, some 18, none] [[], [0], [], [2], [3], [4], [1, 5], [], [7], [], [9], [10], [11], [8, 12], [], [6, 14], [], [13, 16]] [17, 17, 17, 17, 17, 17, 17, 17, 17, 17, 17, 17, 17, 17, 17, 17, 17] [eqr _, (clsP w.heap.size x m C), eqr _, (clsP w.heap.size x m C), (lenP w.heap.size x m), (eqr (.int .i64 (m : Nat))), (eqr (.string C)), eqr _, eqr _, eqr _, eqr _, eqr _, eqr _, (eqr (.string ⟨(x.name.take 30).toArray⟩)), eqr _, (cutP w.heap.size x), eqr _] (by kernel_rfl) (by kernel_rfl) ⟨?o0, ?o1, ?o2, ?o3, ?o4, ?o5, ?o6, ?o7, ?o8, ?o9, ?o10, ?o11, ?o12, ?o13, ?o14, ?o15, ?o16, trivial⟩ ?last
  case o0 => -- Op.fieldAddr 31 (Operand.tmp 1) 1
    intro xv W hE _
    simp only [putD, List.foldl_nil, List.getD_cons_zero]
    refine OpGoal.plain ?_
    go_wp2_with fail
    exact ⟨rfl, (EvS.refl w.heap.size x) _, rfl⟩
  case o1 => -- Op.load 9 (Operand.tmp 3)
    intro xv W hE hp
    have r0 : xv 0 = _ := hp.1
    clear hp
    obtain ⟨hc1, hc2⟩ := cls_cells (CW.out W hE)
    rw [HN.out] at hc2
    obtain ⟨Sx, hSx, hS1⟩ : ∃ S : ByteArray, W.cell? ⟨w.heap.size, 1, none⟩ = some (.string S) ∧ (S = ⟨x.cls.toArray⟩ ∨ S = ⟨(x.cls.take 30).toArray⟩) := by rcases hc1 with h | h; exact ⟨_, h, .inl rfl⟩; exact ⟨_, h, .inr rfl⟩
    have HSx := Lib.hid (HCL.out Sx hS1)
    clear hc1 hS1
    simp only [putD, List.foldl_nil, List.foldl_cons, List.getD_cons_zero, List.getD_cons_succ, Act.put, List.setIfInBounds_toArray, List.set_cons_zero, List.set_cons_succ]
    refine OpGoal.plain ?_
    go_wp2_with fail
    exact ⟨rfl, EvS.refl _ _ _, Sx, rfl, HSx.out⟩
  case o2 => -- Op.fieldAddr 31 (Operand.tmp 1) 1
    intro xv W hE _
    simp only [putD, List.foldl_nil, List.getD_cons_zero, List.getD_cons_succ]
    refine OpGoal.plain ?_
    go_wp2_with fail
    exact ⟨rfl, (EvS.refl w.heap.size x) _, rfl⟩
  case o3 => -- Op.load 9 (Operand.tmp 5)
    intro xv W hE hp
    have r2 : xv 2 = _ := hp.1
    clear hp
    obtain ⟨hc1, hc2⟩ := cls_cells (CW.out W hE)
    rw [HN.out] at hc2
    obtain ⟨Sx, hSx, hS1⟩ : ∃ S : ByteArray, W.cell? ⟨w.heap.size, 1, none⟩ = some (.string S) ∧ (S = ⟨x.cls.toArray⟩ ∨ S = ⟨(x.cls.take 30).toArray⟩) := by rcases hc1 with h | h; exact ⟨_, h, .inl rfl⟩; exact ⟨_, h, .inr rfl⟩
    have HSx := Lib.hid (HCL.out Sx hS1)
    clear hc1 hS1
    simp only [putD, List.foldl_nil, List.foldl_cons, List.getD_cons_zero, List.getD_cons_succ, Act.put, List.setIfInBounds_toArray, List.set_cons_zero, List.set_cons_succ]
    refine OpGoal.plain ?_
    go_wp2_with fail
    exact ⟨rfl, EvS.refl _ _ _, Sx, rfl, HSx.out⟩
  case o4 => -- Op.call { callee := Callee.builtin Builtin.len, args := #[Operand.tmp 6], argTyp
    intro xv W hE hp
    obtain ⟨S3, r3, s3a, s3b, s3c⟩ := hp.1
    clear hp
    simp only [putD, List.foldl_nil, List.foldl_cons, List.getD_cons_zero, List.getD_cons_succ, Act.put, List.setIfInBounds_toArray, List.set_cons_zero, List.set_cons_succ]
    refine OpGoal.plain ?_
    go_wp2_with fail
    exact ⟨rfl, EvS.refl _ _ _, S3.size, rfl, s3b⟩
  case o5 => -- Op.call { callee := Callee.builtin Builtin.min, args := #[Operand.tmp 7, Operand
    intro xv W hE hp
    obtain ⟨n4, r4, n4a⟩ := hp.1
    clear hp
    simp only [putD, List.foldl_nil, List.foldl_cons, List.getD_cons_zero, List.getD_cons_succ, Act.put, List.setIfInBounds_toArray, List.set_cons_zero, List.set_cons_succ]
    refine OpGoal.plain ?_
    go_wp2_with fail
    refine ⟨rfl, EvS.refl _ _ _, ?_⟩
    show Value.int .i64 (min (n4 : Int) 30) = .int .i64 (m : Nat)
    congr 1
    omega
  case o6 => -- Op.slice 9 (Operand.tmp 4) none (some (Operand.tmp 8)) none
    intro xv W hE hp
    obtain ⟨S1, r1, s1a, s1b, s1c⟩ := hp.1
    have r5 : xv 5 = _ := hp.2.1
    clear hp
    simp only [putD, List.foldl_nil, List.foldl_cons, List.getD_cons_zero, List.getD_cons_succ, Act.put, List.setIfInBounds_toArray, List.set_cons_zero, List.set_cons_succ]
    refine OpGoal.plain ?_
    go_wp2_with fail
    refine ⟨rfl, EvS.refl _ _ _, ?_⟩
    rfl
  case o7 => -- Op.fieldAddr 31 (Operand.tmp 1) 2
    intro xv W hE _
    simp only [putD, List.foldl_nil, List.getD_cons_zero, List.getD_cons_succ]
    refine OpGoal.plain ?_
    go_wp2_with fail
    exact ⟨rfl, (EvS.refl w.heap.size x) _, rfl⟩
  case o8 => -- Op.load 9 (Operand.tmp 10)
    intro xv W hE hp
    have r7 : xv 7 = _ := hp.1
    clear hp
    obtain ⟨hc1, hc2⟩ := cls_cells (CW.out W hE)
    rw [HN.out] at hc2
    obtain ⟨Sx, hSx, hS1⟩ : ∃ S : ByteArray, W.cell? ⟨w.heap.size, 1, none⟩ = some (.string S) ∧ (S = ⟨x.cls.toArray⟩ ∨ S = ⟨(x.cls.take 30).toArray⟩) := by rcases hc1 with h | h; exact ⟨_, h, .inl rfl⟩; exact ⟨_, h, .inr rfl⟩
    have HSx := Lib.hid (HCL.out Sx hS1)
    clear hc1 hS1
    simp only [putD, List.foldl_nil, List.foldl_cons, List.getD_cons_zero, List.getD_cons_succ, Act.put, List.setIfInBounds_toArray, List.set_cons_zero, List.set_cons_succ]
    refine OpGoal.plain ?_
    go_wp2_with fail
    exact ⟨rfl, (EvS.refl w.heap.size x) _, rfl⟩
  case o9 => -- Op.fieldAddr 31 (Operand.tmp 1) 2
    intro xv W hE _
    simp only [putD, List.foldl_nil, List.getD_cons_zero, List.getD_cons_succ]
    refine OpGoal.plain ?_
    go_wp2_with fail
    exact ⟨rfl, (EvS.refl w.heap.size x) _, rfl⟩
  case o10 => -- Op.load 9 (Operand.tmp 12)
    intro xv W hE hp
    have r9 : xv 9 = _ := hp.1
    clear hp
    obtain ⟨hc1, hc2⟩ := cls_cells (CW.out W hE)
    rw [HN.out] at hc2
    obtain ⟨Sx, hSx, hS1⟩ : ∃ S : ByteArray, W.cell? ⟨w.heap.size, 1, none⟩ = some (.string S) ∧ (S = ⟨x.cls.toArray⟩ ∨ S = ⟨(x.cls.take 30).toArray⟩) := by rcases hc1 with h | h; exact ⟨_, h, .inl rfl⟩; exact ⟨_, h, .inr rfl⟩
    have HSx := Lib.hid (HCL.out Sx hS1)
    clear hc1 hS1
    simp only [putD, List.foldl_nil, List.foldl_cons, List.getD_cons_zero, List.getD_cons_succ, Act.put, List.setIfInBounds_toArray, List.set_cons_zero, List.set_cons_succ]
    refine OpGoal.plain ?_
    go_wp2_with fail
    exact ⟨rfl, (EvS.refl w.heap.size x) _, rfl⟩
  case o11 => -- Op.call { callee := Callee.builtin Builtin.len, args := #[Operand.tmp 13], argTy
    intro xv W hE hp
    have r10 : xv 10 = _ := hp.1
    clear hp
    simp only [putD, List.foldl_nil, List.foldl_cons, List.getD_cons_zero, List.getD_cons_succ, Act.put, List.setIfInBounds_toArray, List.set_cons_zero, List.set_cons_succ]
    refine OpGoal.plain ?_
    go_wp2_with fail
    exact ⟨rfl, (EvS.refl w.heap.size x) _, rfl⟩
  case o12 => -- Op.call { callee := Callee.builtin Builtin.min, args := #[Operand.tmp 14, Operan
    intro xv W hE hp
    have r11 : xv 11 = _ := hp.1
    clear hp
    simp only [putD, List.foldl_nil, List.foldl_cons, List.getD_cons_zero, List.getD_cons_succ, Act.put, List.setIfInBounds_toArray, List.set_cons_zero, List.set_cons_succ]
    refine OpGoal.plain ?_
    go_wp2_with fail
    exact ⟨rfl, (EvS.refl w.heap.size x) _, rfl⟩
  case o13 => -- Op.slice 9 (Operand.tmp 11) none (some (Operand.tmp 15)) none
    intro xv W hE hp
    have r8 : xv 8 = _ := hp.1
    have r12 : xv 12 = _ := hp.2.1
    clear hp
    simp only [putD, List.foldl_nil, List.foldl_cons, List.getD_cons_zero, List.getD_cons_succ, Act.put, List.setIfInBounds_toArray, List.set_cons_zero, List.set_cons_succ]
    refine OpGoal.plain ?_
    go_wp2_with fail
    refine ⟨rfl, EvS.refl _ _ _, ?_⟩
    show Value.string (sn.extract 0 (min (sn.size : Int) 30).toNat) = .string ⟨(x.name.take 30).toArray⟩
    rw [show (min (sn.size : Int) 30).toNat = min sn.size 30 by omega, H2.out]
  case o14 => -- Op.fieldAddr 31 (Operand.tmp 1) 1
    intro xv W hE _
    simp only [putD, List.foldl_nil, List.getD_cons_zero, List.getD_cons_succ]
    refine OpGoal.plain ?_
    go_wp2_with fail
    exact ⟨rfl, (EvS.refl w.heap.size x) _, rfl⟩
  case o15 => -- Op.store 9 (Operand.tmp 17) (Operand.tmp 9)
    intro xv W hE hp
    have r6 : xv 6 = _ := hp.1
    have r14 : xv 14 = _ := hp.2.1
    clear hp
    obtain ⟨hc1, hc2⟩ := cls_cells (CW.out W hE)
    obtain ⟨Sx, hSx⟩ : ∃ S : ByteArray, W.cell? ⟨w.heap.size, 1, none⟩ = some (.string S) := by rcases hc1 with h | h; exact ⟨_, h⟩; exact ⟨_, h⟩
    clear hc1 hc2
    obtain ⟨hf1, hf2⟩ := cls_free (CW.out W hE)
    simp only [putD, List.foldl_nil, List.foldl_cons, List.getD_cons_zero, List.getD_cons_succ, Act.put, List.setIfInBounds_toArray, List.set_cons_zero, List.set_cons_succ]
    refine OpGoal.plain ?_
    go_wp2_with fail
    have hp := EvS.put (b := w.heap.size) (x := x) W
    rw [HC.out] at hp
    exact ⟨rfl, fun v => ⟨hp, by
      have h1 := hp.2.1 (CW.out W hE)
      rcases CW.out W hE with h | h
      · have := h.set1 (x.cls.take 30)
        rw [HC.out] at this
        exact this
      · exact hp.2.2 h⟩⟩
  case o16 => -- Op.fieldAddr 31 (Operand.tmp 1) 2
    intro xv W hE _
    simp only [putD, List.foldl_nil, List.getD_cons_zero, List.getD_cons_succ]
    refine OpGoal.plain ?_
    go_wp2_with fail
    exact ⟨rfl, (EvS.refl w.heap.size x) _, rfl⟩
  case last =>
    intro xv W hE hp
    have r0 : xv 0 = _ := hp.1
    obtain ⟨S1, r1, s1a, s1b, s1c⟩ := hp.2.1
    have r2 : xv 2 = _ := hp.2.2.1
    obtain ⟨S3, r3, s3a, s3b, s3c⟩ := hp.2.2.2.1
    obtain ⟨n4, r4, n4a⟩ := hp.2.2.2.2.1
    have r5 : xv 5 = _ := hp.2.2.2.2.2.1
    have r6 : xv 6 = _ := hp.2.2.2.2.2.2.1
    have r7 : xv 7 = _ := hp.2.2.2.2.2.2.2.1
    have r8 : xv 8 = _ := hp.2.2.2.2.2.2.2.2.1
    have r9 : xv 9 = _ := hp.2.2.2.2.2.2.2.2.2.1
    have r10 : xv 10 = _ := hp.2.2.2.2.2.2.2.2.2.2.1
    have r11 : xv 11 = _ := hp.2.2.2.2.2.2.2.2.2.2.2.1
    have r12 : xv 12 = _ := hp.2.2.2.2.2.2.2.2.2.2.2.2.1
    have r13 : xv 13 = _ := hp.2.2.2.2.2.2.2.2.2.2.2.2.2.1
    have r14 : xv 14 = _ := hp.2.2.2.2.2.2.2.2.2.2.2.2.2.2.1
    have r15 := hp.2.2.2.2.2.2.2.2.2.2.2.2.2.2.2.1
    have r16 : xv 16 = _ := hp.2.2.2.2.2.2.2.2.2.2.2.2.2.2.2.2.1
    clear hp
    simp only [putD, List.foldl_nil, List.foldl_cons, List.getD_cons_zero, List.getD_cons_succ, Act.put, List.length_cons, List.length_nil, List.range_succ, List.range_zero, List.nil_append, List.cons_append, List.setIfInBounds_toArray, List.set_cons_zero, List.set_cons_succ]
    have hB2 : EvB W w.heap.size x.cutC := r15
    have hr13 : xv 13 = .string ⟨(x.name.take 30).toArray⟩ := r13
    have hr16 : xv 16 = .pointer (some ⟨w.heap.size, 2, none⟩) := r16
    rw [hr13, hr16]
    have hB3 := hB2.set2 (x.name.take 30)
    have hG := grown_trans hE.1 (grown_set W w.heap.size 2 (.string ⟨(x.name.take 30).toArray⟩))
    have hZ3 := (hZ1.ext (Ext.drew w1)).own hG (by simp)
    have hE3 : Ext w (W.setCell ⟨w.heap.size, 2, none⟩ (.string ⟨(x.name.take 30).toArray⟩)) := Below.trans (hE01.trans (Ext.drew w1)) (below_row' hG (by have := hE01.sz; simpa using this) (fun g e => by simp only [Option.some.injEq] at e; omega))
    obtain ⟨_, q1, q2, _⟩ := hB2.cells
    obtain ⟨_, f1, f2, _⟩ := hB2.free
    have HB3 := Lib.hid hB3
    have HZ3 := Lib.hid hZ3
    have HE3 := Lib.hid hE3
    clear r0 r1 r2 r3 r4 r5 r6 r7 r8 r9 r10 r11 r12 r13 r14 r15 r16 hr13 hr16 hB2 hB3 hG hZ3 hE3 hE CW
    go_upto_region 2 with fail
    have hB3 := HB3.out
    have hZ3 := HZ3.out
    have hE3 := HE3.out
    generalize W.setCell ⟨w.heap.size, 2, none⟩ (.string ⟨(x.name.take 30).toArray⟩) = w3 at hB3 hZ3 hE3 ⊢
    clear HB3 HZ3 HE3 q1 q2 f1 f2
    obtain ⟨p0, p1, p2, p3, p4, p5, p6, p7, p8⟩ := hB3.cells
    obtain ⟨u0, u1, u2, u3, u4, u5, u6, u7, u8⟩ := hZ3.cells
    obtain ⟨f0, f1, f2, f3, f4, f5, f6, f7, f8⟩ := hZ3.free
    have hGf := setEv_grown w3 (w.heap.size + 1) (x.cut 30)
    have hEf : Ext w (setEv w3 (w.heap.size + 1) (x.cut 30)) := Below.trans hE3 (below_row' hGf hE3.sz (fun g e => by simp only [Option.some.injEq] at e; omega))
    have HEf := Lib.hid hEf
    clear hGf hEf
    go_wp2_with fail
    exact finEvZ rfl (x.cut 30) hZ3 rfl ⟨rfl, HEf.out⟩
end Go.Proofs.YtggkkjnfonbpkaaGreatDoor
