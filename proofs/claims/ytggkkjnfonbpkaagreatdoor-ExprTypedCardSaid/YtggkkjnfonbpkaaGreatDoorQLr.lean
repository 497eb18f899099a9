/- New rows of one to three expressions (printed by gen_lj.py). -/
import Derived.Test.YtggkkjnfonbpkaaGreatDoorQGh

set_option linter.unusedSimpArgs false
set_option linter.unusedVariables false
namespace Go.Proofs.YtggkkjnfonbpkaaGreatDoor
open Go.RowKit Hach

theorem row1' (W : World) (x0 : Ex) (A0 : Option Addr) (c0 d0 : Nat) (h0 : ExB W W.heap.size d0 A0 x0.l) : ExB (W.alloc (.cells #[.int .i64 x0.op, .int .i64 x0.var, .int .i64 x0.ty, .int .i64 x0.n, .bool x0.b, .string ⟨x0.s.toArray⟩, .slice A0 x0.l.length c0] 29)) (W.alloc (.cells #[.int .i64 x0.op, .int .i64 x0.var, .int .i64 x0.ty, .int .i64 x0.n, .bool x0.b, .string ⟨x0.s.toArray⟩, .slice A0 x0.l.length c0] 29)).heap.size (d0 + 1) (some ⟨W.heap.size, 0, none⟩) [x0] := by
  have hE := Ext.alloc W (.cells #[.int .i64 x0.op, .int .i64 x0.var, .int .i64 x0.ty, .int .i64 x0.n, .bool x0.b, .string ⟨x0.s.toArray⟩, .slice A0 x0.l.length c0] 29)
  refine ExL.row (us := [⟨x0, A0, c0⟩]) (by simp) (fun u hu => ?_) (fun i v hi => ?_)
  · simp only [List.mem_cons, List.not_mem_nil, or_false] at hu
    rcases hu with rfl
    · exact (ExL.ext h0 hE).deep (by omega)
  · rw [World.cell?_alloc_new]
    simpa [Nd.cells, Ex.cells] using hi
theorem row2' (W : World) (x0 : Ex) (A0 : Option Addr) (c0 d0 : Nat) (x1 : Ex) (A1 : Option Addr) (c1 d1 : Nat) (h0 : ExB W W.heap.size d0 A0 x0.l) (h1 : ExB W W.heap.size d1 A1 x1.l) : ExB (W.alloc (.cells #[.int .i64 x0.op, .int .i64 x0.var, .int .i64 x0.ty, .int .i64 x0.n, .bool x0.b, .string ⟨x0.s.toArray⟩, .slice A0 x0.l.length c0, .int .i64 x1.op, .int .i64 x1.var, .int .i64 x1.ty, .int .i64 x1.n, .bool x1.b, .string ⟨x1.s.toArray⟩, .slice A1 x1.l.length c1] 29)) (W.alloc (.cells #[.int .i64 x0.op, .int .i64 x0.var, .int .i64 x0.ty, .int .i64 x0.n, .bool x0.b, .string ⟨x0.s.toArray⟩, .slice A0 x0.l.length c0, .int .i64 x1.op, .int .i64 x1.var, .int .i64 x1.ty, .int .i64 x1.n, .bool x1.b, .string ⟨x1.s.toArray⟩, .slice A1 x1.l.length c1] 29)).heap.size (d0 + d1 + 1) (some ⟨W.heap.size, 0, none⟩) [x0, x1] := by
  have hE := Ext.alloc W (.cells #[.int .i64 x0.op, .int .i64 x0.var, .int .i64 x0.ty, .int .i64 x0.n, .bool x0.b, .string ⟨x0.s.toArray⟩, .slice A0 x0.l.length c0, .int .i64 x1.op, .int .i64 x1.var, .int .i64 x1.ty, .int .i64 x1.n, .bool x1.b, .string ⟨x1.s.toArray⟩, .slice A1 x1.l.length c1] 29)
  refine ExL.row (us := [⟨x0, A0, c0⟩, ⟨x1, A1, c1⟩]) (by simp) (fun u hu => ?_) (fun i v hi => ?_)
  · simp only [List.mem_cons, List.not_mem_nil, or_false] at hu
    rcases hu with rfl | rfl
    · exact (ExL.ext h0 hE).deep (by omega)
    · exact (ExL.ext h1 hE).deep (by omega)
  · rw [World.cell?_alloc_new]
    simpa [Nd.cells, Ex.cells] using hi
theorem row3' (W : World) (x0 : Ex) (A0 : Option Addr) (c0 d0 : Nat) (x1 : Ex) (A1 : Option Addr) (c1 d1 : Nat) (x2 : Ex) (A2 : Option Addr) (c2 d2 : Nat) (h0 : ExB W W.heap.size d0 A0 x0.l) (h1 : ExB W W.heap.size d1 A1 x1.l) (h2 : ExB W W.heap.size d2 A2 x2.l) : ExB (W.alloc (.cells #[.int .i64 x0.op, .int .i64 x0.var, .int .i64 x0.ty, .int .i64 x0.n, .bool x0.b, .string ⟨x0.s.toArray⟩, .slice A0 x0.l.length c0, .int .i64 x1.op, .int .i64 x1.var, .int .i64 x1.ty, .int .i64 x1.n, .bool x1.b, .string ⟨x1.s.toArray⟩, .slice A1 x1.l.length c1, .int .i64 x2.op, .int .i64 x2.var, .int .i64 x2.ty, .int .i64 x2.n, .bool x2.b, .string ⟨x2.s.toArray⟩, .slice A2 x2.l.length c2] 29)) (W.alloc (.cells #[.int .i64 x0.op, .int .i64 x0.var, .int .i64 x0.ty, .int .i64 x0.n, .bool x0.b, .string ⟨x0.s.toArray⟩, .slice A0 x0.l.length c0, .int .i64 x1.op, .int .i64 x1.var, .int .i64 x1.ty, .int .i64 x1.n, .bool x1.b, .string ⟨x1.s.toArray⟩, .slice A1 x1.l.length c1, .int .i64 x2.op, .int .i64 x2.var, .int .i64 x2.ty, .int .i64 x2.n, .bool x2.b, .string ⟨x2.s.toArray⟩, .slice A2 x2.l.length c2] 29)).heap.size (d0 + d1 + d2 + 1) (some ⟨W.heap.size, 0, none⟩) [x0, x1, x2] := by
  have hE := Ext.alloc W (.cells #[.int .i64 x0.op, .int .i64 x0.var, .int .i64 x0.ty, .int .i64 x0.n, .bool x0.b, .string ⟨x0.s.toArray⟩, .slice A0 x0.l.length c0, .int .i64 x1.op, .int .i64 x1.var, .int .i64 x1.ty, .int .i64 x1.n, .bool x1.b, .string ⟨x1.s.toArray⟩, .slice A1 x1.l.length c1, .int .i64 x2.op, .int .i64 x2.var, .int .i64 x2.ty, .int .i64 x2.n, .bool x2.b, .string ⟨x2.s.toArray⟩, .slice A2 x2.l.length c2] 29)
  refine ExL.row (us := [⟨x0, A0, c0⟩, ⟨x1, A1, c1⟩, ⟨x2, A2, c2⟩]) (by simp) (fun u hu => ?_) (fun i v hi => ?_)
  · simp only [List.mem_cons, List.not_mem_nil, or_false] at hu
    rcases hu with rfl | rfl | rfl
    · exact (ExL.ext h0 hE).deep (by omega)
    · exact (ExL.ext h1 hE).deep (by omega)
    · exact (ExL.ext h2 hE).deep (by omega)
  · rw [World.cell?_alloc_new]
    simpa [Nd.cells, Ex.cells] using hi
end Go.Proofs.YtggkkjnfonbpkaaGreatDoor
