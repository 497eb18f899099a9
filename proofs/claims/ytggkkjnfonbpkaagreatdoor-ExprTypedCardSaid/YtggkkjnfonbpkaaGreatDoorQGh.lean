/- The reader's whole, by the contract of piece; both. -/
import Derived.Test.YtggkkjnfonbpkaaGreatDoorQGg
import Derived.Test.YtggkkjnfonbpkaaGreatDoorQXi
import Derived.LoopN

set_option linter.unusedSimpArgs false
set_option linter.unusedVariables false
namespace Go.Proofs.YtggkkjnfonbpkaaGreatDoor
open Go.RowKit Hach

def GB (b : Nat) (W W' : World) : Prop := W.grownBy W' (some b)
theorem GB.refl {b : Nat} (w : World) : GB b w w := ⟨rfl, rfl, rfl, Nat.le_refl _, fun _ _ _ => rfl⟩
theorem GB.trans {b : Nat} {u v w : World} (h : GB b u v) (k : GB b v w) : GB b u w := grown_trans h k
theorem GB.ext {b : Nat} {w w' : World} (h : Ext w w') : GB b w w' := grown_of h _
def nor : SPr Ext := ⟨fun _ _ => False, fun h _ => h⟩
/- a block that holds some expressions one behind the other -/
theorem ExL.row {w : World} {S : Nat → Prop} {d g : Nat} {us : List Nd} (hS : S g) (hk : Kids w S d us) (hc : ∀ (i : Nat) (v : Value), ((us.map Nd.cells).flatten)[i]? = some v → w.cell? ⟨g, i, none⟩ = some v) : ExL w S (d + 1) (some ⟨g, 0, none⟩) (us.map (·.x)) := by
  intro _
  refine ⟨g, 0, rfl, hS, fun j x hj => ?_⟩
  rw [List.getElem?_map] at hj
  cases hu : us[j]? with
  | none => rw [hu] at hj; cases hj
  | some u =>
    rw [hu] at hj
    simp only [Option.map_some, Option.some.injEq] at hj
    subst hj
    obtain ⟨hjl, rfl⟩ := List.getElem?_eq_some_iff.1 hu
    refine ⟨us[j].A, us[j].c, hk _ (List.getElem_mem hjl), fun i v hi => ?_⟩
    rw [Nat.zero_add]
    have hi7 : i < 7 := (List.getElem?_eq_some_iff.1 hi).1
    exact hc _ v ((nds_at us j hjl i hi7).trans hi)
theorem Kids.deep {w : World} {S : Nat → Prop} {d d' : Nat} {us : List Nd} (hd : d ≤ d') (h : Kids w S d us) : Kids w S d' us := fun u hu => (h u hu).deep hd
/- while the parts of an if are read -/
structure IfS (w W : World) (b gw base d : Nat) (v : Value) (us : List Nd) : Prop where
  own : OwnN W base v us
  kids : Kids W (SO base W v) d us
  grow : w.grownBy W (some b)
  hb : b < w.heap.size
  hblk : w.heap.size < gw
  hgw : gw < base
  hbase : base ≤ W.heap.size
  z : Zero7 W w.heap.size
  row : RowS W gw [tIf, tThen, tElse]
theorem IfS.call {w W W' : World} {b gw base d : Nat} {v : Value} {us : List Nd} (h : IfS w W b gw base d v us) (hg : W.grownBy W' (some b)) : IfS w W' b gw base d v us := by
  have h1 := h.hb
  have h2 := h.hblk
  have h3 := h.hgw
  have h4 := h.hbase
  have h5 := hg.size
  refine ⟨h.own.keep hg ?_, ?_, grown_trans h.grow hg, h1, h2, h3, by omega, h.z.own hg (by simp; omega), ⟨Nat.lt_of_lt_of_le h.row.1 h5, fun j hj => (grown_cell hg h.row.1 (by simp; omega) j).trans (h.row.2 j hj)⟩⟩
  · cases hv : v.ownBlock with
    | none => exact .inl rfl
    | some g => exact .inr fun e => by have := (h.own.lt g hv).1; simp only [Option.some.injEq] at e; omega
  · exact (h.kids.keep fun k hk o => grown_cell hg hk.2.1 (by have := hk.1; simp; omega) o).more fun k hk => ⟨hk.1, by have := hk.2.1; omega, hk.2.2⟩
theorem IfS.app {w W W2 wb : World} {b gw base d d' : Nat} {v v1 : Value} {us : List Nd} {nd : Nd} {o : Obj} (h : IfS w W b gw base d v us) (hg : W.grownBy W2 (some b)) (hX : ExL W2 (fun k => W.heap.size ≤ k ∧ k < W2.heap.size) d' nd.A nd.x.l)
    (hO : OwnN wb base v1 (us ++ [nd])) (hg1 : (W2.alloc o).grownBy wb v.ownBlock) (hn : v1.ownBlock = v.ownBlock ∨ v1.ownBlock = some (W2.alloc o).heap.size) : IfS w wb b gw base (max d d') v1 (us ++ [nd]) := by
  have h2 := h.call hg
  have hE : Ext W2 (W2.alloc o) := Ext.alloc _ _
  have h3 := h2.call (grown_of hE _)
  have hvl : ∀ g, v.ownBlock = some g → base ≤ g ∧ g < W.heap.size := h.own.lt
  have hb := h.hb
  have hblk := h.hblk
  have hgw := h.hgw
  have hbs := h.hbase
  have hz := hg1.size
  have hz3 := h3.hbase
  refine ⟨hO, ?_, ?_, hb, hblk, hgw, by omega, ?_, ?_⟩
  · refine Kids.app (W := W2.alloc o) (lo := W.heap.size) (h3.kids.deep (Nat.le_max_left _ _)) ?_ hbs (fun g e => (hvl g e).2) hg1 hn
    exact (fresh_ext hX hE).deep (Nat.le_max_right _ _)
  · have hg3 := h3.grow
    refine ⟨hg1.os.trans hg3.os, hg1.tape.trans hg3.tape, hg1.output.trans hg3.output, Nat.le_trans hg3.size hg1.size, fun k hk hne => (hg1.block k (Nat.lt_of_lt_of_le hk hg3.size) fun e => ?_).trans (hg3.block k hk hne)⟩
    have := (hvl k e.symm).1
    omega
  · exact h3.z.own hg1 fun e => by have := (hvl _ e.symm).1; omega
  · refine ⟨Nat.lt_of_lt_of_le h3.row.1 hz, fun j hj => (grown_cell hg1 h3.row.1 (fun e => by have := (hvl _ e).1; omega) j).trans (h3.row.2 j hj)⟩
end Go.Proofs.YtggkkjnfonbpkaaGreatDoor
