/- Slices of strings that a call makes itself. -/
import Derived.Test.YthppcmejffdicaaGreatDoorRows
import Derived.Test.YthppcmejffdicaaGreatDoorQA
import Derived.Test.YthppcmejffdicaaGreatDoorQMono
import Derived.WalkKit
import Derived.WalkSpells
import Derived.WalkLawsBesides
import Derived.Lib.Hide
import Derived.Outline
import Derived.Maps.AppendAt

set_option linter.unusedSimpArgs false
set_option linter.unusedVariables false
namespace Go.Proofs.YthppcmejffdicaaGreatDoor
open Go.RowKit Hach

theorem infoS : (Tryz.prog.info? 9).map (fun i => (i.zero, i.size, i.bytes)) = some (some (.string ⟨#[]⟩), 1, 16) := by kernel_rfl

/- v: a slice of the strings ss, in a row of the call's own from block 'base' on -/
def OwnS (w : World) (base : Nat) (v : Value) (ss : List ByteArray) : Prop := w.ownsRow base 9 1 v ss.length (ss.map Value.string)
theorem OwnS.nil (w : World) (base : Nat) : OwnS w base (.slice none 0 0) [] := World.ownsRow_nil w base _ 1
theorem OwnS.form {w : World} {base : Nat} {v : Value} {ss : List ByteArray} (h : OwnS w base v ss) : ∃ A c, v = .slice A ss.length c ∧ Strs w w.heap.size A ss.length ss := by
  rcases h.2 with ⟨rfl, hn⟩ | ⟨g, cap, cur, rfl, hb, hg, r⟩
  · refine ⟨none, 0, by rw [hn], ?_⟩
    rw [hn]
    exact ⟨hn, fun h => absurd h (by omega)⟩
  · refine ⟨_, _, rfl, rfl, fun _ => ⟨g, 0, rfl, (Array.getElem?_eq_some_iff.1 hg).1, fun j hj => ?_⟩⟩
    have := World.ownsRow.cells h (g := g) rfl j (.string (ss.getD j ByteArray.empty)) (by simp [List.getD, List.getElem?_eq_getElem hj])
    simpa [Addr.add_lit] using this
theorem OwnS.keep {w w' : World} {base : Nat} {v : Value} {ss : List ByteArray} {row : Option Nat} (h : OwnS w base v ss) (hg : w.grownBy w' row) (hne : v.ownBlock = none ∨ v.ownBlock ≠ row) : OwnS w' base v ss := World.ownsRow.kept h hg hne
theorem grown_of_ext {w w' : World} (h : Ext w w') : w.grownBy w' none := ⟨Below.os h, Below.tape h, Below.output h, Below.size h, fun k hk _ => Below.block h k hk⟩
theorem OwnS.ext {w w' : World} {base : Nat} {v : Value} {ss : List ByteArray} (h : OwnS w base v ss) (hE : Ext w w') : OwnS w' base v ss := h.keep (grown_of_ext hE) (by cases v.ownBlock <;> simp)
theorem OwnS.base_ {w : World} {base base' : Nat} {v : Value} {ss : List ByteArray} (h : OwnS w base v ss) (hb : base' ≤ base) : OwnS w base' v ss := by
  refine ⟨h.1, ?_⟩
  rcases h.2 with hn | ⟨g, cap, cur, e, hg, r⟩
  · exact .inl hn
  · exact .inr ⟨g, cap, cur, e, Nat.le_trans hb hg, r⟩
theorem below_of_grown {B : Nat} {w0 w w' : World} {v : Value} {ss : List ByteArray} (hb : Below B w0 w) (h : OwnS w B v ss) (hg : w.grownBy w' v.ownBlock) (hB : B ≤ w.heap.size) : Below B w0 w' :=
  hb.grown hg hB fun k hk => (World.ownsRow.lt h k hk).1

/- a new block of one string -/
def slOne (s : ByteArray) : SP := ⟨fun v W => ∃ g, v = .slice (some ⟨g, 0, none⟩) 1 1 ∧ g < W.heap.size ∧ W.cell? ⟨g, 0, none⟩ = some (.string s), fun h hE => by
  obtain ⟨g, e, hg, hc⟩ := h
  exact ⟨g, e, Nat.lt_of_lt_of_le hg hE.sz, (hE.old (p := ⟨g, 0, none⟩) hg).trans hc⟩⟩

/- append(l, s) onto such a slice -/
theorem app_s {ops : Array Oper} {rest : List Oper} {o : Oper} {a : Act} {w : World} {Q : Exit → Act → World → Prop} (hgd : o.guard = none) (s x : Tmp)
    (ho : o.op = .call { callee := .builtin .append, args := #[.tmp s, .tmp x], argTypes := #[36, 36] }) (base : Nat) (v : Value) (ss : List ByteArray) (hs : a.eval (.tmp s) = v) (hown : OwnS w base v ss)
    (g : Nat) (t : ByteArray) (hx : a.eval (.tmp x) = .slice (some ⟨g, 0, none⟩) 1 1) (hc : w.cell? ⟨g, 0, none⟩ = some (.string t)) (hl : ss.length < 4294967296) (hbase : base ≤ w.heap.size)
    (h : ∀ v' w', OwnS w' base v' (ss ++ [t]) → w.grownBy w' v.ownBlock → wpList Tryz.prog ops Q rest (a.put o.dst v') w') : wpList Tryz.prog ops Q (o :: rest) a w := by
  obtain ⟨i0, hi, hz0, hz1, hz2⟩ := info_parts infoS
  refine wpList_append_own w hgd _ _ _ ho base 9 i0 (.string ⟨#[]⟩) 1 16 Tryz.underlying36 hi hz0 hz1 hz2 rfl (by decide) v ss.length (ss.map Value.string) hs hown ⟨g, 0, none⟩ 1 1 [.string t] hx rfl ?_ ?_ ?_ ?_ hbase ?_
  · intro j u hu
    match j, hu with
    | 0, hu => simp at hu; subst hu; simpa [Addr.add] using hc
    | j + 1, hu => simp at hu
  · intro u hu; simp at hu; subst hu; rfl
  · simp only [maxLen]; omega
  · omega
  · intro v' w' h2 h3 _
    refine h v' w' ?_ h3
    unfold OwnS
    simpa using h2
/- the same, with where the new row lies -/
theorem app_sa {ops : Array Oper} {rest : List Oper} {o : Oper} {a : Act} {w : World} {Q : Exit → Act → World → Prop} (hgd : o.guard = none) (s x : Tmp)
    (ho : o.op = .call { callee := .builtin .append, args := #[.tmp s, .tmp x], argTypes := #[36, 36] }) (base : Nat) (v : Value) (ss : List ByteArray) (hs : a.eval (.tmp s) = v) (hown : OwnS w base v ss)
    (g : Nat) (t : ByteArray) (hx : a.eval (.tmp x) = .slice (some ⟨g, 0, none⟩) 1 1) (hc : w.cell? ⟨g, 0, none⟩ = some (.string t)) (hl : ss.length < 4294967296) (hbase : base ≤ w.heap.size)
    (h : ∀ v' w', OwnS w' base v' (ss ++ [t]) → w.grownBy w' v.ownBlock → (v'.ownBlock = v.ownBlock ∨ v'.ownBlock = some w.heap.size) → wpList Tryz.prog ops Q rest (a.put o.dst v') w') : wpList Tryz.prog ops Q (o :: rest) a w := by
  obtain ⟨i0, hi, hz0, hz1, hz2⟩ := info_parts infoS
  refine wpList_append_own_at w hgd _ _ _ ho base 9 i0 (.string ⟨#[]⟩) 1 16 Tryz.underlying36 hi hz0 hz1 hz2 rfl (by decide) v ss.length (ss.map Value.string) hs hown ⟨g, 0, none⟩ 1 1 [.string t] hx rfl ?_ ?_ ?_ ?_ hbase ?_
  · intro j u hu
    match j, hu with
    | 0, hu => simp at hu; subst hu; simpa [Addr.add] using hc
    | j + 1, hu => simp at hu
  · intro u hu; simp at hu; subst hu; rfl
  · simp only [maxLen]; omega
  · omega
  · intro v' w' h2 h3 _ h5
    refine h v' w' ?_ h3 h5
    unfold OwnS
    simpa using h2
end Go.Proofs.YthppcmejffdicaaGreatDoor
