/- The contract of the reference's Parse. -/
import Derived.Test.YtmiencglfhpmeaaGreatDoorMQSu
set_option linter.unusedSimpArgs false
set_option linter.unusedVariables false
namespace Go.Proofs.YtmiencglfhpmeaaGreatDoor
open Go.RowKit Hach Num
theorem ret3 {fn : Func} (hr : fn.results = #[.tmp 2, .tmp 3, .tmp 4]) {W : World} {Q : Ending → World → Prop} {a b c : Value} {tmps : Array Value} (h2 : tmps.getD 2 undef = a) (h3 : tmps.getD 3 undef = b) (h4 : tmps.getD 4 undef = c)
  (hQ : Q (.returned (.tuple #[a, b, c])) W) : bodyPost Tryz.prog fn Q Exit.ret ⟨tmps, []⟩ W := by
 refine bodyPost_ret (v := .tuple #[a, b, c]) ?_ rfl hQ
 rw [Array.getD_eq_getD_getElem?] at h2 h3 h4
 simp only [results, hr]
 go_simp
def ParseQL (s : List UInt8) (w : World) (e : Ending) (w' : World) : Prop := ∃ (A : Option Addr) (c d : Nat), e = .returned (.tuple #[.slice A (parseL s).1.length c, .int .i64 (parseL s).2.1, .int .i64 (parseL s).2.2]) ∧ RlL w' (fun k => w.heap.size ≤ k ∧ k < w'.heap.size) d A (parseL s).1 ∧ ((parseL s).1.length ≤ c ∧ c < 9223372036854775808) ∧ (∀ r ∈ (parseL s).1, r.ok ∧ r.small) ∧ Ext w w'
theorem OwnR.cap {w : World} {base : Nat} {A : Option Addr} {n c : Nat} {us : List Rn} (h : OwnR w base (.slice A n c) us) : us.length ≤ c ∧ c < 9223372036854775808 := by
 rcases h.2 with ⟨e, hn⟩ | ⟨g, cap, cur, e, _, _, h1, h2, _⟩
 ·simp only [Value.slice.injEq] at e
  obtain ⟨_, _, rfl⟩ := e
  rw [hn]; exact ⟨Nat.le_refl _, by decide⟩
 ·simp only [Value.slice.injEq] at e
  obtain ⟨_, _, rfl⟩ := e
  exact ⟨h1, Nat.lt_of_le_of_lt h2 (by decide)⟩
theorem rdE_chk {l r : List UInt8} {x : Ex} (h : rdE l = some (x, r)) : x.ok ∧ x.size < 4294967296 := by
 unfold rdE at h
 cases ht : rdText l with
 | none => rw [ht] at h; cases h
 | some p =>
  rw [ht] at h
  simp only at h
  split at h
  ·rename_i hc
   simp only [Option.some.injEq, Prod.mk.injEq] at h
   obtain ⟨rfl, _⟩ := h
   obtain ⟨h1, h2⟩ := chk_rt hc.2.1
   exact ⟨rt_ok h1, by omega⟩
  ·cases h
theorem rdR_ok {l r : List UInt8} {u : Rl} (h : rdR l = some (u, r)) (hl : l.length < 4294967296) : u.ok ∧ u.small := by
 obtain ⟨l1, l2, l3, l4, l5, h1, h2, h3, h4, h5, h6⟩ := rdR_parts h
 have t := (rdText_len h1).1
 have v := (twinInt.sole _ _ _ h2).1
 obtain ⟨a1, b1⟩ := rdE_chk h3
 obtain ⟨a2, b2⟩ := rdE_chk h4
 obtain ⟨a3, b3⟩ := rdE_chk h5
 obtain ⟨a4, b4⟩ := rdE_chk h6
 exact ⟨⟨by omega, v, ⟨a1, by omega⟩, ⟨a2, by omega⟩, ⟨a3, by omega⟩, ⟨a4, by omega⟩⟩, ⟨b1, b2, b3, b4⟩⟩
theorem KidsR.step {W wb : World} {B d lo : Nat} {v v1 : Value} {us : List Rn} {u : Rn} (hK : KidsR W (SO B W v) d us) (hk : u.kids W (fun b => lo ≤ b ∧ b < W.heap.size) d) (hlo : B ≤ lo) (hv : ∀ b, v.ownBlock = some b → b < lo) (hg : W.grownBy wb v.ownBlock) (hn : v1.ownBlock = v.ownBlock ∨ v1.ownBlock = some W.heap.size) : KidsR wb (SO B wb v1) d (us ++ [u]) := by
 have hsz := hg.size
 have key : ∀ b, B ≤ b → b < W.heap.size → v.ownBlock ≠ some b → (∀ o', wb.cell? ⟨b, o', none⟩ = W.cell? ⟨b, o', none⟩) ∧ SO B wb v1 b := fun b h1 h2 h3 => ⟨fun o' => grown_cell hg h2 h3 o', h1, by omega, fun e => by
  rcases hn with h | h
  ·exact h3 (h ▸ e)
  ·rw [h] at e; simp only [Option.some.injEq] at e; omega⟩
 have h4 : ∀ b, lo ≤ b → v.ownBlock ≠ some b := fun b h e => by have := hv b e; omega
 refine KidsR.app (KidsR.more (KidsR.keep hK fun b hb o' => (key b hb.1 hb.2.1 hb.2.2).1 o') fun b hb => (key b hb.1 hb.2.1 hb.2.2).2) fun y hy => ?_
 rw [List.mem_singleton.1 hy]
 exact (hk.keep fun b hb o' => (key b (by omega) hb.2 (h4 b hb.1)).1 o').more fun b hb => (key b (by omega) hb.2 (h4 b hb.1)).2
end Go.Proofs.YtmiencglfhpmeaaGreatDoor
