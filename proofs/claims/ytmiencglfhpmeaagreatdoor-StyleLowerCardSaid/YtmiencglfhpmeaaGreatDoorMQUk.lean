/- Appending nothing; rows of one's own whose rules lie in old memory. -/
import Derived.Test.YtmiencglfhpmeaaGreatDoorMQUd
import Derived.ArgAppend
set_option linter.unusedSimpArgs false
set_option linter.unusedVariables false
namespace Go.Proofs.YtmiencglfhpmeaaGreatDoor
open Go.RowKit Hach
theorem app_0 {ops : Array Oper} {rest : List Oper} {o : Oper} {a : Act} {w : World} {Q : Exit → Act → World → Prop} (hgd : o.guard = none) (s x : Tmp)
  (ho : o.op = .call { callee := .builtin .append, args := #[.tmp s, .tmp x], argTypes := #[30, 30] }) (b p n cap : Nat) (hn : n ≤ cap) (hs : a.eval (.tmp s) = .slice (some ⟨b, p, none⟩) n cap) (A : Addr) (c : Nat) (hx : a.eval (.tmp x) = .slice (some A) 0 c)
  (h : wpList Tryz.prog ops Q rest (a.put o.dst (.slice (some ⟨b, p, none⟩) n cap)) w) : wpList Tryz.prog ops Q (o :: rest) a w := by
 obtain ⟨i0, hi, _, hz1, _⟩ := info_parts infoR
 refine wpList_plain hgd fun K hK' => ?_
 have hrun := run_append_room_cells (P := Tryz.prog) w 30 o.type 49 i0 Tryz.underlying30 hi b p n cap A 0 c [] (by simp) (fun j u h => by simp at h) (fun u h => by cases h) (by omega) (fun j h => by simp at h) (fun j h => by simp at h)
 rw [Nat.add_zero, World.setCells] at hrun
 unfold Oper.wp
 simp [execOp, ho, resolve, invoke, builtin, hs, hx, hrun, Result.andThen]
 exact hK' _ _ h
theorem kids_below {W W' : World} {B d : Nat} {us : List Rn} (h : KidsR W (fun b => b < B) d us) (hB : Below B W W') (hs : B ≤ W'.heap.size) : KidsR W' (fun b => b < W'.heap.size) d us :=
 KidsR.more (KidsR.keep h fun b hb o => hB.cell (p := ⟨b, o, none⟩) hb) fun b hb => Nat.lt_of_lt_of_le hb hs
theorem OwnR.low {W : World} {b b' : Nat} {v : Value} {us : List Rn} (h : OwnR W b v us) (hb : b' ≤ b) : OwnR W b' v us := by
 obtain ⟨h2, h3⟩ := h
 refine ⟨h2, h3.imp id ?_⟩
 rintro ⟨g', cap, cur, k1, k2, k3⟩
 exact ⟨g', cap, cur, k1, by omega, k3⟩
theorem own_empty (W : World) {B : Nat} (hB : B ≤ W.heap.size) : OwnR (W.alloc (.cells #[] 49)) B (.slice (some ⟨W.heap.size, 0, none⟩) 0 0) [] := World.ownsRow_made W #[] 0 hB (by decide) rfl
theorem drop_at {W : World} {g : Nat} {us : List Rn} (h : ∀ (j : Nat) (u : Rn), us[j]? = some u → W.rangeAt g (j * 30) u.cells) (n : Nat) : ∀ (j : Nat) (t : Rn), (us.drop n)[j]? = some t → W.rangeAt g (n * 30 + j * 30) t.cells := fun j t ht => by
 rw [List.getElem?_drop] at ht
 have := h _ t ht
 rwa [Nat.add_mul] at this
theorem take_at {W : World} {g : Nat} {us : List Rn} (h : ∀ (j : Nat) (u : Rn), us[j]? = some u → W.rangeAt g (j * 30) u.cells) (n : Nat) : ∀ (j : Nat) (t : Rn), (us.take n)[j]? = some t → W.rangeAt g (0 + j * 30) t.cells := fun j t ht => by
 rw [List.getElem?_take] at ht
 split at ht
 ·rw [Nat.zero_add]; exact h j t ht
 ·cases ht
def RowB (W : World) (v : Value) (l : List Rl) : Prop := ∃ (A : Option Addr) (c d : Nat), v = .slice A l.length c ∧ RlB W W.heap.size d A l ∧ l.length ≤ c ∧ c < 9223372036854775808
theorem RowB.ext {W W' : World} {v : Value} {l : List Rl} (h : RowB W v l) (hE : Ext W W') : RowB W' v l := by
 obtain ⟨A, c, d, e, h1, h2⟩ := h
 exact ⟨A, c, d, e, RlL.ext h1 hE, h2⟩
theorem RowB.own {W : World} {base d : Nat} {v : Value} {vs : List Rn} {l : List Rl} (h : OwnR W base v vs) (hk : KidsR W (fun b => b < W.heap.size) d vs) (hl : vs.map (·.r) = l) : RowB W v l := by
 obtain ⟨A, c, e, _⟩ := h.form
 subst e; subst hl
 have := (OwnR.list h hk (S := fun b => b < W.heap.size) fun b _ h2 => h2).1
 exact ⟨A, c, d, by rw [List.length_map], this, by rw [List.length_map]; exact h.cap⟩
theorem RowB.look {W : World} {v : Value} {l : List Rl} (h : RowB W v l) (x : En) (hl : l.length < 4294967296) (hok : ∀ r ∈ l, r.ok) : Calls Tryz.prog 16 #[v, x.v] W (LookR l x W) := by
 obtain ⟨A, c, d, rfl, h1, h2, h3⟩ := h
 exact Look_any l x A c d W h1 hl h2 h3 hok
theorem MdB.row {W : World} {lo g c d : Nat} {us : List Rn} {l : List Rl} (h : MdB W lo g c d us l) : RowB W (.slice (some ⟨g, 0, none⟩) l.length c) l := ⟨_, c, d, rfl, h.rlb, h.cap⟩
theorem MdB.kidsB {W : World} {lo g c d : Nat} {us : List Rn} {l : List Rl} (h : MdB W lo g c d us l) : KidsR W (fun b => b < W.heap.size) d us := KidsR.more h.k fun _ hb => hb.2.1
theorem look_three (x : En) {l l' l'' : List Rl} (h1 : l.Perm l') (h2 : l.Perm l'') (hc : chkL l = 0) : ∃ (a b c n : Int) (s t u : List UInt8), lookL l x = ((a, b, c), s, n) ∧ lookL l' x = ((a, b, c), t, n) ∧ lookL l'' x = ((a, b, c), u, n) ∧ (n = 31 ∨ (n ≠ 31 ∧ t = s ∧ u = s)) := by
 obtain ⟨p1, p2, p3⟩ := look_perm x h1 hc
 obtain ⟨q1, q2, q3⟩ := look_perm x h2 hc
 obtain ⟨⟨⟨a, b, c⟩, s, n⟩, e⟩ : ∃ q, lookL l x = q := ⟨_, rfl⟩
 obtain ⟨⟨a', t, n'⟩, e'⟩ : ∃ q, lookL l' x = q := ⟨_, rfl⟩
 obtain ⟨⟨a'', u, n''⟩, e''⟩ : ∃ q, lookL l'' x = q := ⟨_, rfl⟩
 rw [e, e'] at p1 p2 p3
 rw [e, e''] at q1 q2 q3
 simp only at p1 p2 p3 q1 q2 q3
 subst p1; subst p2; subst q1; subst q2
 refine ⟨a, b, c, n, s, t, u, e, e', e'', ?_⟩
 by_cases hn : n = 31
 ·exact .inl hn
 ·exact .inr ⟨hn, (p3.resolve_left hn).symm, (q3.resolve_left hn).symm⟩
end Go.Proofs.YtmiencglfhpmeaaGreatDoor
