/- The contracts of digest.levels, digest.Root. -/
import Derived.Test.YtncdnopnjdbleaaDl
namespace Go.Proofs.Ytncdnopnjdbleaa
open Go.RowKit Hach Go.Shelf
attribute [local go_sem] Oper.semAt_some

theorem levels_any (A : Option Addr) (m c : Nat) (w : World) :
    Calls Try.prog 36 #[.slice A m c] w fun e w' => e = .returned (.func (.func 41) #[] #[.pointer (some ⟨w.heap.size, 0, none⟩)]) ∧ w' = w.alloc (.cells #[.slice A m c] 28) := by
  go_enter Try.func36, Try.ntmps36
  go_wp2_with fail
  go_ret
  exact ⟨rfl, rfl⟩

theorem abide_rdD (B : Nat) (x : List (List UInt8)) (v : Value) (B' : Nat) : Abide B (RdD x v B') := by
  rintro ⟨⟩ W W' row ⟨b, c, e, hB, hb, hc⟩ hg hr
  exact ⟨b, c, e, hB, Nat.lt_of_lt_of_le hb hg.size, fun j hj i hi => cell_kept (hc j hj i hi) hg (fun r e => (hr r e).2)⟩
theorem abide_and {B : Nat} {p q : World → Prop} (hp : Abide B p) (hq : Abide B q) : Abide B (fun W => p W ∧ q W) := fun s W W' row h hg hr => ⟨hp s W W' row h.1 hg hr, hq s W W' row h.2 hg hr⟩
theorem abide_pure (B : Nat) (p : Prop) : Abide B (fun _ => p) := fun _ _ _ _ h _ _ => h
theorem abide_row (B g : Nat) (cs : Array Value) (t : TypeId) (fr : Nat × Nat) : Abide B (fun W => W.heap[g]? = some (.cells cs t fr)) := by
  rintro ⟨⟩ W W' row h hg hr
  refine (hg.block g (some_lt h) fun e => ?_).trans h
  obtain ⟨o, ho, hc⟩ := (hr g e.symm).2
  rw [h] at ho
  cases ho
  cases hc
theorem abide_ex {α : Type} {B : Nat} {p : α → World → Prop} (hp : ∀ a, Abide B (p a)) : Abide B (fun W => ∃ a, p a W) := fun s W W' row ⟨a, h⟩ hg hr => ⟨a, hp a s W W' row h hg hr⟩
theorem abide_below {B n₀ : Nat} {w₀ : World} (hn : n₀ ≤ w₀.heap.size) (hB : n₀ ≤ B) : Abide B (fun W => Below n₀ w₀ W) := ownFrom_below hn hB

/- eight cells written: what else lies there -/
theorem keeps_put8 (w : World) (g o : Nat) (u0 u1 u2 u3 u4 u5 u6 u7 : Value) : KeepsOthers w ((((((((w.setCell ⟨g, o, none⟩ u0).setCell ⟨g, o + 1, none⟩ u1).setCell ⟨g, o + 2, none⟩ u2).setCell ⟨g, o + 3, none⟩ u3).setCell ⟨g, o + 4, none⟩ u4).setCell ⟨g, o + 5, none⟩ u5).setCell ⟨g, o + 6, none⟩ u6).setCell ⟨g, o + 7, none⟩ u7) :=
  (((((((KeepsOthers.setCell _ _ _).trans (KeepsOthers.setCell _ _ _)).trans (KeepsOthers.setCell _ _ _)).trans (KeepsOthers.setCell _ _ _)).trans (KeepsOthers.setCell _ _ _)).trans (KeepsOthers.setCell _ _ _)).trans (KeepsOthers.setCell _ _ _)).trans (KeepsOthers.setCell _ _ _)
theorem block_put8 (w : World) (g o : Nat) (u0 u1 u2 u3 u4 u5 u6 u7 : Value) (k : Nat) (h : k ≠ g) : ((((((((w.setCell ⟨g, o, none⟩ u0).setCell ⟨g, o + 1, none⟩ u1).setCell ⟨g, o + 2, none⟩ u2).setCell ⟨g, o + 3, none⟩ u3).setCell ⟨g, o + 4, none⟩ u4).setCell ⟨g, o + 5, none⟩ u5).setCell ⟨g, o + 6, none⟩ u6).setCell ⟨g, o + 7, none⟩ u7).heap[k]? = w.heap[k]? := by
  rw [Below.heap_setCell _ _ _ _ h, Below.heap_setCell _ _ _ _ h, Below.heap_setCell _ _ _ _ h, Below.heap_setCell _ _ _ _ h, Below.heap_setCell _ _ _ _ h, Below.heap_setCell _ _ _ _ h, Below.heap_setCell _ _ _ _ h, Below.heap_setCell _ _ _ _ h]
theorem size_put8 (w : World) (g o : Nat) (u0 u1 u2 u3 u4 u5 u6 u7 : Value) : ((((((((w.setCell ⟨g, o, none⟩ u0).setCell ⟨g, o + 1, none⟩ u1).setCell ⟨g, o + 2, none⟩ u2).setCell ⟨g, o + 3, none⟩ u3).setCell ⟨g, o + 4, none⟩ u4).setCell ⟨g, o + 5, none⟩ u5).setCell ⟨g, o + 6, none⟩ u6).setCell ⟨g, o + 7, none⟩ u7).heap.size = w.heap.size := by simp
theorem rdD_block {x : List (List UInt8)} {v : Value} {B : Nat} {W W' : World} {g : Nat} (h : RdD x v B W) (hgB : g < B) (hz : W.heap.size ≤ W'.heap.size) (hk : ∀ k, k < W.heap.size → k ≠ g → W'.heap[k]? = W.heap[k]?) : RdD x v 0 W' := by
  obtain ⟨b, c, e, hB, hb, hc⟩ := h
  exact ⟨b, c, e, Nat.zero_le _, Nat.lt_of_lt_of_le hb hz, fun j hj i hi => (World.cell?_of_block (a := ⟨b, j * 8 + i, none⟩) (hk b hb (by omega))).trans (hc j hj i hi)⟩

/- what Root keeps between two rounds: the box holds the first digest of the last level -/
def RootI (w : World) (pre : List (List (List UInt8))) (B : Nat) (W : World) : Prop :=
  ∃ cs : Array Value, W.heap[w.heap.size]? = some (.cells cs 52) ∧ (cs.size = 8 ∧ (∀ x, pre.getLast? = some x → ∀ i, i < 8 → cs[i]? = some (.int .u8 (dgb (x.getD 0 []) i))) ∧ w.heap.size < B) ∧ Below w.heap.size w W

set_option maxHeartbeats 1000000 in
theorem Root_any (A : Option Addr) (m c : Nat) (ss : List ByteArray) (w : World) (hS : Strs w w.heap.size A m ss) (hm : m < 1048576) (hsm : ∀ k, (ss.getD k ByteArray.empty).size < 429496729) :
    Calls Try.prog 21 #[.slice A m c] w fun e w' => e = .returned (.string (rootS ss)) ∧ Below w.heap.size w w' := by
  refine (callsIn_wide (n := 9)).1 ?_
  refine callsIn_of_wp_marks Try.func21 rfl trivial ?_ rfl
  simp only [Try.ntmps21, List.size_toArray, List.length_cons, List.length_nil, Nat.reduceAdd, Nat.reduceSub, Array.replicate_succ, Array.replicate_zero, List.push_toArray, List.append_toArray, List.nil_append, List.cons_append]
  gi_wp2
  refine ⟨trivial, (callsIn_wide.2 (levels_any A m c _)).mono ?_⟩
  rintro e w' ⟨rfl, rfl⟩
  obtain ⟨w1, hw1⟩ : ∃ w1, (w.alloc (.cells #[.int .u8 0, .int .u8 0, .int .u8 0, .int .u8 0, .int .u8 0, .int .u8 0, .int .u8 0, .int .u8 0] 52)).alloc (.cells #[.slice A m c] 28) = w1 := ⟨_, rfl⟩
  have hsz : w1.heap.size = w.heap.size + 2 := by rw [← hw1]; simp
  have hB1 : Below w.heap.size w w1 := by rw [← hw1]; exact ((Below.refl _ w).alloc (Nat.le_refl _) _).alloc (by simp) _
  have hbox : w1.heap[w.heap.size]? = some (.cells #[.int .u8 0, .int .u8 0, .int .u8 0, .int .u8 0, .int .u8 0, .int .u8 0, .int .u8 0, .int .u8 0] 52) := by
    rw [← hw1]; exact (Below.heap_alloc _ _ _ (by simp)).trans (World.alloc_heap_new w _)
  have hlst : w1.cell? ⟨w.heap.size + 1, 0, none⟩ = some (.slice A m c) := by
    rw [← hw1]; have := World.cell?_alloc_new (w.alloc (.cells #[.int .u8 0, .int .u8 0, .int .u8 0, .int .u8 0, .int .u8 0, .int .u8 0, .int .u8 0, .int .u8 0] 52)) #[.slice A m c] 28 0; rw [World.size_alloc] at this; exact this
  rw [World.size_alloc]
  try rw [hw1]
  gi_wp2
  refine wpIn_range (F := Fence.wide) rfl (by omega) (gf := 41) (lb := #[.pointer (some ⟨w.heap.size + 1, 0, none⟩)]) rfl trivial (enters_of Try.func41 (by kernel_rfl) rfl)
    RdD (allL (lvsP ss)) (levels_yields (w.heap.size + 1) A m c ss w1 hlst ((hS.below hB1 (Nat.le_refl _)).more (by omega)) hm hsm _) rfl
    (RootI w) (fun pre B => abide_ex fun cs => abide_and (abide_row _ _ _ _ _) (abide_and (abide_pure _ _) (abide_below (Nat.le_refl _) (by omega))))
    (fun hB ⟨cs, h1, ⟨h2, h3, h4⟩, h5⟩ => ⟨cs, h1, ⟨h2, h3, Nat.lt_of_lt_of_le h4 hB⟩, h5⟩) (fun x v B => abide_rdD _ x v B)
    ⟨_, hbox, ⟨rfl, fun x h => (by cases h), (by omega)⟩, hB1⟩
    (fun v => { tmps := #[.slice A m c, undef, .string ⟨#[]⟩, .pointer (some ⟨w.heap.size, 0, none⟩), v, .slice A m c, .func (.func 41) #[] #[.pointer (some ⟨w.heap.size + 1, 0, none⟩)], v, undef, undef, undef, undef, undef], defers := [] }) ?assign ?body ?done
  case assign =>
    intro l v W K hK
    gi_wp2
    exact hK
  case body =>
    rintro l pre x post v B W hpx ⟨cs, hrow, ⟨hcz, hin, hlB⟩, hBw⟩ hBW hBs hrd
    have hx0 : 0 < x.length := by
      have := (prvAt_in pre (lvsP ss) ([], 0) x post hpx (by rw [lvsP_length]; exact pow2_p2 _) (by rw [lvsP_length]; exact p2_pos _)).2.1
      omega
    have hrd' := hrd
    obtain ⟨b, c3, rfl, hbB, hbl, hc⟩ := hrd'
    have hc0 : ∀ i, i < 8 → W.cell? ⟨b, i, none⟩ = some (.int .u8 (dgb (x.getD 0 []) i)) := fun i hi => by have := hc 0 hx0 i hi; rw [Nat.zero_mul, Nat.zero_add] at this; exact this
    obtain ⟨L, hL⟩ : ∃ L, x.getD 0 [] = L := ⟨_, rfl⟩
    rw [hL] at hc0
    have HL := Lib.hid hL
    clear hL hc
    have p0 := hc0 0 (by omega)
    have p1 := hc0 1 (by omega)
    have p2' := hc0 2 (by omega)
    have p3 := hc0 3 (by omega)
    have p4 := hc0 4 (by omega)
    have p5 := hc0 5 (by omega)
    have p6 := hc0 6 (by omega)
    have p7 := hc0 7 (by omega)
    clear hc0
    have HR := Lib.hid hrow
    have fr := fun o => row_free HR.out o
    obtain ⟨v0, q0⟩ := row_cell HR.out 0 (by omega)
    obtain ⟨v1, q1⟩ := row_cell HR.out 1 (by omega)
    obtain ⟨v2, q2⟩ := row_cell HR.out 2 (by omega)
    obtain ⟨v3, q3⟩ := row_cell HR.out 3 (by omega)
    obtain ⟨v4, q4⟩ := row_cell HR.out 4 (by omega)
    obtain ⟨v5, q5⟩ := row_cell HR.out 5 (by omega)
    obtain ⟨v6, q6⟩ := row_cell HR.out 6 (by omega)
    obtain ⟨v7, q7⟩ := row_cell HR.out 7 (by omega)
    clear hrow
    gi_wp2
    refine ⟨(keeps_put8 W w.heap.size 0 _ _ _ _ _ _ _ _).from _, ⟨put8 cs 0 L, row_store HR.out 0 L, ⟨by rw [put8_size]; exact hcz, ?_, ?_⟩, below_put8 hBw (Nat.le_refl _) 0 _ _ _ _ _ _ _ _⟩, ?_⟩
    · intro y hy i hi
      rw [List.getLast?_append] at hy
      simp at hy
      subst hy
      rw [HL.out]
      have := put8_in cs 0 L i hi (by omega)
      rwa [Nat.zero_add] at this
    · have := size_put8 W w.heap.size 0 (.int .u8 (dgb L 0)) (.int .u8 (dgb L 1)) (.int .u8 (dgb L 2)) (.int .u8 (dgb L 3)) (.int .u8 (dgb L 4)) (.int .u8 (dgb L 5)) (.int .u8 (dgb L 6)) (.int .u8 (dgb L 7))
      show _ < (World.setCell _ _ _).heap.size
      rw [show (World.setCell _ _ _).heap.size = _ from this]
      omega
    · exact rdD_block (g := w.heap.size) hrd hlB (Nat.le_of_eq (size_put8 W w.heap.size 0 _ _ _ _ _ _ _ _).symm) (fun k _ hk => block_put8 W w.heap.size 0 _ _ _ _ _ _ _ _ k hk)
  case done =>
    rintro D W hD ⟨cs, hrow, ⟨hcz, hin, hlB⟩, hBw⟩ hK
    obtain ⟨x, hx⟩ := allL_last _ (lvsP ss) (Nat.le_refl _)
    obtain ⟨hx1, hx2⟩ := hx.resolve_right (by intro e; have := p2_pos ss.length; rw [← lvsP_length, e] at this; simp at this)
    rw [lvsP_dgs] at hx2
    have hc := hin x hx1
    obtain ⟨L, hL⟩ : ∃ L, x.getD 0 [] = L := ⟨_, rfl⟩
    rw [hL] at hc hx2
    have hbx : W.heap[w.heap.size]? = some (dobj L) := by
      rw [hrow]
      unfold dobj
      congr 2
      apply Array.ext_getElem?
      intro i
      by_cases hi : i < 8
      · rw [hc i hi]
        match i, hi with
        | 0, _ => rfl
        | 1, _ => rfl
        | 2, _ => rfl
        | 3, _ => rfl
        | 4, _ => rfl
        | 5, _ => rfl
        | 6, _ => rfl
        | 7, _ => rfl
      · rw [Array.getElem?_eq_none (by omega), Array.getElem?_eq_none (by simp; omega)]
    have HB := Lib.hid hbx
    clear hbx hrow hin hL hc hx hx1
    have q0 := dobj_cell HB.out (j := 0) (by omega)
    have q1 := dobj_cell HB.out (j := 1) (by omega)
    have q2 := dobj_cell HB.out (j := 2) (by omega)
    have q3 := dobj_cell HB.out (j := 3) (by omega)
    have q4 := dobj_cell HB.out (j := 4) (by omega)
    have q5 := dobj_cell HB.out (j := 5) (by omega)
    have q6 := dobj_cell HB.out (j := 6) (by omega)
    have q7 := dobj_cell HB.out (j := 7) (by omega)
    gi_wp2
    refine ⟨trivial, (callsIn_wide.2 (text_any L W)).mono ?_⟩
    rintro e W4 ⟨rfl, hb4⟩
    have hK4 := (hb4.block D (some_lt hK)).trans hK
    gi_wp2
    refine ⟨by simp, .inl ⟨_, _, rfl, run_takeDeferred hK4, ?_⟩⟩
    refine ⟨_, results_tmp rfl _ _ _, ?_, (hBw.trans (hb4.mono hBw.size)).trans (belowK_b (w := w) (Nat.le_refl _) W4 D _ _ (by omega) hK4 rfl rfl)⟩
    rfl
end Go.Proofs.Ytncdnopnjdbleaa
