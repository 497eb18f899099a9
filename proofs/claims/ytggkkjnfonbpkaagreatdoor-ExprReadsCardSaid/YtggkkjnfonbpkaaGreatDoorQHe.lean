/- The contracts of the reference's Reader: next, take; of its index. -/
import Derived.Test.YtggkkjnfonbpkaaGreatDoorQXh
import Derived.Deep.QuietTactic
import Derived.BigQuiet

set_option linter.unusedSimpArgs false
set_option linter.unusedVariables false
namespace Go.Proofs.YtggkkjnfonbpkaaGreatDoor
open Go.RowKit Hach

def RdrAt (w : World) (b : Nat) (v : Value) (wrong : Bool) : Prop := w.heap[b]? = some (.cells #[v, .bool wrong] 89 (0, 0))
theorem RdrAt.lt {w : World} {b : Nat} {v : Value} {k : Bool} (h : RdrAt w b v k) : b < w.heap.size := (Array.getElem?_eq_some_iff.1 h).1
theorem RdrAt.own {w w' : World} {b : Nat} {v : Value} {k : Bool} {r : Option Nat} (h : RdrAt w b v k) (hg : w.grownBy w' r) (hb : some b ≠ r) : RdrAt w' b v k := (hg.block b h.lt hb).trans h
theorem RdrAt.cells {w : World} {b : Nat} {v : Value} {k : Bool} (h : RdrAt w b v k) : w.cell? ⟨b, 0, none⟩ = some v ∧ w.cell? ⟨b, 1, none⟩ = some (.bool k) ∧ w.frozen? ⟨b, 0, none⟩ = false ∧ w.frozen? ⟨b, 1, none⟩ = false := by
  have h' : w.heap[b]? = _ := h
  refine ⟨?_, ?_, ?_, ?_⟩ <;> simp [World.cell?, World.frozen?, h']
theorem RdrAt.set0 {w : World} {b : Nat} {v : Value} {k : Bool} (h : RdrAt w b v k) (u : Value) : RdrAt (w.setCell ⟨b, 0, none⟩ u) b u k := by
  have h' : w.heap[b]? = _ := h
  simp [RdrAt, World.setCell, Array.getElem?_modify, h']
theorem RdrAt.set1 {w : World} {b : Nat} {v : Value} {k : Bool} (h : RdrAt w b v k) (u : Bool) : RdrAt (w.setCell ⟨b, 1, none⟩ (.bool u)) b v u := by
  have h' : w.heap[b]? = _ := h
  simp [RdrAt, World.setCell, Array.getElem?_modify, h']
/- the tokens that are left -/
def Left (w : World) (b : Nat) (A : Option Addr) (c : Nat) (ts : List Tok) : Prop := (∀ t ∈ ts, IsTok t ∧ t.length ≤ 4096) ∧ ts.length ≤ 4096 ∧ (ts ≠ [] → ts.length ≤ c ∧ ∃ g o, A = some ⟨g, o, none⟩ ∧ g < b ∧ ∀ j, j < ts.length → w.cell? ⟨g, o + j, none⟩ = some (bs (ts.getD j [])))
theorem Left.own {w w' : World} {b : Nat} {A : Option Addr} {c : Nat} {ts : List Tok} {r : Option Nat} (h : Left w b A c ts) (hb : b < w.heap.size) (hg : w.grownBy w' r) (hr : ∀ x, r = some x → b ≤ x) : Left w' b A c ts := by
  refine ⟨h.1, h.2.1, fun hn => ?_⟩
  obtain ⟨hc, g, o, e, h2, h3⟩ := h.2.2 hn
  exact ⟨hc, g, o, e, h2, fun j hj => (grown_cell hg (by omega) (fun e => by have := hr g e; omega) _).trans (h3 j hj)⟩
def RL (w : World) (b : Nat) (ts : List Tok) (wrong : Bool) : Prop := ∃ A c, RdrAt w b (.slice A ts.length c) wrong ∧ Left w b A c ts
theorem RL.lt {w : World} {b : Nat} {ts : List Tok} {k : Bool} (h : RL w b ts k) : b < w.heap.size := by obtain ⟨A, c, h, _⟩ := h; exact h.lt
theorem RL.own {w w' : World} {b : Nat} {ts : List Tok} {k : Bool} {r : Option Nat} (h : RL w b ts k) (hg : w.grownBy w' r) (hr : ∀ x, r = some x → b < x) : RL w' b ts k := by
  obtain ⟨A, c, h1, h2⟩ := h
  exact ⟨A, c, h1.own hg (fun e => by have := hr b e.symm; omega), h2.own h1.lt hg fun x e => Nat.le_of_lt (hr x e)⟩
theorem RL.ext {w w' : World} {b : Nat} {ts : List Tok} {k : Bool} (h : RL w b ts k) (hE : Ext w w') : RL w' b ts k := h.own (grown_of hE none) (fun x e => by cases e)
theorem RL.toks {w : World} {b : Nat} {ts : List Tok} {k : Bool} (h : RL w b ts k) : (∀ t ∈ ts, IsTok t ∧ t.length ≤ 4096) ∧ ts.length ≤ 4096 := by
  obtain ⟨A, c, _, h2⟩ := h; exact ⟨h2.1, h2.2.1⟩
theorem Left.tail {w w' : World} {b : Nat} {g o c : Nat} {t : Tok} {ts : List Tok} (h : Left w b (some ⟨g, o, none⟩) c (t :: ts)) (hb : b < w.heap.size) (hg : w.grownBy w' (some b)) (A' : Option Addr) (hA : ts ≠ [] → A' = some ⟨g, o + 1, none⟩) : Left w' b A' (c - 1) ts := by
  have h' := h.own hb hg (fun x e => by simp only [Option.some.injEq] at e; omega)
  refine ⟨fun u hu => h.1 u (List.mem_cons_of_mem _ hu), by have := h.2.1; simp at this; omega, fun hn => ?_⟩
  obtain ⟨hc, g', o', e, h2, h3⟩ := h'.2.2 (by simp)
  simp only [Option.some.injEq, Addr.mk.injEq, and_true] at e
  obtain ⟨rfl, rfl⟩ := e
  rw [List.length_cons] at hc
  refine ⟨by omega, g, o + 1, hA hn, h2, fun j hj => ?_⟩
  have := h3 (j + 1) (by rw [List.length_cons]; omega)
  rw [show o + 1 + j = o + (j + 1) by omega, this, List.getD_cons_succ]
set_option maxHeartbeats 2000000 in
theorem rnext_any {b : Nat} {w : World} {ts : List Tok} {k : Bool} (h : RL w b ts k) : Calls Tryz.prog 68 #[rp b] w fun e w' => e = .returned (bs (hd ts)) ∧ Ext w w' := by
  obtain ⟨A, c, h1, h2⟩ := h
  obtain ⟨c0, c1, f0, f1⟩ := h1.cells
  unfold rp
  cases ts with
  | nil =>
    rw [List.length_nil] at c0
    clear h1 h2
    go_enter Tryz.func68, Tryz.ntmps68
    go_wp2_with fail
    go_ret
    exact ⟨rfl, Ext.refl _⟩
  | cons t r =>
    obtain ⟨hc, g, o, e, k2, k3⟩ := h2.2.2 (by simp)
    subst e
    have c2 := k3 0 (by simp)
    simp only [Nat.add_zero, List.getD_cons_zero] at c2
    have hl := h2.2.1
    obtain ⟨n, hn⟩ : ∃ n, (t :: r).length = n := ⟨_, rfl⟩
    rw [hn] at c0 hl
    have hn1 : 0 < n := by rw [← hn]; simp
    have t1 : ((n : Int) == 0) = false := by rw [beq_eq_false_iff_ne]; omega
    have e0 : hd (t :: r) = t := rfl
    rw [e0]
    unfold bs at *
    clear h1 h2 k3 hn e0 hc
    go_enter Tryz.func68, Tryz.ntmps68
    go_wp2_with fail
    go_ret
    exact ⟨rfl, Ext.refl _⟩
def TakeR (b : Nat) (w : World) (ts : List Tok) (k : Bool) (u : Tok) (e : Ending) (w' : World) : Prop := e = .returned (.tuple #[]) ∧ w.grownBy w' (some b) ∧ (match takeT u ts with
  | some r => RL w' b r k
  | none => RL w' b ts true)
theorem TakeR.yes {b : Nat} {w w' : World} {ts r : List Tok} {k : Bool} {u : Tok} {e : Ending} (h : takeT u ts = some r) (he : e = .returned (.tuple #[])) (hg : w.grownBy w' (some b)) (hr : RL w' b r k) : TakeR b w ts k u e w' := by
  refine ⟨he, hg, ?_⟩; rw [h]; exact hr
theorem TakeR.no {b : Nat} {w w' : World} {ts : List Tok} {k : Bool} {u : Tok} {e : Ending} (h : takeT u ts = none) (he : e = .returned (.tuple #[])) (hg : w.grownBy w' (some b)) (hr : RL w' b ts true) : TakeR b w ts k u e w' := by
  refine ⟨he, hg, ?_⟩; rw [h]; exact hr
theorem takeT_hit' (t : Tok) (r : List Tok) : takeT t (t :: r) = some r := by unfold takeT; exact if_pos rfl
theorem takeT_miss (ts : List Tok) (u : Tok) (h : hd ts ≠ u) : takeT u ts = none := by
  cases ts with
  | nil => rfl
  | cons t r => exact if_neg (show ¬ t = u from h)
set_option maxHeartbeats 4000000 in
theorem rtake_any {b : Nat} {w : World} {ts : List Tok} {k : Bool} (h : RL w b ts k) (u : Tok) (hu : u ≠ []) : Calls Tryz.prog 69 #[rp b, bs u] w (TakeR b w ts k u) := by
  have HN := Lib.hid (rnext_any h)
  have HR := Lib.hid h
  obtain ⟨E, hE⟩ : ∃ E : ByteArray, ⟨u.toArray⟩ = E := ⟨_, rfl⟩
  by_cases htk : hd ts = u
  · obtain ⟨t, r, rfl⟩ : ∃ t r, ts = t :: r := by
      cases ts with
      | nil => exact absurd htk.symm hu
      | cons t r => exact ⟨t, r, rfl⟩
    obtain rfl : t = u := htk
    have HT := Lib.hid (takeT_hit' t r)
    have hq := bs_eq t t E E hE hE
    rw [decide_eq_true rfl] at hq
    unfold rp bs hd at *
    rw [List.headD_cons] at HN
    rw [hE] at HN ⊢
    clear hE h hu
    go_enter Tryz.func69, Tryz.ntmps69
    go_wp2_with fail
    refine HN.out.mono ?_
    rintro e w1 ⟨rfl, hE1⟩
    obtain ⟨A, c, h1, h2⟩ := HR.out.ext hE1
    obtain ⟨c0, c1, f0, f1⟩ := h1.cells
    obtain ⟨hc, g, o, e, k2, k3⟩ := h2.2.2 (by simp)
    subst e
    have hl := h2.2.1
    rw [List.length_cons] at hc hl c0
    obtain ⟨n, hn⟩ : ∃ n, r.length = n := ⟨_, rfl⟩
    rw [hn] at hc hl c0
    have HL := Lib.hid h2
    have HH := Lib.hid h1
    have HNN := Lib.hid hn
    clear k3 h1 h2 hn
    by_cases hc1 : c = 1
    · subst hc1
      obtain rfl : n = 0 := by omega
      go_wp2_with fail
      go_end0
      exact TakeR.yes HT.out rfl (grown_trans (grown_of hE1 _) (grown_set _ _ _ _)) ⟨some ⟨g, o, none⟩, 0, by rw [HNN.out]; exact HH.out.set0 _, Left.tail HL.out HH.out.lt (grown_set _ _ _ _) _ fun hr => by
        have := HNN.out; exact absurd (List.length_eq_zero_iff.1 this) hr⟩
    · go_wp2_with fail
      go_end0
      exact TakeR.yes HT.out rfl (grown_trans (grown_of hE1 _) (grown_set _ _ _ _)) ⟨some ⟨g, o + 1, none⟩, c - 1, by rw [HNN.out]; exact HH.out.set0 _, Left.tail HL.out HH.out.lt (grown_set _ _ _ _) _ fun hr => rfl⟩
  · have HT := Lib.hid (show takeT u ts = none from takeT_miss ts u htk)
    unfold rp bs at *
    obtain ⟨D, hD⟩ : ∃ D : ByteArray, ⟨(hd ts).toArray⟩ = D := ⟨_, rfl⟩
    have hq := bs_eq (hd ts) u D E hD hE
    rw [decide_eq_false htk] at hq
    rw [hD] at HN
    rw [hE]
    clear hD hE h hu htk
    go_enter Tryz.func69, Tryz.ntmps69
    go_wp2_with fail
    refine HN.out.mono ?_
    rintro e w1 ⟨rfl, hE1⟩
    obtain ⟨A, c, h1, h2⟩ := HR.out.ext hE1
    obtain ⟨c0, c1, f0, f1⟩ := h1.cells
    have HL := Lib.hid h2
    have HH := Lib.hid h1
    clear h1 h2
    go_wp2_with fail
    go_end0
    exact TakeR.no HT.out rfl (grown_trans (grown_of hE1 _) (grown_set _ _ _ _)) ⟨A, c, HH.out.set1 true, HL.out.own HH.out.lt (grown_set _ _ _ _) (fun x e => by simp only [Option.some.injEq] at e; omega)⟩
set_option maxHeartbeats 1000000 in
theorem rindex_any (ss : List Tok) (t : Tok) (g : Nat) (w : World) (hR : RowS w g ss) (hl : ss.length < 4294967296) :
    Calls Tryz.prog 71 #[.slice (some ⟨g, 0, none⟩) ss.length ss.length, bs t] w fun e w' => e = .returned (.int .i64 (ixI ss t)) ∧ w' = w := by
  unfold bs
  obtain ⟨D, hD⟩ : ∃ D : ByteArray, ⟨t.toArray⟩ = D := ⟨_, rfl⟩
  have HD := Lib.hid hD
  rw [hD]
  clear hD
  go_enter Tryz.func71, Tryz.ntmps71
  go_wp2_with fail
  go_loop [5] (fun kv => ∃ k : Nat, k ≤ ss.length ∧ kv = .int .i64 k ∧ Hid (∀ j, j < k → ss.getD j [] ≠ t)) (fun kv => ss.length - (intOf kv).toNat)
  case atStart => exact ⟨0, Nat.zero_le _, rfl, Lib.hid (fun j hj => absurd hj (by omega))⟩
  case round =>
    obtain ⟨k, hk, rfl, HA⟩ := hrel
    by_cases hlt : k < ss.length
    · have hc := hR.2 k hlt
      have tk : decide (k < ss.length) = true := by simp; omega
      obtain ⟨u, hu⟩ : ∃ u, ss.getD k [] = u := ⟨_, rfl⟩
      rw [hu] at hc
      have HU := Lib.hid hu
      obtain ⟨E, hE⟩ : ∃ E : ByteArray, ⟨u.toArray⟩ = E := ⟨_, rfl⟩
      have hq1 := bs_eq t u D E HD.out hE
      have hq2 := bs_eq u t E D hE HD.out
      rw [hE] at hc
      clear hu hE
      by_cases htu : t = u
      · have HX := Lib.hid (show ixI ss t = k by unfold ixI; rw [ix_some hlt (HU.out.trans htu.symm) HA.out])
        rw [decide_eq_true htu] at hq1
        rw [decide_eq_true htu.symm] at hq2
        clear htu
        go_wp2_with fail
        go_ret
        exact ⟨by rw [HX.out]; rfl, rfl⟩
      · have HN : Hid (∀ j, j < k + 1 → ss.getD j [] ≠ t) := Lib.hid (fun j hj => by
          by_cases hjk : j = k
          · subst hjk; rw [HU.out]; exact fun e => htu e.symm
          · exact HA.out j (by omega))
        rw [decide_eq_false htu] at hq1
        rw [decide_eq_false (fun e => htu e.symm)] at hq2
        clear htu
        go_wp2_with fail
        go_round
        case rel => exact ⟨k + 1, by omega, by go_num, HN⟩
        case measure => simp [intOf]; omega
    · have HX := Lib.hid (show ixI ss t = -1 by unfold ixI; rw [ix_none (fun j hj => HA.out j (by omega))])
      have tk : decide (k < ss.length) = false := by simp; omega
      go_wp2_with fail
      go_ret
      exact ⟨by rw [HX.out]; rfl, rfl⟩
end Go.Proofs.YtggkkjnfonbpkaaGreatDoor
