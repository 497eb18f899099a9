/- Calm rules: the contract of the reference's Calm; a priority written into a row of one's own. -/
import Derived.Test.YtmiencglfhpmeaaGreatDoorMQUe
namespace Go.Proofs.YtmiencglfhpmeaaGreatDoor
open Go.RowKit Hach
theorem rns_set (p : Int) : ∀ (us : List Rn) (k : Nat) (hk : k < us.length), ((us.set k ((us[k]).setP p)).map Rn.cells).flatten = ((us.map Rn.cells).flatten).set (k * 30 + 1) (.int .i64 p)
 | u :: us, 0, _ => by
  simp only [List.set_cons_zero, List.getElem_cons_zero, List.map_cons, List.flatten_cons]
  rfl
 | u :: us, k + 1, hk => by
  have h30 : u.cells.length = 30 := rfl
  have ih := rns_set p us k (by simpa using hk)
  simp only [List.set_cons_succ, List.getElem_cons_succ, List.map_cons, List.flatten_cons]
  rw [ih, List.set_append_right _ _ (by rw [h30]; omega), h30, show (k + 1) * 30 + 1 - 30 = k * 30 + 1 by omega]
theorem kids_setP {W : World} {S : Nat → Prop} {d : Nat} {u : Rn} (h : u.kids W S d) (p : Int) : (u.setP p).kids W S d := ⟨h.k1, h.k2, h.k3, h.k4⟩
def prSet (r : Rl) (p : Int) : Rl := ⟨r.nm, p, r.e1, r.e2, r.e3, r.e4⟩
theorem MdB.setP {W : World} {lo g c d : Nat} {us : List Rn} {l : List Rl} (h : MdB W lo g c d us l) {k : Nat} {u : Rn} (hu : us[k]? = some u) (p : Int) :
  MdB (W.setCell ⟨g, k * 30 + 1, none⟩ (.int .i64 p)) lo g c d (us.set k (u.setP p)) (l.set k (prSet u.r p)) ∧ W.grownBy (W.setCell ⟨g, k * 30 + 1, none⟩ (.int .i64 p)) (some g) := by
 obtain ⟨hk, rfl⟩ := List.getElem?_eq_some_iff.1 hu
 obtain ⟨h1, h2⟩ := World.ownsRow.stored (show W.ownsRow lo 49 30 (.slice (some ⟨g, 0, none⟩) us.length c) us.length (us.map Rn.cells).flatten from h.o) (k * 30 + 1) (.int .i64 p)
 refine ⟨⟨?_, ?_, fun y hy => ?_⟩, h2⟩
 ·rw [List.map_set, h.m]; rfl
 ·unfold OwnR
  rw [List.length_set, rns_set p us k hk]
  exact h1
 ·have key : ∀ y ∈ us, y.kids (W.setCell ⟨g, k * 30 + 1, none⟩ (.int .i64 p)) (fun b => lo ≤ b ∧ b < (W.setCell ⟨g, k * 30 + 1, none⟩ (.int .i64 p)).heap.size ∧ b ≠ g) d := fun y hy =>
   ((h.k y hy).keep fun b hb o => grown_cell h2 hb.2.1 (by have := hb.2.2; simp; omega) o).more fun b hb => ⟨hb.1, Nat.lt_of_lt_of_le hb.2.1 h2.size, hb.2.2⟩
  rcases List.mem_or_eq_of_mem_set hy with hy | rfl
  ·exact key y hy
  ·exact kids_setP (key _ (List.getElem_mem hk)) p
def CalmK (k : Nat) (l l' : List Rl) : Prop := l'.length = l.length ∧ ∀ (i : Nat) (r : Rl), l[i]? = some r → l'[i]? = some (if i < k then prSet r i else r)
theorem CalmK.start (l : List Rl) : CalmK 0 l l := ⟨rfl, fun i r h => by rw [if_neg (by omega)]; exact h⟩
theorem CalmK.next {k : Nat} {l l' : List Rl} {r' : Rl} (h : CalmK k l l') (hr : l'[k]? = some r') : CalmK (k + 1) l (l'.set k (prSet r' k)) := by
 obtain ⟨h1, h2⟩ := h
 refine ⟨by rw [List.length_set]; exact h1, fun i r hi => ?_⟩
 have hk := (List.getElem?_eq_some_iff.1 hr).1
 by_cases e : k = i
 ·subst e
  rw [List.getElem?_set_self hk, if_pos (by omega)]
  have := h2 k r hi
  rw [if_neg (by omega)] at this
  rw [this] at hr
  rw [Option.some.inj hr]
 ·rw [List.getElem?_set_ne e, h2 i r hi]
  by_cases e2 : i < k
  ·rw [if_pos e2, if_pos (by omega)]
  ·rw [if_neg e2, if_neg (by omega)]
theorem calm_at {l l' : List Rl} (h : CalmK l.length l l') {i : Nat} {s : Rl} (hs : l'[i]? = some s) : ∃ r, l[i]? = some r ∧ s = prSet r i ∧ i < l.length := by
 have hi := (List.getElem?_eq_some_iff.1 hs).1
 rw [h.1] at hi
 have h2 := h.2 i l[i] (List.getElem?_eq_getElem hi)
 rw [if_pos hi, hs] at h2
 exact ⟨l[i], List.getElem?_eq_getElem hi, Option.some.inj h2, hi⟩
theorem calm_mk {l l' : List Rl} (hm : Mk l) (h : CalmK l.length l l') : Mk l' ∧ (l'.map (·.pr)).Nodup ∧ ∀ r ∈ l', r.pr ≤ 3 := by
 have hle := hm.le
 have hpr : ∀ r ∈ l', 0 ≤ r.pr ∧ r.pr ≤ 3 ∧ Mk1 r := fun s hs => by
  obtain ⟨i, hi⟩ := List.getElem?_of_mem hs
  obtain ⟨r, hr, rfl, hl⟩ := calm_at h hi
  have h1 := hm.one r (List.mem_of_getElem? hr)
  exact ⟨(by omega : (0 : Int) ≤ (i : Int)), (by omega : (i : Int) ≤ 3), ⟨⟨(by omega : (0 : Int) ≤ (i : Int)), (by omega : (i : Int) ≤ 1000)⟩, h1.e1, h1.e2, h1.e3, h1.e4⟩⟩
 refine ⟨⟨by rw [h.1]; exact hm.pos, by rw [h.1]; exact hle, ?_, fun r hr => (hpr r hr).2.2, fun r hr => ?_⟩, ?_, fun r hr => (hpr r hr).2.1⟩
 ·rw [h.1, ← hm.nms]
  refine List.ext_getElem? fun i => ?_
  rw [List.getElem?_map, List.getElem?_map]
  cases hi : l[i]? with
  | none =>
   have : l'[i]? = none := List.getElem?_eq_none (by rw [h.1]; exact List.getElem?_eq_none_iff.1 hi)
   simp [this]
  | some r =>
   rw [h.2 i r hi]
   simp only [Option.map_some]
   split <;> rfl
 ·obtain ⟨r', hr', rfl, _⟩ := calm_at h hr
  exact ⟨(hm.yes r' hr').1, rfl⟩
 ·refine List.pairwise_iff_getElem.2 fun i j hi hj hij => ?_
  rw [List.length_map] at hi hj
  rw [List.getElem_map, List.getElem_map]
  obtain ⟨r, _, e1, _⟩ := calm_at h (List.getElem?_eq_getElem hi)
  obtain ⟨r2, _, e2, _⟩ := calm_at h (List.getElem?_eq_getElem hj)
  rw [e1, e2]
  show (i : Int) ≠ (j : Int)
  omega
def CalmL (w : World) (e : Ending) (w' : World) : Prop := ∃ (l : List Rl) (us : List Rn) (g c d : Nat), Mk l ∧ ((l.map (·.pr)).Nodup ∧ ∀ r ∈ l, r.pr ≤ 3) ∧ e = .returned (.slice (some ⟨g, 0, none⟩) l.length c) ∧ MdB w' w.heap.size g c d us l ∧ Ext w w'
theorem MdB.pr_cell {W : World} {lo g c d : Nat} {us : List Rn} {l : List Rl} (h : MdB W lo g c d us l) {k : Nat} {u : Rn} (hu : us[k]? = some u) : W.cell? ⟨g, k * 30 + 1, none⟩ = some (.int .i64 u.r.pr) ∧ W.frozen? ⟨g, k * 30 + 1, none⟩ = false :=
 ⟨h.at_ k u hu 1 _ rfl, World.ownsRow.frozenAt (show W.ownsRow lo 49 30 (.slice (some ⟨g, 0, none⟩) us.length c) us.length (us.map Rn.cells).flatten from h.o) _⟩
set_option maxRecDepth 100000 in
set_option maxHeartbeats 4000000 in
theorem rCalm_any (A : Option Addr) (n c : Nat) (w : World) (hL : LI w A n) : Calls Tryz.prog 27 #[.slice A n c] w (CalmL w) := by
 have MK := Lib.hid (rMade_any A n c w hL)
 clear hL
 go_enter Tryz.func27, Tryz.ntmps27
 go_wp2_with fail
 refine MK.out.mono ?_
 rintro e w1 ⟨la, us, g, c, d, hM, rfl, hB, hE1⟩
 have HM := Lib.hid hM
 have hll : la.length ≤ 4 := hM.le
 obtain ⟨N, hN⟩ : ∃ q, la.length = q := ⟨_, rfl⟩
 have hcap := hB.cap
 rw [hN] at hll hcap ⊢
 have HN := Lib.hid hN
 have HB0 : Hid (MdB w1 w.heap.size g c d us la) := Lib.hid hB
 have HE1 := Lib.hid hE1
 have HG0 := Lib.hid hB.lt.1
 clear hM hB hE1 hN MK
 go_wp2_with fail
 go_loopw [4] (fun iv wr => ∃ (k : Nat) (vs : List Rn) (l' : List Rl), k ≤ N ∧ iv = .int .i64 (k : Int) ∧ Hid (MdB wr w.heap.size g c d vs l') ∧ Hid (CalmK k la l') ∧ Hid (w1.grownBy wr (some g))) (fun iv _ => N - (intOf iv).toNat)
 case atStart => exact ⟨0, us, la, Nat.zero_le _, rfl, HB0, Lib.hid (CalmK.start la), Lib.hid (grown_of (Ext.refl _) _)⟩
 case round =>
  obtain ⟨k, vs, l', hk, rfl, HB, HK, HG⟩ := hrel
  obtain ⟨wo, hwo⟩ : ∃ q, q = wr := ⟨_, rfl⟩
  subst hwo
  by_cases hlt : k < N
  ·have t1 : decide (k < N) = true := by simpa using hlt
   have hkv : k < vs.length := by rw [HB.out.len, HK.out.1, HN.out]; exact hlt
   obtain ⟨u, hu⟩ : ∃ u, vs[k]? = some u := ⟨_, List.getElem?_eq_getElem hkv⟩
   obtain ⟨cp, fp⟩ := HB.out.pr_cell hu
   obtain ⟨hB', hG'⟩ := HB.out.setP hu (k : Int)
   have hur : l'[k]? = some u.r := by rw [← HB.out.m, List.getElem?_map, hu]; rfl
   have HNK := Lib.hid (HK.out.next hur)
   have HNB := Lib.hid hB'
   have HNG := Lib.hid (grown_trans HG.out hG')
   clear hB' hG' hur hu hkv hk
   go_wp2_with fail
   go_roundw
   case rel => exact ⟨k + 1, vs.set k (u.setP k), l'.set k (prSet u.r k), by omega, by go_num, HNB, HNK, HNG⟩
   case measure => simp [intOf]; omega
  ·have t1 : decide (k < N) = false := by simpa using hlt
   obtain rfl : k = N := by omega
   have HCM := Lib.hid (calm_mk HM.out (by rw [HN.out]; exact HK.out))
   have HLN : Hid (l'.length = k) := Lib.hid (HK.out.1.trans HN.out)
   clear hk hlt
   go_wp2_with fail
   go_ret
   exact ⟨l', vs, g, c, d, HCM.out.1, HCM.out.2, by rw [HLN.out]; rfl, HB.out, ext_fresh HE1.out HG.out HG0.out⟩
end Go.Proofs.YtmiencglfhpmeaaGreatDoor
