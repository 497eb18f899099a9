/- Two disks that answer alike: plain. -/
import Derived.Test.YthppcmejffdicaaGreatDoorQKh

set_option linter.unusedSimpArgs false
set_option linter.unusedVariables false
namespace Go.Proofs.YthppcmejffdicaaGreatDoor
open Go.RowKit Hach Num Jn

/- alike, but for a count that plays no part -/
structure Sim (d e : Dk) : Prop where
  text : e.text = d.text
  pend : e.pend = d.pend
  off : e.off = d.off
  counts : e.counts = d.counts
  after : d.counts = true → e.after = d.after
theorem Sim.refl (d : Dk) : Sim d d := ⟨rfl, rfl, rfl, rfl, fun _ => rfl⟩
theorem Sim.works {d e : Dk} (h : Sim d e) : e.works.1 = d.works.1 ∧ Sim d.works.2 e.works.2 := by
  obtain ⟨t, p, o, c, a⟩ := d
  obtain ⟨t', p', o', c', a'⟩ := e
  obtain ⟨h1, h2, h3, h4, h5⟩ := h
  simp only at h1 h2 h3 h4 h5
  subst h1; subst h2; subst h3; subst h4
  unfold Dk.works
  cases o'
  · cases c'
    · exact ⟨rfl, ⟨rfl, rfl, rfl, rfl, fun h => by cases h⟩⟩
    · have ha := h5 rfl
      subst ha
      by_cases hz : a' = 0
      · simp only [hz, if_true, Bool.false_eq_true, if_false]; exact ⟨trivial, Sim.refl _⟩
      · simp only [hz, if_true, Bool.false_eq_true, if_false]; exact ⟨trivial, Sim.refl _⟩
  · exact ⟨rfl, ⟨rfl, rfl, rfl, rfl, h5⟩⟩
theorem Sim.write {d e : Dk} (h : Sim d e) (s : List UInt8) : (e.write s).1 = (d.write s).1 ∧ Sim (d.write s).2 (e.write s).2 := by
  obtain ⟨h1, h2⟩ := h.works
  unfold Dk.write
  rw [h1]
  split
  · exact ⟨rfl, ⟨by simp [h2.text], by simp [h2.pend], h2.off, h2.counts, h2.after⟩⟩
  · exact ⟨rfl, h2⟩
theorem Sim.sync {d e : Dk} (h : Sim d e) : e.sync.1 = d.sync.1 ∧ Sim d.sync.2 e.sync.2 := by
  obtain ⟨h1, h2⟩ := h.works
  unfold Dk.sync
  rw [h1]
  split
  · exact ⟨rfl, ⟨h2.text, rfl, h2.off, h2.counts, h2.after⟩⟩
  · exact ⟨rfl, h2⟩
theorem Sim.put {d e : Dk} (h : Sim d e) (s : List UInt8) : (e.put s).1 = (d.put s).1 ∧ Sim (d.put s).2 (e.put s).2 := by
  obtain ⟨h1, h2⟩ := h.write s
  unfold Dk.put
  rw [h1]
  split
  · exact h2.sync
  · exact ⟨rfl, h2⟩
theorem Sim.fail {d e : Dk} (h : Sim d e) (n : Int) : Sim (d.fail n) (e.fail n) := ⟨h.text, h.pend, h.off, rfl, fun _ => rfl⟩
theorem Sim.crash {d e : Dk} (h : Sim d e) (k : Nat) : Sim (d.crash k) { e.crash k with after := e.after } :=
  ⟨by unfold Dk.crash; simp only [h.text, h.pend], rfl, rfl, rfl, fun h => by cases h⟩
theorem Sim.open_ {d e : Dk} (h : Sim d e) : e.open_.1 = d.open_.1 ∧ Sim d.open_.2 e.open_.2 := by
  unfold Dk.open_
  rw [h.off, h.text]
  split
  · exact ⟨rfl, h⟩
  · split
    · exact ⟨rfl, h⟩
    · exact h.put [10]
theorem Sim.app {d e : Dk} (h : Sim d e) (n : Nat) (br : Bool) (l : List UInt8) : (appRes e n br l).1 = (appRes d n br l).1 ∧ (appRes e n br l).2.2 = (appRes d n br l).2.2 ∧ Sim (appRes d n br l).2.1 (appRes e n br l).2.1 := by
  unfold appRes
  rw [h.text]
  obtain ⟨h1, h2⟩ := h.put l
  rw [h1]
  split
  · exact ⟨rfl, rfl, h⟩
  · split
    · exact ⟨rfl, rfl, h⟩
    · split
      · exact ⟨rfl, rfl, h2⟩
      · exact ⟨rfl, rfl, h2⟩
theorem crash_ok2 {d : Dk} (h : DkOk d) (k : Nat) : DkOk { d.crash k with after := d.after } := by
  have hc := crash_ok h k
  exact ⟨hc.pend, hc.text, h.lo, h.hi, fun e => by cases e⟩
theorem app_ok {d : Dk} (h : DkOk d) (n : Nat) (br : Bool) (l : List UInt8) (hl : d.text.length + l.length < 281474976710656) : DkOk (appRes d n br l).2.1 := by
  unfold appRes
  split
  · exact h
  · split
    · exact h
    · split
      · exact put_ok h hl
      · exact put_ok h hl
theorem write_le (d : Dk) (s : List UInt8) : (d.write s).2.text.length ≤ d.text.length + s.length := by
  obtain ⟨t1, _, _⟩ := works_cases d
  unfold Dk.write
  split
  · simp [t1]
  · rw [t1]; omega
theorem sync_le (d : Dk) : d.sync.2.text.length ≤ d.text.length := by
  obtain ⟨t1, _, _⟩ := works_cases d
  unfold Dk.sync
  split
  · simp [t1]
  · rw [t1]; omega
theorem app_le (d : Dk) (n : Nat) (br : Bool) (l : List UInt8) : (appRes d n br l).2.1.text.length ≤ d.text.length + l.length ∧ (appRes d n br l).2.2.1 ≤ n + 1 := by
  have := put_le d l
  unfold appRes
  split
  · exact ⟨Nat.le_add_right _ _, Nat.le_succ _⟩
  · split
    · exact ⟨Nat.le_add_right _ _, Nat.le_succ _⟩
    · split
      · exact ⟨this, Nat.le_refl _⟩
      · exact ⟨this, Nat.le_succ _⟩
theorem recs_le (s : List UInt8) : (recs s).length ≤ s.length := recs_count _ s (Nat.le_refl _)

theorem OwnT.kb1 {S : List Nat} {w w' : World} {B : Nat} {v : Value} {xs : List (List UInt8)} (h : OwnT w B v xs) (hK : KB S w w') (hS : ∀ k, v.ownBlock = some k → k ∉ S) : OwnT w' B v xs := by
  refine ⟨h.1, ?_⟩
  rcases h.2 with hn | ⟨g, cap, cur, e, hg, hc, r⟩
  · exact .inl hn
  · exact .inr ⟨g, cap, cur, e, hg, (hK.block g (Array.getElem?_eq_some_iff.1 hc).1 (hS g (by rw [e]; rfl))).trans hc, r⟩
/- two disks and, where there are any, two logs: in memory -/
structure Two (w : World) (bd be : Nat) (d e : Dk) (N : Nat) : Prop where
  dk : DkAt 65 w bd d
  dr : DkAt 68 w be e
  sim : Sim d e
  okd : DkOk d
  oke : DkOk e
  lt : bd < be
  b6 : 6 ≤ bd
  len : d.text.length ≤ N
  tabs : Tabs w
def Logs (w : World) (bd be N : Nat) (a b : Value) : Prop := (a = .pointer none ∧ b = .pointer none) ∨
  ∃ ga gb n br, a = .pointer (some ⟨ga, 0, none⟩) ∧ b = .pointer (some ⟨gb, 0, none⟩) ∧ be < ga ∧ ga < gb ∧ n ≤ N ∧ LgAt 62 w ga (some bd) n br ∧ LgAt 75 w gb (some be) n br
theorem Two.more {w : World} {bd be N M : Nat} {d e : Dk} (h : Two w bd be d e N) (hN : N ≤ M) : Two w bd be d e M := ⟨h.dk, h.dr, h.sim, h.okd, h.oke, h.lt, h.b6, Nat.le_trans h.len hN, h.tabs⟩
theorem Logs.more {w : World} {bd be N M : Nat} {a b : Value} (h : Logs w bd be N a b) (hN : N ≤ M) : Logs w bd be M a b := by
  rcases h with h | ⟨ga, gb, n, br, h1, h2, h3, h4, h5, h6, h7⟩
  · exact .inl h
  · exact .inr ⟨ga, gb, n, br, h1, h2, h3, h4, Nat.le_trans h5 hN, h6, h7⟩
theorem Two.step {W W1 W2 : World} {bd be N M : Nat} {d e d' e' : Dk} (h : Two W bd be d e N) (g1 : W.grownBy W1 (some bd)) (D1 : DkAt 65 W1 bd d') (g2 : W1.grownBy W2 (some be)) (D2 : DkAt 68 W2 be e') (hs : Sim d' e') (h1 : DkOk d') (h2 : DkOk e') (hl : d'.text.length ≤ M) : Two W2 bd be d' e' M ∧ KB [bd, be] W W2 := by
  have hK : KB [bd, be] W W2 := (KB.grown g1 (by simp)).trans (KB.grown g2 (by simp))
  have := h.lt
  have := h.b6
  exact ⟨⟨D1.own g2 (by simp; omega), D2, hs, h1, h2, h.lt, h.b6, hl, h.tabs.kb hK (by simp; omega)⟩, hK⟩
theorem Two.ext {w w' : World} {bd be N : Nat} {d e : Dk} (h : Two w bd be d e N) (hE : Ext w w') : Two w' bd be d e N := ⟨h.dk.ext hE, h.dr.ext hE, h.sim, h.okd, h.oke, h.lt, h.b6, h.len, h.tabs.ext hE⟩
theorem Logs.ext {w w' : World} {bd be N : Nat} {a b : Value} (h : Logs w bd be N a b) (hE : Ext w w') : Logs w' bd be N a b := by
  rcases h with h | ⟨ga, gb, n, br, h1, h2, h3, h4, h5, h6, h7⟩
  · exact .inl h
  · exact .inr ⟨ga, gb, n, br, h1, h2, h3, h4, h5, h6.ext hE, h7.ext hE⟩
theorem Logs.kb {w w' : World} {bd be N : Nat} {a b : Value} (h : Logs w bd be N a b) {S : List Nat} (hK : KB S w w') (hS : ∀ k ∈ S, k ≤ be) : Logs w' bd be N a b := by
  rcases h with h | ⟨ga, gb, n, br, h1, h2, h3, h4, h5, h6, h7⟩
  · exact .inl h
  · exact .inr ⟨ga, gb, n, br, h1, h2, h3, h4, h5, hK.lg h6 fun hm => by have := hS _ hm; omega, hK.lg h7 fun hm => by have := hS _ hm; omega⟩

theorem opText_any (k n : Int) (s : List UInt8) (w : World) (hs : s.length < 9223372036854775808) : Calls Tryz.prog 12 #[.agg #[.int .u8 k, .int .u8 n, .string ⟨s.toArray⟩]] w fun e w' => e = .returned (.string ⟨(s.take 20).toArray⟩) ∧ Ext w w' := by
  have htk := take_min s 20
  have hsv := toArr_size s
  obtain ⟨sv, hsve⟩ : ∃ sv : ByteArray, (⟨s.toArray⟩ : ByteArray) = sv := ⟨_, rfl⟩
  rw [hsve] at htk hsv ⊢
  have HTK := Lib.hid htk
  have hsv2 : sv.size < 9223372036854775808 := by omega
  have HSV := Lib.hid hsv
  clear hsve htk hsv
  go_enter Tryz.func12, Tryz.ntmps12
  go_wp2_with fail
  go_ret
  refine ⟨?_, Ext.alloc _ _⟩
  rw [← HTK.out, ← HSV.out, show (min (sv.size : Int) 20).toNat = min sv.size 20 by omega]; rfl
theorem mod_any (n m : Int) (w : World) (h0 : 0 ≤ n) (hn : n < 4294967296) (h1 : 0 < m) (hm : m < 4294967296) : Calls Tryz.prog 38 #[.int .i64 n, .int .i64 m] w fun e w' => e = .returned (.int .i64 (n % m)) ∧ w' = w := by
  have b1 := Int.emod_nonneg n (b := m) (by omega)
  have b2 := Int.emod_lt_of_pos n h1
  have hq : n.tmod m = n % m := Int.tmod_eq_emod_of_nonneg h0
  have hq2 : (n % m + m) % m = n % m := by rw [Int.add_emod_right, Int.emod_emod_of_dvd _ (Int.dvd_refl m)]
  have hq3 : (n % m + m).tmod m = n % m := by rw [Int.tmod_eq_emod_of_nonneg (by omega)]; exact hq2
  go_enter Tryz.func38, Tryz.ntmps38
  go_wp2_with fail
  go_ret
  exact ⟨by first | rfl | rw [hq2] | simp [hq2], rfl⟩
theorem opNumber_any (k : Int) (n : Nat) (s : ByteArray) (w : World) (hn : n < 256) : Calls Tryz.prog 13 #[.agg #[.int .u8 k, .int .u8 (n : Nat), .string s]] w fun e w' => e = .returned (.int .i64 ((n : Int) % 40 - 1)) ∧ Ext w w' := by
  have b1 := Int.emod_nonneg (n : Int) (b := 40) (by omega)
  have b2 := Int.emod_lt_of_pos (n : Int) (b := 40) (by omega)
  go_enter Tryz.func13, Tryz.ntmps13
  go_wp2_with fail
  refine (mod_any (n : Int) 40 _ (by omega) (by omega) (by omega) (by omega)).mono ?_
  rintro e w' ⟨rfl, rfl⟩
  go_wp2_with fail
  go_ret
  exact ⟨rfl, Ext.alloc _ _⟩
end Go.Proofs.YthppcmejffdicaaGreatDoor
