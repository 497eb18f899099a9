/- The contract of the law's cut. -/
import Derived.Test.YtggkkjnfonbpkaaGreatDoorQEf

set_option linter.unusedSimpArgs false
set_option linter.unusedVariables false
namespace Go.Proofs.YtggkkjnfonbpkaaGreatDoor
open Go.RowKit Hach

def InI (n : Int) : Prop := -9223372036854775808 ≤ n ∧ n ≤ 9223372036854775807
/- whatever came in -/
mutual
def Ex.raw : Ex → Prop
  | .mk op var ty n _ s l => InI op ∧ InI var ∧ InI ty ∧ InI n ∧ s.length < 9223372036854775808 ∧ l.length < 9223372036854775808 ∧ Ex.raws l
def Ex.raws : List Ex → Prop
  | [] => True
  | e :: l => e.raw ∧ Ex.raws l
end
/- what is small enough -/
mutual
def Ex.fit : Ex → Prop
  | .mk op var ty n _ s l => InI op ∧ InI var ∧ InI ty ∧ InI n ∧ s.length ≤ 30 ∧ Ex.fits l
def Ex.fits : List Ex → Prop
  | [] => True
  | e :: l => e.fit ∧ Ex.fits l
end
theorem Ex.raws_mem {x : Ex} : ∀ {l : List Ex}, Ex.raws l → x ∈ l → x.raw
  | e :: l, h, hx => by
    rcases List.mem_cons.1 hx with rfl | hx
    · exact h.1
    · exact Ex.raws_mem h.2 hx
theorem Ex.fits_of {l : List Ex} : (∀ x ∈ l, x.fit) → Ex.fits l := by
  induction l with
  | nil => intro _; trivial
  | cons e l ih => intro h; exact ⟨h e List.mem_cons_self, ih fun x hx => h x (List.mem_cons_of_mem _ hx)⟩
theorem Ex.fits_mem {x : Ex} : ∀ {l : List Ex}, Ex.fits l → x ∈ l → x.fit
  | e :: l, h, hx => by
    rcases List.mem_cons.1 hx with rfl | hx
    · exact h.1
    · exact Ex.fits_mem h.2 hx
def cutSize : Nat → Nat
  | 0 => 1
  | k + 1 => 1 + 4 * cutSize k
theorem sizes_bound {l : List Ex} {n m : Nat} (h : ∀ x ∈ l, x.size ≤ m) (hl : l.length ≤ n) : Ex.sizes l ≤ n * m := by
  induction l generalizing n with
  | nil => simp [Ex.sizes]
  | cons e l ih =>
    obtain ⟨k, rfl⟩ : ∃ k, n = k + 1 := ⟨n - 1, by simp at hl; omega⟩
    have h1 := h e List.mem_cons_self
    have h2 := ih (n := k) (fun x hx => h x (List.mem_cons_of_mem _ hx)) (by simpa using hl)
    simp only [Ex.sizes, Nat.add_mul, Nat.one_mul]; omega
theorem take_cut (s : List UInt8) (k : Nat) : (⟨s.toArray⟩ : ByteArray).extract 0 (min (⟨s.toArray⟩ : ByteArray).size k) = ⟨(s.take k).toArray⟩ := by
  have hs : (⟨s.toArray⟩ : ByteArray).size = s.length := by show s.toArray.size = _; simp
  rw [hs]
  have e : ∀ m, (⟨s.toArray⟩ : ByteArray).extract 0 m = ⟨(s.take m).toArray⟩ := fun m => by
    have : ((⟨s.toArray⟩ : ByteArray).extract 0 m).data = (s.take m).toArray := by rw [ByteArray.data_extract]; simp
    rw [← this]
  rw [e]
  congr 2
  rcases Nat.le_total s.length k with h | h
  · rw [Nat.min_eq_left h, List.take_of_length_le (Nat.le_refl _), List.take_of_length_le h]
  · rw [Nat.min_eq_right h]
theorem Kids.app {W wb : World} {B : Nat} {v v1 : Value} {d : Nat} {us : List Nd} {nd : Nd} {lo : Nat} (hK : Kids W (SO B W v) d us) (hk : ExL W (fun b => lo ≤ b ∧ b < W.heap.size) d nd.A nd.x.l) (hlo : B ≤ lo) (hv : ∀ b, v.ownBlock = some b → b < lo) (hg : W.grownBy wb v.ownBlock) (hn : v1.ownBlock = v.ownBlock ∨ v1.ownBlock = some W.heap.size) :
    Kids wb (SO B wb v1) d (us ++ [nd]) := by
  have hsz := hg.size
  have key : ∀ b, B ≤ b → b < W.heap.size → v.ownBlock ≠ some b → (∀ o', wb.cell? ⟨b, o', none⟩ = W.cell? ⟨b, o', none⟩) ∧ SO B wb v1 b := fun b h1 h2 h3 => ⟨fun o' => grown_cell hg h2 h3 o', h1, by omega, fun e => by
    rcases hn with h | h
    · exact h3 (h ▸ e)
    · rw [h] at e; simp only [Option.some.injEq] at e; omega⟩
  refine Kids.snoc (Kids.more (Kids.keep hK fun b hb o' => (key b hb.1 hb.2.1 hb.2.2).1 o') fun b hb => (key b hb.1 hb.2.1 hb.2.2).2) ?_
  have h4 : ∀ b, lo ≤ b → v.ownBlock ≠ some b := fun b h e => by have := hv b e; omega
  exact (hk.keep fun b hb o' => (key b (by omega) hb.2 (h4 b hb.1)).1 o').more fun b hb => (key b (by omega) hb.2 (h4 b hb.1)).2
theorem Kids.ext {w w' : World} {B d : Nat} {v : Value} {us : List Nd} (h : Kids w (SO B w v) d us) (hE : Ext w w') : Kids w' (SO B w' v) d us :=
  (h.keep fun b hb o => hE.old (p := ⟨b, o, none⟩) hb.2.1).more fun b hb => ⟨hb.1, Nat.lt_of_lt_of_le hb.2.1 hE.sz, hb.2.2⟩
theorem fresh_ext {w w' : World} {lo d : Nat} {A : Option Addr} {l : List Ex} (h : ExL w (fun b => lo ≤ b ∧ b < w.heap.size) d A l) (hE : Ext w w') : ExL w' (fun b => lo ≤ b ∧ b < w'.heap.size) d A l :=
  (h.keep fun b hb o => hE.old (p := ⟨b, o, none⟩) hb.2).more fun b hb => ⟨hb.1, Nat.lt_of_lt_of_le hb.2 hE.sz⟩
theorem InBlk.new2 (w : World) (x : Ex) (A : Option Addr) (c : Nat) : InBlk (w.alloc (.cells (x.cells A c).toArray 29)) w.heap.size x (.slice A x.l.length c) := InBlk.new w x _

/- what comes back: an expression of at most so many levels -/
def MadeE (dp N : Nat) (w : World) (r : Ending) (w' : World) : Prop := ∃ (e' : Ex) (A' : Option Addr) (c' : Nat), r = .returned (.agg #[.int .i64 e'.op, .int .i64 e'.var, .int .i64 e'.ty, .int .i64 e'.n, .bool e'.b, .string ⟨e'.s.toArray⟩, .slice A' e'.l.length c']) ∧ ExL w' (fun b => w.heap.size ≤ b ∧ b < w'.heap.size) dp A' e'.l ∧ e'.size ≤ N ∧ e'.fit ∧ Ext w w'
theorem cut_fin {w w3 wr : World} {e : Ex} {A1 : Option Addr} {c1 k dp : Nat} {us : List Nd} {tmps : Array Value} (S : ByteArray) (hS : ∃ s' : List UInt8, S = ⟨s'.toArray⟩ ∧ s'.length ≤ 30) (hints : InI e.op ∧ InI e.var ∧ InI e.ty ∧ InI e.n) (hE3 : Ext w w3) (hsz3 : w3.heap.size = w.heap.size + 2) (hul : us.length = k) (hk4 : k ≤ 4) (hO : OwnN wr (w.heap.size + 2) (.slice A1 k c1) us) (hK : Kids wr (SO (w.heap.size + 2) wr (.slice A1 k c1)) (dp - 1) us) (hF : ∀ u ∈ us, u.x.size ≤ cutSize (dp - 1) ∧ u.x.fit)
    (hd : 0 < dp ∨ us = []) (hB : Below (w.heap.size + 2) w3 wr ∨ Below w.heap.size w3 wr) (hBs : w.heap.size + 2 ≤ wr.heap.size) (hz1 : wr.heap[w.heap.size + 1]? = some (.cells zero7 29 (0, 0))) (ht : tmps.getD 4 undef = .pointer (some ⟨w.heap.size + 1, 0, none⟩)) :
    bodyPost Tryz.prog Tryz.f13 (MadeE dp (cutSize dp) w) Exit.ret ⟨tmps, []⟩ (((((((((wr.setCell ⟨w.heap.size, 6, none⟩ (.slice A1 k c1)).setCell ⟨w.heap.size, 5, none⟩ (.string S)).setCell ⟨w.heap.size + 1, 0, none⟩ (.int .i64 e.op)).setCell ⟨w.heap.size + 1, 1, none⟩ (.int .i64 e.var)).setCell ⟨w.heap.size + 1, 2, none⟩ (.int .i64 e.ty)).setCell ⟨w.heap.size + 1, 3, none⟩ (.int .i64 e.n)).setCell ⟨w.heap.size + 1, 4, none⟩ (.bool e.b)).setCell ⟨w.heap.size + 1, 5, none⟩ (.string S)).setCell ⟨w.heap.size + 1, 6, none⟩ (.slice A1 k c1)) := by
  obtain ⟨s', rfl, hs'⟩ := hS
  obtain ⟨e2, he2⟩ : ∃ e2 : Ex, e2 = .mk e.op e.var e.ty e.n e.b s' (us.map (·.x)) := ⟨_, rfl⟩
  obtain ⟨wb, hwb⟩ : ∃ wb, (wr.setCell ⟨w.heap.size, 6, none⟩ (.slice A1 k c1)).setCell ⟨w.heap.size, 5, none⟩ (.string ⟨s'.toArray⟩) = wb := ⟨_, rfl⟩
  have hg1 : wr.grownBy wb (some w.heap.size) := by rw [← hwb]; exact grown_trans (grown_set _ _ _ _) (grown_set _ _ _ _)
  have hzb : wb.heap[w.heap.size + 1]? = some (.cells zero7 29 (0, 0)) := (hg1.block _ (by omega) (by simp)).trans hz1
  have hIn := set7_in hzb e2 (.slice A1 k c1)
  have hg2 := set7_grown wb (w.heap.size + 1) e2 (.slice A1 k c1)
  have hsz2 := set7_size wb (w.heap.size + 1) e2 (.slice A1 k c1)
  have hwf : (((((((wb.setCell ⟨w.heap.size + 1, 0, none⟩ (.int .i64 e.op)).setCell ⟨w.heap.size + 1, 1, none⟩ (.int .i64 e.var)).setCell ⟨w.heap.size + 1, 2, none⟩ (.int .i64 e.ty)).setCell ⟨w.heap.size + 1, 3, none⟩ (.int .i64 e.n)).setCell ⟨w.heap.size + 1, 4, none⟩ (.bool e.b)).setCell ⟨w.heap.size + 1, 5, none⟩ (.string ⟨s'.toArray⟩)).setCell ⟨w.heap.size + 1, 6, none⟩ (.slice A1 k c1)) = set7 wb (w.heap.size + 1) e2 (.slice A1 k c1) := by subst he2; rfl
  rw [hwb, hwf]
  generalize set7 wb (w.heap.size + 1) e2 (.slice A1 k c1) = wf at hIn hg2 hsz2 ⊢
  have hzw := hg1.size
  have hE : Ext w wf := by
    have h0 : Below w.heap.size w3 wr := by
      rcases hB with h | h
      · exact h.mono (by omega)
      · exact h
    exact Below.trans (Below.trans (Below.trans hE3 h0) (below_row' hg1 (by omega) (by simp))) (below_row' hg2 (by omega) (by simp))
  have hsz : wr.heap.size ≤ wf.heap.size := by have := hg2.size; omega
  have hkids : ExL wf (fun b => w.heap.size ≤ b ∧ b < wf.heap.size) dp A1 (us.map (·.x)) := by
    rcases hd with hd | hd
    · obtain ⟨hLs, _⟩ := OwnN.list (S := fun b => w.heap.size + 2 ≤ b ∧ b < wr.heap.size) hO (hK.more fun b hb => ⟨hb.1, hb.2.1⟩) (fun b h1 h2 => ⟨h1, h2⟩)
      rw [show dp = dp - 1 + 1 by omega]
      refine (hLs.keep fun b hb o => (grown_cell hg2 (b := b) (by omega) (by simp; omega) o).trans (grown_cell hg1 hb.2 (by simp; omega) o)).more fun b hb => ⟨by omega, by omega⟩
    · subst hd; exact ExL.nil _ _ _ _
  have hl2 : e2.l.length = k := by subst he2; show (us.map (·.x)).length = k; rw [List.length_map]; exact hul
  refine bodyPost_ret (results_blk rfl hIn _ ht) rfl ⟨e2, A1, c1, by rw [hl2], ?_, ?_, ?_, hE⟩
  · subst he2; exact hkids
  · have h1 : Ex.sizes (us.map (·.x)) ≤ 4 * cutSize (dp - 1) := sizes_bound (fun x hx => by
      obtain ⟨u, hu, rfl⟩ := List.mem_map.1 hx
      exact (hF u hu).1) (by rw [List.length_map]; omega)
    have h2 : e2.size = 1 + Ex.sizes (us.map (·.x)) := by subst he2; rfl
    rcases hd with hd | hd
    · rw [show dp = dp - 1 + 1 by omega, cutSize]; omega
    · subst hd
      have h3 : 1 ≤ cutSize dp := by cases dp <;> simp [cutSize]
      rw [h2]; simpa [Ex.sizes] using h3
  · subst he2
    exact ⟨hints.1, hints.2.1, hints.2.2.1, hints.2.2.2, hs', Ex.fits_of fun x hx => by
      obtain ⟨u, hu, rfl⟩ := List.mem_map.1 hx
      exact (hF u hu).2⟩
theorem full_txt (sv : ByteArray) (h : sv.size ≤ 30) : ∃ s' : List UInt8, sv = ⟨s'.toArray⟩ ∧ s'.length ≤ 30 := ⟨sv.data.toList, by rw [Array.toArray_toList], by rw [Array.length_toList]; exact h⟩
set_option maxRecDepth 100000 in
set_option maxHeartbeats 4000000 in
theorem cut_any (dp : Nat) : ∀ (e : Ex) (d : Nat) (A : Option Addr) (c : Nat) (q : Int) (w : World), q = (dp : Nat) → dp ≤ 4 → ExB w w.heap.size d A e.l → e.raw →
    Calls Tryz.prog 13 #[.agg (e.cells A c).toArray, .int .i64 q] w (MadeE dp (cutSize dp) w) := by
  induction dp with
  | zero =>
    intro e d A c q w hq hdp hX hraw
    obtain ⟨w3, hw3⟩ : ∃ w3, (w.alloc (.cells (e.cells A c).toArray 29)).alloc (.cells zero7 29) = w3 := ⟨_, rfl⟩
    have hsz3 : w3.heap.size = w.heap.size + 2 := by rw [← hw3]; simp
    have hE3 : Ext w w3 := by rw [← hw3]; exact (Ext.alloc _ _).trans (Ext.alloc _ _)
    have hbox : InBlk w3 w.heap.size e (.slice A e.l.length c) := by rw [← hw3]; exact (InBlk.new2 w e A c).ext (Ext.alloc _ _)
    have hzero : w3.heap[w.heap.size + 1]? = some (.cells zero7 29 (0, 0)) := by
      rw [← hw3]
      have h1 := Go.heap_alloc_new (w.alloc (.cells (e.cells A c).toArray 29)) (.cells zero7 29)
      rw [World.size_alloc] at h1
      exact h1
    have hll : e.l.length < 9223372036854775808 ∧ Ex.raws e.l ∧ e.s.length < 9223372036854775808 ∧ (InI e.op ∧ InI e.var ∧ InI e.ty ∧ InI e.n) := by
      obtain ⟨op, var, ty, n, b, s, l⟩ := e
      obtain ⟨h1, h2, h3, h4, h5, h6, h7⟩ := hraw
      exact ⟨h6, h7, h5, h1, h2, h3, h4⟩
    obtain ⟨hl63, hraws, hs63, hints⟩ := hll
    obtain rfl : q = 0 := by simpa using hq
    unfold Ex.cells at hw3 ⊢
    unfold zero7 at hw3
    have HW3 := Lib.hid hw3
    have HZ3 := Lib.hid hsz3
    clear hw3 hsz3 hq
    obtain ⟨q0, q1, q2, q3, q4, q5, q6⟩ := hbox.cells
    have fz : ∀ o, w3.frozen? ⟨w.heap.size + 1, o, none⟩ = false := fun o => by simp [World.frozen?, hzero]
    have zc : ∀ o, w3.cell? ⟨w.heap.size + 1, o, none⟩ = zero7[o]? := fun o => by simp [World.cell?, hzero]
    have fb : ∀ o, w3.frozen? ⟨w.heap.size, o, none⟩ = false := hbox.free
    have fb5 := fb 5
    have fb6 := fb 6
    have z0 := zc 0
    have z1 := zc 1
    have z2 := zc 2
    have z3 := zc 3
    have z4 := zc 4
    have z5 := zc 5
    have z6 := zc 6
    have f0 := fz 0
    have f1 := fz 1
    have f2 := fz 2
    have f3 := fz 3
    have f4 := fz 4
    have f5 := fz 5
    have f6 := fz 6
    simp only [zero7] at z0 z1 z2 z3 z4 z5 z6
    obtain ⟨sv, hsv⟩ : ∃ sv : ByteArray, (⟨e.s.toArray⟩ : ByteArray) = sv := ⟨_, rfl⟩
    have hss : sv.size < 9223372036854775808 := by rw [← hsv]; show e.s.toArray.size < _; simpa using hs63
    rw [hsv] at q5
    have HSV := Lib.hid hsv
    have hsS : ∃ s' : List UInt8, sv.extract 0 30 = ⟨s'.toArray⟩ ∧ s'.length ≤ 30 := ⟨(sv.extract 0 30).data.toList, by rw [Array.toArray_toList], by rw [Array.length_toList]; show (sv.extract 0 30).size ≤ 30; rw [ByteArray.size_extract]; omega⟩
    have hsM : ∃ s' : List UInt8, sv.extract 0 (min (sv.size : Int) 30).toNat = ⟨s'.toArray⟩ ∧ s'.length ≤ 30 := ⟨(sv.extract 0 (min (sv.size : Int) 30).toNat).data.toList, by rw [Array.toArray_toList], by rw [Array.length_toList]; show (sv.extract 0 (min (sv.size : Int) 30).toNat).size ≤ 30; rw [ByteArray.size_extract]; omega⟩
    have HSM := Lib.hid hsM
    have HSS := Lib.hid hsS
    have HHI := Lib.hid hints
    clear hsM hsS hints fz zc fb hsv
    have hO : OwnN w3 (w.heap.size + 2) (.slice none 0 0) [] := OwnN.nil _ _
    have hK : Kids w3 (SO (w.heap.size + 2) w3 (.slice none 0 0)) (0 - 1) [] := Kids.nil _ _ _
    have hBs : w.heap.size + 2 ≤ w3.heap.size := by have := HZ3.out; omega
    go_enter Tryz.func13, Tryz.ntmps13
    go_wp2_with fail
    rw [HW3.out]
    go_loopw [5, 6] (fun lv kv wr => lv = .slice none 0 0 ∧ kv = .int .i64 0 ∧ wr = w3) (fun _ _ _ => 0)
    case atStart => exact ⟨rfl, rfl, rfl⟩
    case round =>
      obtain ⟨rfl, rfl, rfl⟩ := hrel
      by_cases hlt : 0 < e.l.length
      all_goals
        go_wp2_with fail
        all_goals first
          | exact cut_fin _ HSM.out HHI.out hE3 HZ3.out rfl (Nat.zero_le 4) hO hK (fun u h => by cases h) (.inr rfl) (.inr (Below.refl _ _)) hBs hzero rfl
          | exact cut_fin _ HSS.out HHI.out hE3 HZ3.out rfl (Nat.zero_le 4) hO hK (fun u h => by cases h) (.inr rfl) (.inr (Below.refl _ _)) hBs hzero rfl
          | exact cut_fin _ (full_txt sv (by omega)) HHI.out hE3 HZ3.out rfl (Nat.zero_le 4) hO hK (fun u h => by cases h) (.inr rfl) (.inr (Below.refl _ _)) hBs hzero rfl
          | assumption
  | succ dp ih =>
    intro e d A c q w hq hdp hX hraw
    obtain ⟨w3, hw3⟩ : ∃ w3, (w.alloc (.cells (e.cells A c).toArray 29)).alloc (.cells zero7 29) = w3 := ⟨_, rfl⟩
    have hsz3 : w3.heap.size = w.heap.size + 2 := by rw [← hw3]; simp
    have hE3 : Ext w w3 := by rw [← hw3]; exact (Ext.alloc _ _).trans (Ext.alloc _ _)
    have hbox : InBlk w3 w.heap.size e (.slice A e.l.length c) := by rw [← hw3]; exact (InBlk.new2 w e A c).ext (Ext.alloc _ _)
    have hzero : w3.heap[w.heap.size + 1]? = some (.cells zero7 29 (0, 0)) := by
      rw [← hw3]
      have h1 := Go.heap_alloc_new (w.alloc (.cells (e.cells A c).toArray 29)) (.cells zero7 29)
      rw [World.size_alloc] at h1
      exact h1
    have hll : e.l.length < 9223372036854775808 ∧ Ex.raws e.l ∧ e.s.length < 9223372036854775808 ∧ (InI e.op ∧ InI e.var ∧ InI e.ty ∧ InI e.n) := by
      obtain ⟨op, var, ty, n, b, s, l⟩ := e
      obtain ⟨h1, h2, h3, h4, h5, h6, h7⟩ := hraw
      exact ⟨h6, h7, h5, h1, h2, h3, h4⟩
    obtain ⟨hl63, hraws, hs63, hints⟩ := hll
    have hq0 : 0 < q := by omega
    have hq4 : q ≤ 4 := by omega
    have HQ := Lib.hid hq
    unfold Ex.cells at hw3 ⊢
    unfold zero7 at hw3
    have HW3 := Lib.hid hw3
    have HZ3 := Lib.hid hsz3
    clear hw3 hsz3 hq
    have tq : decide (0 < q) = true := by simpa using hq0
    go_enter Tryz.func13, Tryz.ntmps13
    go_wp2_with fail
    rw [HW3.out]
    go_loopw [5, 6] (fun lv kv wr => ∃ (k : Nat) (us : List Nd), k ≤ e.l.length ∧ k ≤ 4 ∧ kv = .int .i64 k ∧ us.length = k ∧ OwnN wr (w.heap.size + 2) lv us ∧ Kids wr (SO (w.heap.size + 2) wr lv) dp us ∧ (∀ u ∈ us, u.x.size ≤ cutSize dp ∧ u.x.fit) ∧ Below (w.heap.size + 2) w3 wr ∧ w.heap.size + 2 ≤ wr.heap.size) (fun _ kv _ => e.l.length - (intOf kv).toNat)
    case atStart => exact ⟨0, [], Nat.zero_le _, Nat.zero_le _, rfl, rfl, OwnN.nil _ _, Kids.nil _ _ _, (fun u h => by cases h), Below.refl _ _, by have := HZ3.out; omega⟩
    case round =>
      obtain ⟨k, us, hkl, hk4, rfl, hul, hO, hK, hF, hB, hBs⟩ := hrel
      obtain ⟨A1, c1, hv1, _⟩ := OwnN.form hO
      rw [hul] at hv1
      subst hv1
      have hbk : InBlk wr w.heap.size e (.slice A e.l.length c) := (hB.block _ (by omega)).trans hbox
      obtain ⟨q0, q1, q2, q3, q4, q5, q6⟩ := hbk.cells
      by_cases hlt : k < e.l.length ∧ k < 4
      · obtain ⟨hlt, hlt4⟩ := hlt
        have hXr : ExB wr w.heap.size d A e.l := hX.keep fun b hb o => ((hB.mono (by omega)).cell (p := ⟨b, o, none⟩) hb).trans (hE3.old (p := ⟨b, o, none⟩) hb)
        obtain ⟨b, o, A', c', d', hd, rfl, hb, hX', hOne⟩ := hXr.at_ hlt
        obtain ⟨r0, r1, r2, r3, r4, r5, r6⟩ := hOne
        have hrx := Ex.raws_mem hraws (List.getElem_mem hlt)
        have tk : decide (k < e.l.length) = true := by simp; omega
        have t4 : decide ((k : Int) < 4) = true := by simp; omega
        generalize e.l[k] = x at r0 r1 r2 r3 r4 r5 r6 hX' hrx
        have IH := fun (W : World) (h : ExB W W.heap.size d' A' x.l) => ih x d' A' c' (q - 1) W (by have := HQ.out; omega) (by omega) h hrx
        simp only [Ex.cells] at IH
        have HIH := Lib.hid IH
        have HUL := Lib.hid hul
        have HD := Lib.hid hd
        clear IH hul hd
        go_wp2_with fail
        refine (HIH.out wr (hX'.up (by omega))).mono ?_
        rintro r W ⟨x', A8, c8, rfl, hX8, hsx, hfx, hEw⟩
        have hOW := hO.ext hEw
        have hKW : Kids W (SO (w.heap.size + 2) W (.slice A1 k c1)) dp us := (hK.keep fun b hb o => hEw.old (p := ⟨b, o, none⟩) hb.2.1).more fun b hb => ⟨hb.1, Nat.lt_of_lt_of_le hb.2.1 hEw.sz, hb.2.2⟩
        have hBW : Below (w.heap.size + 2) w3 W := Below.trans hB (hEw.below.mono (by omega))
        have hsW : wr.heap.size ≤ W.heap.size := hEw.sz
        have hvw : ∀ b, (Value.slice A1 k c1).ownBlock = some b → w.heap.size + 2 ≤ b ∧ b < wr.heap.size := fun b e => hO.lt b e
        have hul4 : us.length < 4294967296 := by have := HUL.out; omega
        clear hO hK hB hEw q0 q1 q2 q3 q4 q5 q6 r0 r1 r2 r3 r4 r5 r6 hbk hXr hX'
        have hcg : ∀ (i : Nat) (u : Value), (Nd.cells ⟨x', A8, c8⟩)[i]? = some u → (W.alloc (.cells #[.int .i64 x'.op, .int .i64 x'.var, .int .i64 x'.ty, .int .i64 x'.n, .bool x'.b, .string ⟨x'.s.toArray⟩, .slice A8 x'.l.length c8] 29)).cell? ⟨W.heap.size, i, none⟩ = some u := fun i u hi => by
          rw [World.cell?_alloc_new]; exact (by simpa [Nd.cells, Ex.cells] using hi)
        have HCG := Lib.hid hcg
        have hbs : w.heap.size + 2 ≤ W.heap.size := by omega
        have hbase : ∀ o : Obj, w.heap.size + 2 ≤ (W.alloc o).heap.size := fun o => by rw [World.size_alloc]; omega
        clear hcg
        go_wp2_with (at_builtin; refine app_N rfl 22 31 rfl (w.heap.size + 2) (.slice A1 k c1) us rfl (hOW.ext (Ext.alloc _ _)) W.heap.size ⟨x', A8, c8⟩ rfl HCG.out hul4 (hbase _) ?_; intro v1 wb hO1 hg1 hn1)
        have hEa : Ext W (W.alloc (.cells #[.int .i64 x'.op, .int .i64 x'.var, .int .i64 x'.ty, .int .i64 x'.n, .bool x'.b, .string ⟨x'.s.toArray⟩, .slice A8 x'.l.length c8] 29)) := Ext.alloc _ _
        go_roundw
        case rel =>
          refine ⟨k + 1, us ++ [⟨x', A8, c8⟩], by omega, by omega, by go_num, by rw [List.length_append, HUL.out]; rfl, hO1, Kids.app (hKW.ext hEa) (fresh_ext hX8 hEa) hBs (fun b e => (hvw b e).2) hg1 hn1, fun u hu => ?_, ?_, ?_⟩
          · rcases List.mem_append.1 hu with hu | hu
            · exact hF u hu
            · simp at hu; subst hu; exact ⟨hsx, hfx⟩
          · exact Below.trans (Below.trans hBW (hEa.below.mono (by omega))) (below_row' hg1 (hbase _) (fun b e => (hvw b e).1))
          · have := hg1.size; have := hEa.sz; omega
        case measure => simp [intOf]; omega
      · have hun : decide (k < e.l.length) = false ∨ decide (k < e.l.length) = true ∧ decide ((k : Int) < 4) = false := by
          by_cases h : k < e.l.length
          · right; simp; omega
          · left; simp; omega
        have hz1 : wr.heap[w.heap.size + 1]? = some (.cells zero7 29 (0, 0)) := (hB.block _ (by omega)).trans hzero
        have fz : ∀ o, wr.frozen? ⟨w.heap.size + 1, o, none⟩ = false := fun o => by simp [World.frozen?, hz1]
        have zc : ∀ o, wr.cell? ⟨w.heap.size + 1, o, none⟩ = zero7[o]? := fun o => by simp [World.cell?, hz1]
        have fb : ∀ o, wr.frozen? ⟨w.heap.size, o, none⟩ = false := hbk.free
        have fb5 := fb 5
        have fb6 := fb 6
        have z0 := zc 0
        have z1 := zc 1
        have z2 := zc 2
        have z3 := zc 3
        have z4 := zc 4
        have z5 := zc 5
        have z6 := zc 6
        have f0 := fz 0
        have f1 := fz 1
        have f2 := fz 2
        have f3 := fz 3
        have f4 := fz 4
        have f5 := fz 5
        have f6 := fz 6
        simp only [zero7] at z0 z1 z2 z3 z4 z5 z6
        have htk := take_cut e.s 30
        obtain ⟨sv, hsv⟩ : ∃ sv : ByteArray, (⟨e.s.toArray⟩ : ByteArray) = sv := ⟨_, rfl⟩
        have hss : sv.size < 9223372036854775808 := by rw [← hsv]; show e.s.toArray.size < _; simpa using hs63
        rw [hsv] at htk q5
        have HTK := Lib.hid htk
        have HSV := Lib.hid hsv
        have HUL := Lib.hid hul
        clear fz zc fb htk hsv hlt hul
        have hsS : ∃ s' : List UInt8, sv.extract 0 30 = ⟨s'.toArray⟩ ∧ s'.length ≤ 30 := ⟨(sv.extract 0 30).data.toList, by rw [Array.toArray_toList], by rw [Array.length_toList]; show (sv.extract 0 30).size ≤ 30; rw [ByteArray.size_extract]; omega⟩
        have hsM : ∃ s' : List UInt8, sv.extract 0 (min (sv.size : Int) 30).toNat = ⟨s'.toArray⟩ ∧ s'.length ≤ 30 := ⟨(sv.extract 0 (min (sv.size : Int) 30).toNat).data.toList, by rw [Array.toArray_toList], by rw [Array.length_toList]; show (sv.extract 0 (min (sv.size : Int) 30).toNat).size ≤ 30; rw [ByteArray.size_extract]; omega⟩
        have HSM := Lib.hid hsM
        have HSS := Lib.hid hsS
        have HFF := Lib.hid hF
        have HHI := Lib.hid hints
        clear hsM hsS hF hints
        rcases hun with t1 | ⟨t1, t4⟩
        all_goals
          go_wp2_with fail
          all_goals first
            | exact cut_fin _ HSM.out HHI.out hE3 HZ3.out HUL.out hk4 hO (by simpa using hK) (by simpa using HFF.out) (.inl (Nat.succ_pos _)) (.inl hB) hBs hz1 rfl
            | exact cut_fin _ HSS.out HHI.out hE3 HZ3.out HUL.out hk4 hO (by simpa using hK) (by simpa using HFF.out) (.inl (Nat.succ_pos _)) (.inl hB) hBs hz1 rfl
            | exact cut_fin _ (full_txt sv (by omega)) HHI.out hE3 HZ3.out HUL.out hk4 hO (by simpa using hK) (by simpa using HFF.out) (.inl (Nat.succ_pos _)) (.inl hB) hBs hz1 rfl
            | assumption
end Go.Proofs.YtggkkjnfonbpkaaGreatDoor
