/- The contract of the reference's Odd, a part (printed by gen_if.py, split_if.py). -/
import Derived.Test.YtggkkjnfonbpkaaGreatDoorQIfp

set_option linter.unusedSimpArgs false
set_option linter.unusedVariables false
namespace Go.Proofs.YtggkkjnfonbpkaaGreatDoor
open Go.RowKit Hach

set_option maxRecDepth 100000 in
set_option maxHeartbeats 16000000 in
theorem Odd_no (N : Nat) (ih : ∀ (d : Nat) (e : Ex) (A : Option Addr) (c : Nat) (q0 q1 q2 : Int) (w : World), e.size < N → ExB w w.heap.size d A e.l → e.size < 4194304 → e.ok → Calls Tryz.prog 10 #[.agg (e.cells A c).toArray, .agg #[.int .i64 q0, .int .i64 q1, .int .i64 q2]] w (OddR e w)) (d : Nat) (e : Ex) (A : Option Addr) (c : Nat) (q0 q1 q2 : Int) (w : World) (hdown : e.size < N + 1) (hX : ExB w w.heap.size d A e.l) (hsz : e.size < 4194304) (hok : e.ok) (hcase : e.l.length = 0) :
    Calls Tryz.prog 10 #[.agg (e.cells A c).toArray, .agg #[.int .i64 q0, .int .i64 q1, .int .i64 q2]] w (OddR e w) := by
    have IH := Lib.hid ih
    clear ih
    have HDN := Lib.hid hdown
    clear hdown
    obtain ⟨op, var, ty, nn, bb, s, l⟩ := e
    have HCC := Lib.hid hcase
    clear hcase
    obtain ⟨w3, hw3⟩ : ∃ w3, ((w.alloc (.cells #[.int .i64 op, .int .i64 var, .int .i64 ty, .int .i64 nn, .bool bb, .string ⟨s.toArray⟩, .slice A l.length c] 29)).alloc (.cells #[.int .i64 q0, .int .i64 q1, .int .i64 q2] 23)).alloc (.cells zero7 29) = w3 := ⟨_, rfl⟩
    have hsz3 : w3.heap.size = w.heap.size + 3 := by rw [← hw3]; simp
    have hE3 : Ext w w3 := by rw [← hw3]; exact ((Ext.alloc _ _).trans (Ext.alloc _ _)).trans (Ext.alloc _ _)
    have hbox : Box w3 w.heap.size (.mk op var ty nn bb s l) A c := by rw [← hw3]; exact ((Box.new w (.mk op var ty nn bb s l) A c _).ext (Ext.alloc _ _)).ext (Ext.alloc _ _)
    have hq : ∀ j v, (#[.int .i64 q0, .int .i64 q1, .int .i64 q2] : Array Value)[j]? = some v → w3.cell? ⟨w.heap.size + 1, j, none⟩ = some v := fun j v hj => by
      have h1 := alloc2_cell w (.cells #[.int .i64 op, .int .i64 var, .int .i64 ty, .int .i64 nn, .bool bb, .string ⟨s.toArray⟩, .slice A l.length c] 29) #[.int .i64 q0, .int .i64 q1, .int .i64 q2] 23 j v hj
      rw [← hw3]
      exact ((Ext.alloc _ (.cells zero7 29)).old (p := ⟨w.heap.size + 1, j, none⟩) (by simp)).trans h1
    have hz3 : Z7 w3 (w.heap.size + 2) := by
      rw [← hw3]
      have h1 := Z7.new ((w.alloc (.cells #[.int .i64 op, .int .i64 var, .int .i64 ty, .int .i64 nn, .bool bb, .string ⟨s.toArray⟩, .slice A l.length c] 29)).alloc (.cells #[.int .i64 q0, .int .i64 q1, .int .i64 q2] 23))
      rw [World.size_alloc, World.size_alloc] at h1
      exact h1
    have HQ := Lib.hid hq
    have hs3 : w.heap.size + 3 ≤ w3.heap.size ∧ w3.heap.size ≤ w.heap.size + 3 := by omega
    have CP := Lib.hid (Copy2_any d (.mk op var ty nn bb s l) A c w3 (hX.ext hE3) (by omega))
    have HOK := Lib.hid hok
    unfold zero7 at hw3
    have HW3 := Lib.hid hw3
    obtain ⟨b0, b1, b2, b3, b4, b5, b6⟩ := (show Box7 w3 w.heap.size op var ty nn bb s (.slice A l.length c) from ⟨hbox.c0, hbox.c1, hbox.c2, hbox.c3, hbox.c4, hbox.c5, hbox.c6⟩)
    have e7 : (Ex.mk op var ty nn bb s l).cells A c = [.int .i64 op, .int .i64 var, .int .i64 ty, .int .i64 nn, .bool bb, .string ⟨s.toArray⟩, .slice A l.length c] := rfl
    rw [e7] at CP ⊢
    clear hw3 hsz3 hq hok hbox e7 hX
    go_enter Tryz.func10, Tryz.ntmps10
    go_upto_region 1 with fail
    rw [HW3.out]
    go_wp2_with fail
    refine CP.out.mono ?_
    rintro r w4 ⟨A4, c4, us, rfl, hus, hO4, hK4, hE4⟩
    have e7 : (Ex.mk op var ty nn bb s l).cells A4 c4 = [.int .i64 op, .int .i64 var, .int .i64 ty, .int .i64 nn, .bool bb, .string ⟨s.toArray⟩, .slice A4 l.length c4] := rfl
    rw [e7]
    change us.map (·.x) = l at hus
    change OwnN w4 w3.heap.size (.slice A4 l.length c4) us at hO4
    change Kids w4 (SO w3.heap.size w4 (.slice A4 l.length c4)) d us at hK4
    have hE5 : Ext w4 (w4.alloc (.cells #[.int .i64 op, .int .i64 var, .int .i64 ty, .int .i64 nn, .bool bb, .string ⟨s.toArray⟩, .slice A4 l.length c4] 29)) := Ext.alloc _ _
    have hI5 : InBlk (w4.alloc (.cells #[.int .i64 op, .int .i64 var, .int .i64 ty, .int .i64 nn, .bool bb, .string ⟨s.toArray⟩, .slice A4 l.length c4] 29)) w4.heap.size (.mk op var ty nn bb s l) (.slice A4 l.length c4) := InBlk.new2 w4 (.mk op var ty nn bb s l) A4 c4
    have hO5 := hO4.ext hE5
    have hK5 : Kids (w4.alloc (.cells #[.int .i64 op, .int .i64 var, .int .i64 ty, .int .i64 nn, .bool bb, .string ⟨s.toArray⟩, .slice A4 l.length c4] 29)) (fun k => w3.heap.size ≤ k ∧ k < w4.heap.size ∧ (Value.slice A4 l.length c4).ownBlock ≠ some k) d us := hK4.keep fun k hk o => hE5.old (p := ⟨k, o, none⟩) hk.2.1
    have hs34 := hE4.sz
    have hL4 : ExL w4 (fun k => w3.heap.size ≤ k ∧ k < w4.heap.size) (d + 1) A4 l := by
      have := (OwnN.list (S := fun k => w3.heap.size ≤ k ∧ k < w4.heap.size) hO4 (hK4.more fun k hk => ⟨hk.1, hk.2.1⟩) (fun k h1 h2 => ⟨h1, h2⟩)).1
      rwa [hus] at this
    have hLO := hO4.lt
    have hS5 : OddS w (w4.alloc (.cells #[.int .i64 op, .int .i64 var, .int .i64 ty, .int .i64 nn, .bool bb, .string ⟨s.toArray⟩, .slice A4 l.length c4] 29)) w4.heap.size (.mk op var ty nn bb s l) A4 c4 (d + 1) (Ex.mk op var ty nn bb s l).size :=
      ⟨hI5, (hz3.ext hE4).ext hE5, (hE3.trans hE4).trans hE5, (hL4.keep fun k hk o => hE5.old (p := ⟨k, o, none⟩) hk.2).more fun k hk => ⟨by omega, by simp; omega, by omega⟩, Nat.le_refl _, HOK.out, by omega⟩
    have p0 := ((hE4.trans hE5).old (p := ⟨w.heap.size + 1, 0, none⟩) (by show w.heap.size + 1 < _; omega)).trans (HQ.out 0 _ rfl)
    have p1 := ((hE4.trans hE5).old (p := ⟨w.heap.size + 1, 1, none⟩) (by show w.heap.size + 1 < _; omega)).trans (HQ.out 1 _ rfl)
    have p2 := ((hE4.trans hE5).old (p := ⟨w.heap.size + 1, 2, none⟩) (by show w.heap.size + 1 < _; omega)).trans (HQ.out 2 _ rfl)
    obtain ⟨w5, hw5⟩ : ∃ w5, w4.alloc (.cells #[.int .i64 op, .int .i64 var, .int .i64 ty, .int .i64 nn, .bool bb, .string ⟨s.toArray⟩, .slice A4 l.length c4] 29) = w5 := ⟨_, rfl⟩
    have hs45 : w4.heap.size < w5.heap.size := by rw [← hw5]; simp
    rw [hw5] at hS5 hO5 hK5 p0 p1 p2
    have HW5 := Lib.hid hw5
    have HUS := Lib.hid hus
    have hcap : l.length ≤ c4 := own_cap hO5
    have hsl : l.length < 4194304 := by have h1 := Ex.len_le l; have h2 := (Ex.mk op var ty nn bb s l).size_eq; simp only [Ex.l] at h2; omega
    have HSZ := Lib.hid hsz
    clear hw5 hE5 hI5 hO4 hK4 hL4 hE4 hz3 hus e7 hsz b0 b1 b2 b3 b4 b5 b6 hE3
    obtain ⟨c0, c1, c2, c3, c4', c5, c6⟩ := hS5.inb.cells'
    obtain ⟨f0, f1, f2, f3, f4, f5, f6⟩ := hS5.inb.freeAll
    simp only [Ex.l] at c6
    obtain ⟨n, hn⟩ : ∃ n, l.length = n := ⟨_, rfl⟩
    rw [hn] at c6 hsl hcap
    have HN := Lib.hid hn
    rw [hn] at hO5 hK5 hLO
    have MD := Lib.hid (fun (x m : Int) (W : World) (h1 : 0 < m) (h2 : m < 4294967296) => mod_any x m W h1 h2)
    clear hn
    go_upto_region 2 with fail
    rw [HW5.out]
    · have t1 : decide (0 < n) = false := by have h := HCC.out; rw [show (Ex.mk op var ty nn bb s l).l.length = n from HN.out] at h; simp; omega
      have HS5 := Lib.hid hS5
      obtain ⟨nv, hnv⟩ : ∃ v, rmod q2 40 = v := ⟨_, rfl⟩
      obtain ⟨kv, hkv⟩ : ∃ v, rmod q1 8 = v := ⟨_, rfl⟩
      have hn4 : 0 ≤ nv ∧ nv < 40 := by rw [← hnv]; exact rmod_bd q2 (by decide)
      have hk8 : 0 ≤ kv ∧ kv < 8 := by rw [← hkv]; exact rmod_bd q1 (by decide)
      have M2 := Lib.hid (fun (W : World) => MD.out q2 40 W (by decide) (by decide))
      have M1 := Lib.hid (fun (W : World) => MD.out q1 8 W (by decide) (by decide))
      rw [hnv] at M2
      rw [hkv] at M1
      have hn40 := hn4.1
      have hn41 := hn4.2
      clear hnv hkv hS5 hn4
      · go_wp2_with fail
        refine (M2.out _).mono ?_
        rintro r w' ⟨rfl, hw'⟩
        have hw2 := hw'.symm
        clear hw'
        subst hw2
        go_wp2_with fail
        refine (M1.out _).mono ?_
        rintro r w' ⟨rfl, hw'⟩
        have hw2 := hw'.symm
        clear hw'
        subst hw2
        rcases (by omega : kv = 0 ∨ kv = 1 ∨ kv = 2 ∨ kv = 3 ∨ kv = 4 ∨ kv = 5 ∨ kv = 6 ∨ kv = 7) with rfl | rfl | rfl | rfl | rfl | rfl | rfl | rfl
        · go_upto_region 27 with fail
          have hS6 := HS5.out.chg (grown_set w5 w4.heap.size 0 (.int .i64 (nv % 16))) (HS5.out.inb.set0 (nv % 16)) rfl (ok_mk HOK.out (by omega) HOK.out.2.1 HOK.out.2.2.1 HOK.out.2.2.2.1 HOK.out.2.2.2.2.1)
          generalize w5.setCell ⟨w4.heap.size, 0, none⟩ (.int .i64 (nv % 16)) = w6 at hS6 ⊢
          clear c0 c1 c2 c3 c4' c5 c6 f0 f1 f2 f3 f4 f5 f6
          have hSf := hS6.le (show (Ex.mk op var ty nn bb s l).size ≤ 64 * (Ex.mk op var ty nn bb s l).size + 63 by omega)
          obtain ⟨x0, x1, x2, x3, x4, x5, x6⟩ := hSf.inb.cells'
          simp only [Ex.l] at x6
          obtain ⟨⟨z0, z1, z2, z3, z4, z5, z6⟩, y0, y1, y2, y3, y4, y5, y6⟩ := (show Z7F _ (w.heap.size + 1 + 1) from ⟨hSf.z.cells, hSf.z.free⟩)
          go_wp2_with fail
          exact odd_fin rfl hSf _ rfl rfl
        · go_upto_region 27 with fail
          have hS6 := HS5.out.chg (grown_set w5 w4.heap.size 1 (.int .i64 (nv % 12))) (HS5.out.inb.set1 (nv % 12)) rfl (ok_mk HOK.out HOK.out.1 (by omega) HOK.out.2.2.1 HOK.out.2.2.2.1 HOK.out.2.2.2.2.1)
          generalize w5.setCell ⟨w4.heap.size, 1, none⟩ (.int .i64 (nv % 12)) = w6 at hS6 ⊢
          clear c0 c1 c2 c3 c4' c5 c6 f0 f1 f2 f3 f4 f5 f6
          have hSf := hS6.le (show (Ex.mk op var ty nn bb s l).size ≤ 64 * (Ex.mk op var ty nn bb s l).size + 63 by omega)
          obtain ⟨x0, x1, x2, x3, x4, x5, x6⟩ := hSf.inb.cells'
          simp only [Ex.l] at x6
          obtain ⟨⟨z0, z1, z2, z3, z4, z5, z6⟩, y0, y1, y2, y3, y4, y5, y6⟩ := (show Z7F _ (w.heap.size + 1 + 1) from ⟨hSf.z.cells, hSf.z.free⟩)
          go_wp2_with fail
          exact odd_fin rfl hSf _ rfl rfl
        · rcases (by omega : nv % 3 = 0 ∨ nv % 3 = 1 ∨ nv % 3 = 2) with hm3 | hm3 | hm3
          · clear c0 c1 c2 c3 c4' c5 c6 f0 f1 f2 f3 f4 f5 f6
            go_wp2_with fail
            refine (rInt_any _ _).mono ?_
            rintro r w7 ⟨rfl, hE7⟩
            have hS5' := (HS5.out.ext' (Ext.alloc w5 (.cells #[.int .i64 nv, .int .i64 (1073741824 + nv % 2), .int .i64 (-1073741824 - nv % 2)] 3))).ext' hE7
            obtain ⟨g0, g1, g2, g3, g4, g5, g6⟩ := hS5'.inb.cells'
            obtain ⟨h0, h1, h2, h3, h4, h5, h6⟩ := hS5'.inb.freeAll
            simp only [Ex.l] at g6
            go_upto_region 27 with fail
            have hS6 := hS5'.chg (setV_grown w7 w4.heap.size 1 nv false ⟨([] : List UInt8).toArray⟩) (setV_in hS5'.inb 1 nv false ([] : List UInt8)) rfl (ok_mk HOK.out HOK.out.1 HOK.out.2.1 (by omega) (by omega) (by first | decide | simp))
            show Code.wp _ _ _ _ (setV w7 w4.heap.size 1 nv false ⟨([] : List UInt8).toArray⟩)
            generalize setV w7 w4.heap.size 1 nv false ⟨([] : List UInt8).toArray⟩ = w6 at hS6 ⊢
            clear g0 g1 g2 g3 g4 g5 g6 h0 h1 h2 h3 h4 h5 h6
            have hSf := hS6.le (show (Ex.mk op var ty nn bb s l).size ≤ 64 * (Ex.mk op var ty nn bb s l).size + 63 by omega)
            obtain ⟨x0, x1, x2, x3, x4, x5, x6⟩ := hSf.inb.cells'
            simp only [Ex.l] at x6
            obtain ⟨⟨z0, z1, z2, z3, z4, z5, z6⟩, y0, y1, y2, y3, y4, y5, y6⟩ := (show Z7F _ (w.heap.size + 1 + 1) from ⟨hSf.z.cells, hSf.z.free⟩)
            go_wp2_with fail
            exact odd_fin rfl hSf _ rfl rfl
          · clear c0 c1 c2 c3 c4' c5 c6 f0 f1 f2 f3 f4 f5 f6
            go_wp2_with fail
            refine (rInt_any _ _).mono ?_
            rintro r w7 ⟨rfl, hE7⟩
            have hS5' := (HS5.out.ext' (Ext.alloc w5 (.cells #[.int .i64 nv, .int .i64 (1073741824 + nv % 2), .int .i64 (-1073741824 - nv % 2)] 3))).ext' hE7
            obtain ⟨g0, g1, g2, g3, g4, g5, g6⟩ := hS5'.inb.cells'
            obtain ⟨h0, h1, h2, h3, h4, h5, h6⟩ := hS5'.inb.freeAll
            simp only [Ex.l] at g6
            go_upto_region 27 with fail
            have hS6 := hS5'.chg (setV_grown w7 w4.heap.size 1 (1073741824 + nv % 2) false ⟨([] : List UInt8).toArray⟩) (setV_in hS5'.inb 1 (1073741824 + nv % 2) false ([] : List UInt8)) rfl (ok_mk HOK.out HOK.out.1 HOK.out.2.1 (by omega) (by omega) (by first | decide | simp))
            show Code.wp _ _ _ _ (setV w7 w4.heap.size 1 (1073741824 + nv % 2) false ⟨([] : List UInt8).toArray⟩)
            generalize setV w7 w4.heap.size 1 (1073741824 + nv % 2) false ⟨([] : List UInt8).toArray⟩ = w6 at hS6 ⊢
            clear g0 g1 g2 g3 g4 g5 g6 h0 h1 h2 h3 h4 h5 h6
            have hSf := hS6.le (show (Ex.mk op var ty nn bb s l).size ≤ 64 * (Ex.mk op var ty nn bb s l).size + 63 by omega)
            obtain ⟨x0, x1, x2, x3, x4, x5, x6⟩ := hSf.inb.cells'
            simp only [Ex.l] at x6
            obtain ⟨⟨z0, z1, z2, z3, z4, z5, z6⟩, y0, y1, y2, y3, y4, y5, y6⟩ := (show Z7F _ (w.heap.size + 1 + 1) from ⟨hSf.z.cells, hSf.z.free⟩)
            go_wp2_with fail
            exact odd_fin rfl hSf _ rfl rfl
          · clear c0 c1 c2 c3 c4' c5 c6 f0 f1 f2 f3 f4 f5 f6
            go_wp2_with fail
            refine (rInt_any _ _).mono ?_
            rintro r w7 ⟨rfl, hE7⟩
            have hS5' := (HS5.out.ext' (Ext.alloc w5 (.cells #[.int .i64 nv, .int .i64 (1073741824 + nv % 2), .int .i64 (-1073741824 - nv % 2)] 3))).ext' hE7
            obtain ⟨g0, g1, g2, g3, g4, g5, g6⟩ := hS5'.inb.cells'
            obtain ⟨h0, h1, h2, h3, h4, h5, h6⟩ := hS5'.inb.freeAll
            simp only [Ex.l] at g6
            go_upto_region 27 with fail
            have hS6 := hS5'.chg (setV_grown w7 w4.heap.size 1 (-1073741824 - nv % 2) false ⟨([] : List UInt8).toArray⟩) (setV_in hS5'.inb 1 (-1073741824 - nv % 2) false ([] : List UInt8)) rfl (ok_mk HOK.out HOK.out.1 HOK.out.2.1 (by omega) (by omega) (by first | decide | simp))
            show Code.wp _ _ _ _ (setV w7 w4.heap.size 1 (-1073741824 - nv % 2) false ⟨([] : List UInt8).toArray⟩)
            generalize setV w7 w4.heap.size 1 (-1073741824 - nv % 2) false ⟨([] : List UInt8).toArray⟩ = w6 at hS6 ⊢
            clear g0 g1 g2 g3 g4 g5 g6 h0 h1 h2 h3 h4 h5 h6
            have hSf := hS6.le (show (Ex.mk op var ty nn bb s l).size ≤ 64 * (Ex.mk op var ty nn bb s l).size + 63 by omega)
            obtain ⟨x0, x1, x2, x3, x4, x5, x6⟩ := hSf.inb.cells'
            simp only [Ex.l] at x6
            obtain ⟨⟨z0, z1, z2, z3, z4, z5, z6⟩, y0, y1, y2, y3, y4, y5, y6⟩ := (show Z7F _ (w.heap.size + 1 + 1) from ⟨hSf.z.cells, hSf.z.free⟩)
            go_wp2_with fail
            exact odd_fin rfl hSf _ rfl rfl
        · have hs5 : ∃ j : Nat, nv % 5 = (j : Int) ∧ j < 5 := ⟨(nv % 5).toNat, by omega, by omega⟩
          obtain ⟨j, hj, hj5⟩ := hs5
          rcases (by omega : j = 0 ∨ j = 1 ∨ j = 2 ∨ j = 3 ∨ j = 4) with rfl | rfl | rfl | rfl | rfl
          · clear c0 c1 c2 c3 c4' c5 c6 f0 f1 f2 f3 f4 f5 f6
            go_wp2_with fail
            refine (rString_any _ _).mono ?_
            rintro r w7 ⟨rfl, hE7⟩
            have hS5' := (HS5.out.ext' (Ext.alloc w5 (.cells #[.string ⟨#[116, 114, 101, 101]⟩, .string ⟨#[97, 34]⟩, .string ⟨#[120, 10]⟩, .string ⟨#[97, 98, 99, 100, 101, 102, 103, 104, 105, 106, 107, 108, 109, 110, 111, 112, 113, 114, 115, 116, 117, 118, 119, 120]⟩, .string ⟨#[97, 98, 99, 100, 101, 102, 103, 104, 105, 106, 107, 108, 109, 110, 111, 112, 113, 114, 115, 116, 117, 118, 119, 120, 121]⟩] 9))).ext' hE7
            obtain ⟨g0, g1, g2, g3, g4, g5, g6⟩ := hS5'.inb.cells'
            obtain ⟨h0, h1, h2, h3, h4, h5, h6⟩ := hS5'.inb.freeAll
            simp only [Ex.l] at g6
            go_upto_region 27 with fail
            have hS6 := hS5'.chg (setV_grown w7 w4.heap.size 3 0 false ⟨([116, 114, 101, 101] : List UInt8).toArray⟩) (setV_in hS5'.inb 3 0 false ([116, 114, 101, 101] : List UInt8)) rfl (ok_mk HOK.out HOK.out.1 HOK.out.2.1 (by omega) (by omega) (by first | decide | simp))
            show Code.wp _ _ _ _ (setV w7 w4.heap.size 3 0 false ⟨([116, 114, 101, 101] : List UInt8).toArray⟩)
            generalize setV w7 w4.heap.size 3 0 false ⟨([116, 114, 101, 101] : List UInt8).toArray⟩ = w6 at hS6 ⊢
            clear g0 g1 g2 g3 g4 g5 g6 h0 h1 h2 h3 h4 h5 h6
            have hSf := hS6.le (show (Ex.mk op var ty nn bb s l).size ≤ 64 * (Ex.mk op var ty nn bb s l).size + 63 by omega)
            obtain ⟨x0, x1, x2, x3, x4, x5, x6⟩ := hSf.inb.cells'
            simp only [Ex.l] at x6
            obtain ⟨⟨z0, z1, z2, z3, z4, z5, z6⟩, y0, y1, y2, y3, y4, y5, y6⟩ := (show Z7F _ (w.heap.size + 1 + 1) from ⟨hSf.z.cells, hSf.z.free⟩)
            go_wp2_with fail
            exact odd_fin rfl hSf _ rfl rfl
          · clear c0 c1 c2 c3 c4' c5 c6 f0 f1 f2 f3 f4 f5 f6
            go_wp2_with fail
            refine (rString_any _ _).mono ?_
            rintro r w7 ⟨rfl, hE7⟩
            have hS5' := (HS5.out.ext' (Ext.alloc w5 (.cells #[.string ⟨#[116, 114, 101, 101]⟩, .string ⟨#[97, 34]⟩, .string ⟨#[120, 10]⟩, .string ⟨#[97, 98, 99, 100, 101, 102, 103, 104, 105, 106, 107, 108, 109, 110, 111, 112, 113, 114, 115, 116, 117, 118, 119, 120]⟩, .string ⟨#[97, 98, 99, 100, 101, 102, 103, 104, 105, 106, 107, 108, 109, 110, 111, 112, 113, 114, 115, 116, 117, 118, 119, 120, 121]⟩] 9))).ext' hE7
            obtain ⟨g0, g1, g2, g3, g4, g5, g6⟩ := hS5'.inb.cells'
            obtain ⟨h0, h1, h2, h3, h4, h5, h6⟩ := hS5'.inb.freeAll
            simp only [Ex.l] at g6
            go_upto_region 27 with fail
            have hS6 := hS5'.chg (setV_grown w7 w4.heap.size 3 0 false ⟨([97, 34] : List UInt8).toArray⟩) (setV_in hS5'.inb 3 0 false ([97, 34] : List UInt8)) rfl (ok_mk HOK.out HOK.out.1 HOK.out.2.1 (by omega) (by omega) (by first | decide | simp))
            show Code.wp _ _ _ _ (setV w7 w4.heap.size 3 0 false ⟨([97, 34] : List UInt8).toArray⟩)
            generalize setV w7 w4.heap.size 3 0 false ⟨([97, 34] : List UInt8).toArray⟩ = w6 at hS6 ⊢
            clear g0 g1 g2 g3 g4 g5 g6 h0 h1 h2 h3 h4 h5 h6
            have hSf := hS6.le (show (Ex.mk op var ty nn bb s l).size ≤ 64 * (Ex.mk op var ty nn bb s l).size + 63 by omega)
            obtain ⟨x0, x1, x2, x3, x4, x5, x6⟩ := hSf.inb.cells'
            simp only [Ex.l] at x6
            obtain ⟨⟨z0, z1, z2, z3, z4, z5, z6⟩, y0, y1, y2, y3, y4, y5, y6⟩ := (show Z7F _ (w.heap.size + 1 + 1) from ⟨hSf.z.cells, hSf.z.free⟩)
            go_wp2_with fail
            exact odd_fin rfl hSf _ rfl rfl
          · clear c0 c1 c2 c3 c4' c5 c6 f0 f1 f2 f3 f4 f5 f6
            go_wp2_with fail
            refine (rString_any _ _).mono ?_
            rintro r w7 ⟨rfl, hE7⟩
            have hS5' := (HS5.out.ext' (Ext.alloc w5 (.cells #[.string ⟨#[116, 114, 101, 101]⟩, .string ⟨#[97, 34]⟩, .string ⟨#[120, 10]⟩, .string ⟨#[97, 98, 99, 100, 101, 102, 103, 104, 105, 106, 107, 108, 109, 110, 111, 112, 113, 114, 115, 116, 117, 118, 119, 120]⟩, .string ⟨#[97, 98, 99, 100, 101, 102, 103, 104, 105, 106, 107, 108, 109, 110, 111, 112, 113, 114, 115, 116, 117, 118, 119, 120, 121]⟩] 9))).ext' hE7
            obtain ⟨g0, g1, g2, g3, g4, g5, g6⟩ := hS5'.inb.cells'
            obtain ⟨h0, h1, h2, h3, h4, h5, h6⟩ := hS5'.inb.freeAll
            simp only [Ex.l] at g6
            go_upto_region 27 with fail
            have hS6 := hS5'.chg (setV_grown w7 w4.heap.size 3 0 false ⟨([120, 10] : List UInt8).toArray⟩) (setV_in hS5'.inb 3 0 false ([120, 10] : List UInt8)) rfl (ok_mk HOK.out HOK.out.1 HOK.out.2.1 (by omega) (by omega) (by first | decide | simp))
            show Code.wp _ _ _ _ (setV w7 w4.heap.size 3 0 false ⟨([120, 10] : List UInt8).toArray⟩)
            generalize setV w7 w4.heap.size 3 0 false ⟨([120, 10] : List UInt8).toArray⟩ = w6 at hS6 ⊢
            clear g0 g1 g2 g3 g4 g5 g6 h0 h1 h2 h3 h4 h5 h6
            have hSf := hS6.le (show (Ex.mk op var ty nn bb s l).size ≤ 64 * (Ex.mk op var ty nn bb s l).size + 63 by omega)
            obtain ⟨x0, x1, x2, x3, x4, x5, x6⟩ := hSf.inb.cells'
            simp only [Ex.l] at x6
            obtain ⟨⟨z0, z1, z2, z3, z4, z5, z6⟩, y0, y1, y2, y3, y4, y5, y6⟩ := (show Z7F _ (w.heap.size + 1 + 1) from ⟨hSf.z.cells, hSf.z.free⟩)
            go_wp2_with fail
            exact odd_fin rfl hSf _ rfl rfl
          · clear c0 c1 c2 c3 c4' c5 c6 f0 f1 f2 f3 f4 f5 f6
            go_wp2_with fail
            refine (rString_any _ _).mono ?_
            rintro r w7 ⟨rfl, hE7⟩
            have hS5' := (HS5.out.ext' (Ext.alloc w5 (.cells #[.string ⟨#[116, 114, 101, 101]⟩, .string ⟨#[97, 34]⟩, .string ⟨#[120, 10]⟩, .string ⟨#[97, 98, 99, 100, 101, 102, 103, 104, 105, 106, 107, 108, 109, 110, 111, 112, 113, 114, 115, 116, 117, 118, 119, 120]⟩, .string ⟨#[97, 98, 99, 100, 101, 102, 103, 104, 105, 106, 107, 108, 109, 110, 111, 112, 113, 114, 115, 116, 117, 118, 119, 120, 121]⟩] 9))).ext' hE7
            obtain ⟨g0, g1, g2, g3, g4, g5, g6⟩ := hS5'.inb.cells'
            obtain ⟨h0, h1, h2, h3, h4, h5, h6⟩ := hS5'.inb.freeAll
            simp only [Ex.l] at g6
            go_upto_region 27 with fail
            have hS6 := hS5'.chg (setV_grown w7 w4.heap.size 3 0 false ⟨([97, 98, 99, 100, 101, 102, 103, 104, 105, 106, 107, 108, 109, 110, 111, 112, 113, 114, 115, 116, 117, 118, 119, 120] : List UInt8).toArray⟩) (setV_in hS5'.inb 3 0 false ([97, 98, 99, 100, 101, 102, 103, 104, 105, 106, 107, 108, 109, 110, 111, 112, 113, 114, 115, 116, 117, 118, 119, 120] : List UInt8)) rfl (ok_mk HOK.out HOK.out.1 HOK.out.2.1 (by omega) (by omega) (by first | decide | simp))
            show Code.wp _ _ _ _ (setV w7 w4.heap.size 3 0 false ⟨([97, 98, 99, 100, 101, 102, 103, 104, 105, 106, 107, 108, 109, 110, 111, 112, 113, 114, 115, 116, 117, 118, 119, 120] : List UInt8).toArray⟩)
            generalize setV w7 w4.heap.size 3 0 false ⟨([97, 98, 99, 100, 101, 102, 103, 104, 105, 106, 107, 108, 109, 110, 111, 112, 113, 114, 115, 116, 117, 118, 119, 120] : List UInt8).toArray⟩ = w6 at hS6 ⊢
            clear g0 g1 g2 g3 g4 g5 g6 h0 h1 h2 h3 h4 h5 h6
            have hSf := hS6.le (show (Ex.mk op var ty nn bb s l).size ≤ 64 * (Ex.mk op var ty nn bb s l).size + 63 by omega)
            obtain ⟨x0, x1, x2, x3, x4, x5, x6⟩ := hSf.inb.cells'
            simp only [Ex.l] at x6
            obtain ⟨⟨z0, z1, z2, z3, z4, z5, z6⟩, y0, y1, y2, y3, y4, y5, y6⟩ := (show Z7F _ (w.heap.size + 1 + 1) from ⟨hSf.z.cells, hSf.z.free⟩)
            go_wp2_with fail
            exact odd_fin rfl hSf _ rfl rfl
          · clear c0 c1 c2 c3 c4' c5 c6 f0 f1 f2 f3 f4 f5 f6
            go_wp2_with fail
            refine (rString_any _ _).mono ?_
            rintro r w7 ⟨rfl, hE7⟩
            have hS5' := (HS5.out.ext' (Ext.alloc w5 (.cells #[.string ⟨#[116, 114, 101, 101]⟩, .string ⟨#[97, 34]⟩, .string ⟨#[120, 10]⟩, .string ⟨#[97, 98, 99, 100, 101, 102, 103, 104, 105, 106, 107, 108, 109, 110, 111, 112, 113, 114, 115, 116, 117, 118, 119, 120]⟩, .string ⟨#[97, 98, 99, 100, 101, 102, 103, 104, 105, 106, 107, 108, 109, 110, 111, 112, 113, 114, 115, 116, 117, 118, 119, 120, 121]⟩] 9))).ext' hE7
            obtain ⟨g0, g1, g2, g3, g4, g5, g6⟩ := hS5'.inb.cells'
            obtain ⟨h0, h1, h2, h3, h4, h5, h6⟩ := hS5'.inb.freeAll
            simp only [Ex.l] at g6
            go_upto_region 27 with fail
            have hS6 := hS5'.chg (setV_grown w7 w4.heap.size 3 0 false ⟨([97, 98, 99, 100, 101, 102, 103, 104, 105, 106, 107, 108, 109, 110, 111, 112, 113, 114, 115, 116, 117, 118, 119, 120, 121] : List UInt8).toArray⟩) (setV_in hS5'.inb 3 0 false ([97, 98, 99, 100, 101, 102, 103, 104, 105, 106, 107, 108, 109, 110, 111, 112, 113, 114, 115, 116, 117, 118, 119, 120, 121] : List UInt8)) rfl (ok_mk HOK.out HOK.out.1 HOK.out.2.1 (by omega) (by omega) (by first | decide | simp))
            show Code.wp _ _ _ _ (setV w7 w4.heap.size 3 0 false ⟨([97, 98, 99, 100, 101, 102, 103, 104, 105, 106, 107, 108, 109, 110, 111, 112, 113, 114, 115, 116, 117, 118, 119, 120, 121] : List UInt8).toArray⟩)
            generalize setV w7 w4.heap.size 3 0 false ⟨([97, 98, 99, 100, 101, 102, 103, 104, 105, 106, 107, 108, 109, 110, 111, 112, 113, 114, 115, 116, 117, 118, 119, 120, 121] : List UInt8).toArray⟩ = w6 at hS6 ⊢
            clear g0 g1 g2 g3 g4 g5 g6 h0 h1 h2 h3 h4 h5 h6
            have hSf := hS6.le (show (Ex.mk op var ty nn bb s l).size ≤ 64 * (Ex.mk op var ty nn bb s l).size + 63 by omega)
            obtain ⟨x0, x1, x2, x3, x4, x5, x6⟩ := hSf.inb.cells'
            simp only [Ex.l] at x6
            obtain ⟨⟨z0, z1, z2, z3, z4, z5, z6⟩, y0, y1, y2, y3, y4, y5, y6⟩ := (show Z7F _ (w.heap.size + 1 + 1) from ⟨hSf.z.cells, hSf.z.free⟩)
            go_wp2_with fail
            exact odd_fin rfl hSf _ rfl rfl
        · have hO := hO5
          have hbo := HS5.out.inb.lt
          have hbl : ∀ g, (Value.slice A4 n c4).ownBlock = some g → w3.heap.size ≤ g ∧ g < w4.heap.size := hLO
          go_wp2_with fail
          apply wp_region_seq (l := [_, _, _, _, _, _]) (t := [_, _, _]) [some 90, some 91, some 92, some 93, some 94, some 95, some 96, some 97, none] [[], [0], [], [2], [3], [4], [1, 5], [], [6, 7]] [1, 6, 3, 6, 5, 6] [eqv _, eqv _, eqv _, (eqv (.agg #[.int .i64 1, .int .i64 nv, .bool false, .string ⟨#[]⟩])), eqv _, (slNd w5.heap.size (.mk 1 0 1 nv false [] []) 0)] (by kernel_rfl) (by kernel_rfl) ⟨?o0, ?o1, ?o2, ?o3, ?o4, ?o5, trivial⟩ ?last
          case o0 => -- Op.fieldAddr 29 (Operand.tmp 5) 3
            intro xv W hE _
            simp only [putD, List.foldl_nil, List.getD_cons_zero]
            refine OpGoal.plain ?_
            go_wp2_with fail
            exact ⟨rfl, Ext.refl _, rfl⟩
          case o1 => -- Op.load 27 (Operand.tmp 90)
            intro xv W hE hp
            have r0 : xv 0 = _ := hp.1
            clear hp
            have l6 : W.cell? ⟨w4.heap.size, 6, none⟩ = some (.slice A4 n c4) := (hE.old (p := ⟨w4.heap.size, 6, none⟩) hbo).trans c6
            simp only [putD, List.foldl_nil, List.foldl_cons, List.getD_cons_zero, List.getD_cons_succ, Act.put, List.setIfInBounds_toArray, List.set_cons_zero, List.set_cons_succ]
            refine OpGoal.plain ?_
            go_wp2_with fail
            exact ⟨rfl, Ext.refl _, rfl⟩
          case o2 => -- Op.move (Operand.tmp 7)
            intro xv W hE _
            simp only [putD, List.foldl_nil, List.getD_cons_zero, List.getD_cons_succ]
            refine OpGoal.plain ?_
            go_wp2_with fail
            exact ⟨rfl, Ext.refl _, rfl⟩
          case o3 => -- Op.call { callee := Callee.value (Operand.func 31), args := #[Operand.tmp 92], a
            intro xv W hE hp
            have r2 : xv 2 = _ := hp.1
            clear hp
            simp only [putD, List.foldl_nil, List.foldl_cons, List.getD_cons_zero, List.getD_cons_succ, Act.put, List.setIfInBounds_toArray, List.set_cons_zero, List.set_cons_succ]
            refine OpGoal.plain ?_
            go_wp2_with fail
            refine (rInt_any nv W).mono ?_
            rintro e w' ⟨rfl, hEt⟩
            go_wp2_with fail
            exact ⟨rfl, hEt, rfl⟩
          case o4 => -- Op.build 29 #[(0, Operand.const (Value.int IntKind.i64 1)), (2, Operand.tmp 93)]
            intro xv W hE hp
            have r3 : xv 3 = _ := hp.1
            clear hp
            simp only [putD, List.foldl_nil, List.foldl_cons, List.getD_cons_zero, List.getD_cons_succ, Act.put, List.setIfInBounds_toArray, List.set_cons_zero, List.set_cons_succ]
            refine OpGoal.plain ?_
            go_wp2_with fail
            exact ⟨rfl, Ext.refl _, rfl⟩
          case o5 => -- Op.buildSlice 27 1 #[(0, Operand.tmp 94)]
            intro xv W hE hp
            have r4 : xv 4 = _ := hp.1
            clear hp
            simp only [putD, List.foldl_nil, List.foldl_cons, List.getD_cons_zero, List.getD_cons_succ, Act.put, List.setIfInBounds_toArray, List.set_cons_zero, List.set_cons_succ]
            refine OpGoal.plain ?_
            go_wp2_with fail
            exact ⟨rfl, Ext.alloc _ _, W.heap.size, none, 0, rfl, ((Ext.drew w5).trans hE).sz, by simp, fun i u hi => by rw [World.cell?_alloc_new]; exact (by simpa [Ex.cells, Ex.op, Ex.var, Ex.ty, Ex.n, Ex.b, Ex.s, Ex.l] using hi), ExL.nil _ _ _ _⟩
          case last =>
            intro xv W hE hp
            have r0 : xv 0 = _ := hp.1
            have r1 : xv 1 = _ := hp.2.1
            have r2 : xv 2 = _ := hp.2.2.1
            have r3 : xv 3 = _ := hp.2.2.2.1
            have r4 : xv 4 = _ := hp.2.2.2.2.1
            obtain ⟨g8, A8, c8, r5, hg1, hg2, hcg, hk8⟩ := hp.2.2.2.2.2.1
            clear hp
            simp only [putD, List.foldl_nil, List.foldl_cons, List.getD_cons_zero, List.getD_cons_succ, Act.put, List.length_cons, List.length_nil, List.range_succ, List.range_zero, List.nil_append, List.cons_append, List.setIfInBounds_toArray, List.set_cons_zero, List.set_cons_succ]
            have hEw : Ext w5 W := (Ext.drew _).trans hE
            have hOW := hO.ext hEw
            have hSW := HS5.out.ext' hEw
            have hKW : Kids W (fun k => w3.heap.size ≤ k ∧ k < w4.heap.size ∧ (Value.slice A4 n c4).ownBlock ≠ some k) d us := hK5.keep fun k hk o => hEw.old (p := ⟨k, o, none⟩) (by show k < _; omega)
            have hsW := hEw.sz
            have hul4 : us.length < 4294967296 := by have h1 := congrArg List.length HUS.out; rw [List.length_map, HN.out] at h1; omega
            have hul : us.length = n := by have h1 := congrArg List.length HUS.out; rw [List.length_map, HN.out] at h1; exact h1
            have HUL := Lib.hid hul
            obtain ⟨c0, c1, c2, c3, c4', c5, c6⟩ := hSW.inb.cells'
            have r1' : xv 1 = .slice A4 n c4 := r1
            rw [r5, r1']
            clear r0 r1 r2 r3 r4 r5 r1' hE hO hO5 hK5 hul
            have hne2 : some w4.heap.size ≠ (Value.slice A4 n c4).ownBlock := fun e => by have := (hbl _ e.symm).2; omega
            go_upto_region 27 with (at_builtin; refine app_N rfl 91 95 rfl w3.heap.size (.slice A4 n c4) us rfl hOW g8 ⟨.mk 1 0 1 nv false [] [], A8, c8⟩ rfl hcg hul4 (by omega) ?_; intro v1 wb hO1 hg1' hn1; obtain ⟨A1, c1', hv1, hf1⟩ := OwnN.form hO1; subst hv1; have hIb := InBlk.own hSW.inb hg1' hne2; have hc6 := hIb.cells.2.2.2.2.2.2; have hf6 := hIb.free 6; clear hf1)
            have hul := HUL.out
            have hlen1 : (us ++ [(⟨.mk 1 0 1 nv false [] [], A8, c8⟩ : Nd)]).length = us.length + 1 := by simp
            rw [hlen1] at hO1 hn1
            have hWs := hg1'.size
            have hob : ∀ b, (Value.slice A1 (us.length + 1) c1').ownBlock = some b → w3.heap.size ≤ b ∧ b < wb.heap.size ∧ b ≠ w4.heap.size := fun b e => by
              have h1 := hO1.lt b e
              rcases hn1 with h | h
              · rw [h] at e; have := hbl b e; omega
              · rw [h] at e; simp only [Option.some.injEq] at e; omega
            have hgS := grown_set wb w4.heap.size 6 (.slice A1 (us.length + 1) c1')
            have hOf := hO1.keep hgS (by
              cases hq : (Value.slice A1 (us.length + 1) c1').ownBlock with
              | none => exact .inl rfl
              | some g => exact .inr fun e => by have := hob g hq; simp only [Option.some.injEq] at e; omega)
            have hmap : (us ++ [(⟨.mk 1 0 1 nv false [] [], A8, c8⟩ : Nd)]).map (·.x) = l ++ [.mk 1 0 1 nv false [] []] := by rw [List.map_append, HUS.out]; rfl
            have hsf := hgS.size
            have hKf : Kids (wb.setCell ⟨w4.heap.size, 6, none⟩ (.slice A1 (us.length + 1) c1')) (fun k => w.heap.size + 2 < k ∧ k < (wb.setCell ⟨w4.heap.size, 6, none⟩ (.slice A1 (us.length + 1) c1')).heap.size ∧ k ≠ w4.heap.size) d (us ++ [⟨.mk 1 0 1 nv false [] [], A8, c8⟩]) := by
              refine Kids.snoc ?_ (ExL.nil _ _ _ _)
              refine ((hKW.keep fun k hk o => grown_cell hg1' (by omega) hk.2.2 o).keep fun k hk o => grown_cell hgS (by omega) (by simp; omega) o).more fun k hk => ⟨by omega, by omega, by omega⟩
            have hXf := (OwnN.listS hOf hKf fun b e => by have := hob b e; exact ⟨by omega, by omega, by omega⟩).1
            rw [hmap] at hXf
            have hS7 : OddS w (wb.setCell ⟨w4.heap.size, 6, none⟩ (.slice A1 (us.length + 1) c1')) w4.heap.size (.mk op var ty nn bb s (l ++ [.mk 1 0 1 nv false [] []])) A1 c1' (d + 1) ((Ex.mk op var ty nn bb s l).size + 1) := by
              refine ⟨?_, (hSW.z.own hg1' (fun e => by have := hbl _ e.symm; omega)).own hgS (by simp; omega), Below.trans (Below.trans hSW.ext (below_row' hg1' (by have := hSW.ext.sz; omega) (fun g e => by have := hbl g e; omega))) (below_row' hgS (by have := hSW.ext.sz; omega) (fun g e => by simp only [Option.some.injEq] at e; omega)), hXf, ?_, ?_, by omega⟩
              · have e1 : us.length + 1 = (l ++ [Ex.mk 1 0 1 nv false [] []]).length := by rw [List.length_append, HN.out, hul]; rfl
                simp only [Ex.l]
                rw [← e1]
                exact hIb.set6 _ _
              · rw [Ex.size, Ex.size, sizes_append]; simp [Ex.sizes, Ex.size]; omega
              · have h1 := HOK.out
                rw [Ex.ok] at h1 ⊢
                exact ⟨h1.1, h1.2.1, h1.2.2.1, h1.2.2.2.1, h1.2.2.2.2.1, oks_append h1.2.2.2.2.2 ⟨⟨by decide, by decide, by decide, by omega, by simp, trivial⟩, trivial⟩⟩
            have HLT := Lib.hid (show us.length + 1 = (Ex.mk op var ty nn bb s (l ++ [.mk 1 0 1 nv false [] []])).l.length by simp only [Ex.l]; rw [List.length_append, HN.out, hul]; rfl)
            clear hIb hc6 hf6 hO1 hg1' hn1 hOf hKf hXf hmap hgS hsf hWs hSW hKW hOW c0 c1 c2 c3 c4' c5 c6 f0 f1 f2 f3 f4 f5 f6 hul hlen1
            generalize wb.setCell ⟨w4.heap.size, 6, none⟩ (.slice A1 (us.length + 1) c1') = w6 at hS7 ⊢
            have hSf := hS7.le (show (Ex.mk op var ty nn bb s l).size + 1 ≤ 64 * (Ex.mk op var ty nn bb s l).size + 63 by omega)
            obtain ⟨x0, x1, x2, x3, x4, x5, x6⟩ := hSf.inb.cells'
            rw [← HLT.out] at x6
            obtain ⟨⟨z0, z1, z2, z3, z4, z5, z6⟩, y0, y1, y2, y3, y4, y5, y6⟩ := (show Z7F _ (w.heap.size + 1 + 1) from ⟨hSf.z.cells, hSf.z.free⟩)
            go_wp2_with fail
            exact odd_fin rfl hSf (us.length + 1) HLT.out rfl
        · have hS6 : OddS w (w5.setCell ⟨w4.heap.size, 6, none⟩ (.slice A4 (n / 2) c4)) w4.heap.size (.mk op var ty nn bb s (l.take (n / 2))) A4 c4 (d + 1) (Ex.mk op var ty nn bb s l).size := by
            have hg := grown_set w5 w4.heap.size 6 (.slice A4 (n / 2) c4)
            have h := HS5.out
            have hb := h.hbo
            have hlt : (l.take (n / 2)).length = n / 2 := by rw [List.length_take, HN.out]; omega
            refine ⟨by simp only [Ex.l]; rw [hlt]; exact h.inb.set6 _ _, h.z.own hg (by simp; omega), Below.trans h.ext (below_row' hg h.ext.sz (fun g e => by simp only [Option.some.injEq] at e; omega)), exl_take ((h.kids.keep fun k hk o => grown_cell hg hk.2.1 (by have := hk.2.2; simp; omega) o).more fun k hk => ⟨hk.1, Nat.lt_of_lt_of_le hk.2.1 hg.size, hk.2.2⟩) _, ?_, ?_, hb⟩
            · have := Ex.sizes_le (l := l) (n / 2)
              rw [Ex.size, Ex.size]; omega
            · have h1 := HOK.out
              rw [Ex.ok] at h1 ⊢
              exact ⟨h1.1, h1.2.1, h1.2.2.1, h1.2.2.2.1, h1.2.2.2.2.1, oks_take _ h1.2.2.2.2.2⟩
          have HS6 := Lib.hid hS6
          have hcap2 : n / 2 ≤ c4 := by omega
          have hcap3 : (n : Int) / 2 ≤ (c4 : Int) := by omega
          have hlt : (l.take (n / 2)).length = n / 2 := by rw [List.length_take, HN.out]; omega
          have HLT := Lib.hid hlt
          clear hS6 hlt
          go_upto_region 27 with fail
          have hS7 := HS6.out
          generalize w5.setCell ⟨w4.heap.size, 6, none⟩ (.slice A4 (n / 2) c4) = w6 at hS7 ⊢
          clear c0 c1 c2 c3 c4' c5 c6 f0 f1 f2 f3 f4 f5 f6
          have hSf := hS7.le (show (Ex.mk op var ty nn bb s l).size ≤ 64 * (Ex.mk op var ty nn bb s l).size + 63 by omega)
          obtain ⟨x0, x1, x2, x3, x4, x5, x6⟩ := hSf.inb.cells'
          simp only [Ex.l] at x6
          rw [HLT.out] at x6
          obtain ⟨⟨z0, z1, z2, z3, z4, z5, z6⟩, y0, y1, y2, y3, y4, y5, y6⟩ := (show Z7F _ (w.heap.size + 1 + 1) from ⟨hSf.z.cells, hSf.z.free⟩)
          go_wp2_with fail
          exact odd_fin rfl hSf (n / 2) HLT.out.symm rfl
        · have hS5' := HS5.out
          clear c0 c1 c2 c3 c4' c5 c6 f0 f1 f2 f3 f4 f5 f6
          obtain ⟨g0, g1, g2, g3, g4, g5, g6⟩ := hS5'.inb.cells'
          obtain ⟨h0, h1, h2, h3, h4, h5, h6⟩ := hS5'.inb.freeAll
          simp only [Ex.l] at g6
          go_upto_region 27 with fail
          have hS6 := hS5'.chg (setV_grown w5 w4.heap.size (nv % 5) (nv % 2) (decide (1 < nv % 4)) ⟨([] : List UInt8).toArray⟩) (setV_in hS5'.inb (nv % 5) (nv % 2) (decide (1 < nv % 4)) ([] : List UInt8)) rfl (ok_mk HOK.out HOK.out.1 HOK.out.2.1 (by omega) (by omega) (by first | decide | simp))
          show Code.wp _ _ _ _ (setV w5 w4.heap.size (nv % 5) (nv % 2) (decide (1 < nv % 4)) ⟨([] : List UInt8).toArray⟩)
          generalize setV w5 w4.heap.size (nv % 5) (nv % 2) (decide (1 < nv % 4)) ⟨([] : List UInt8).toArray⟩ = w6 at hS6 ⊢
          clear g0 g1 g2 g3 g4 g5 g6 h0 h1 h2 h3 h4 h5 h6
          have hSf := hS6.le (show (Ex.mk op var ty nn bb s l).size ≤ 64 * (Ex.mk op var ty nn bb s l).size + 63 by omega)
          obtain ⟨x0, x1, x2, x3, x4, x5, x6⟩ := hSf.inb.cells'
          simp only [Ex.l] at x6
          obtain ⟨⟨z0, z1, z2, z3, z4, z5, z6⟩, y0, y1, y2, y3, y4, y5, y6⟩ := (show Z7F _ (w.heap.size + 1 + 1) from ⟨hSf.z.cells, hSf.z.free⟩)
          go_wp2_with fail
          exact odd_fin rfl hSf _ rfl rfl
        · have hr5 : ∃ r : Nat, nv % 5 = (r : Int) ∧ r < 5 := ⟨(nv % 5).toNat, by omega, by omega⟩
          obtain ⟨rr, hrr, hr5⟩ := hr5
          have HRR := Lib.hid hrr
          have hrr1 : (rr : Int) ≤ nv % 5 := by omega
          have hrr2 : nv % 5 ≤ (rr : Int) := by omega
          obtain ⟨NN, hNN⟩ : ∃ N, (Ex.mk op var ty nn bb s l).size = N := ⟨_, rfl⟩
          have HNN := Lib.hid hNN
          have hNs : NN < 4194304 := by rw [← hNN]; exact HSZ.out
          clear c0 c1 c2 c3 c4' c5 c6 f0 f1 f2 f3 f4 f5 f6 hO5 hK5 hLO p0 p1 p2 hrr hNN hcap hsl
          go_wp2_with fail
          go_loopw [8] (fun kv wr => ∃ (j : Nat) (x : Ex) (A' : Option Addr) (c' d' : Nat), j ≤ 2 + rr ∧ kv = .int .i64 j ∧ Hid (OddS w wr w4.heap.size x A' c' d' (2 ^ j * (NN + 1) - 1))) (fun kv _ => 2 + rr - (intOf kv).toNat)
          case atStart => exact ⟨0, _, A4, c4, d + 1, Nat.zero_le _, rfl, Lib.hid (HS5.out.le (by rw [HNN.out]; omega))⟩
          case round =>
            obtain ⟨j, x, A', c', d', hj, rfl, hSr⟩ := hrel
            by_cases hlt : j < 2 + rr
            · have tj : decide ((j : Int) < 2 + nv % 5) = true := by simp; omega
              have hpw : 2 ^ j ≤ 32 := by
                have : (2 : Nat) ^ j ≤ 2 ^ 5 := Nat.pow_le_pow_right (by omega) (by omega)
                omega
              have hmul : 2 ^ j * (NN + 1) ≤ 32 * (NN + 1) := Nat.mul_le_mul_right _ hpw
              have hsx := hSr.out.sz
              have hxb : x.size < 4294967296 := by omega
              have hbo := hSr.out.inb.lt
              clear hpw hmul hsx
              go_wp2_with fail
              apply wp_region_seq (l := [_, _, _]) (t := [_, _, _]) [some 128, some 129, some 130, some 131, some 132, none] [[], [], [1], [0, 2], [3], [4]] [3, 2, 3] [eqv _, eqv _, (ndSP wr.heap.size x d')] (by kernel_rfl) (by kernel_rfl) ⟨?o0, ?o1, ?o2, trivial⟩ ?last
              case o0 => -- Op.load 29 (Operand.tmp 5)
                intro xv W hE _
                obtain ⟨y0, y1, y2, y3, y4, y5, y6⟩ := (hSr.out.ext' ((Ext.drew _).trans hE)).inb.cells
                simp only [putD, List.foldl_nil, List.getD_cons_zero]
                refine OpGoal.plain ?_
                go_wp2_with fail
                exact ⟨rfl, Ext.refl _, rfl⟩
              case o1 => -- Op.load 29 (Operand.tmp 5)
                intro xv W hE _
                obtain ⟨y0, y1, y2, y3, y4, y5, y6⟩ := (hSr.out.ext' ((Ext.drew _).trans hE)).inb.cells
                simp only [putD, List.foldl_nil, List.getD_cons_zero, List.getD_cons_succ]
                refine OpGoal.plain ?_
                go_wp2_with fail
                exact ⟨rfl, Ext.refl _, rfl⟩
              case o2 => -- Op.call { callee := Callee.value (Operand.func 35), args := #[Operand.tmp 129], 
                intro xv W hE hp
                have r1 : xv 1 = _ := hp.1
                clear hp
                simp only [putD, List.foldl_nil, List.foldl_cons, List.getD_cons_zero, List.getD_cons_succ, Act.put, List.setIfInBounds_toArray, List.set_cons_zero, List.set_cons_succ]
                refine OpGoal.plain ?_
                go_wp2_with fail
                refine (Copy_any d' x A' c' W (((hSr.out.ext' ((Ext.drew _).trans hE)).kids).more fun k hk => hk.2.1) hxb).mono ?_
                rintro e w' ⟨A7, c7, rfl, hk7, hE7⟩
                go_wp2_with fail
                exact ⟨rfl, hE7, A7, c7, rfl, hk7.more fun b hb => ⟨Nat.le_trans ((Ext.drew wr).trans hE).sz hb.1, hb.2⟩⟩
              case last =>
                intro xv W hE hp
                have r0 : xv 0 = _ := hp.1
                have r1 : xv 1 = _ := hp.2.1
                obtain ⟨A7, c7, r2, hk7⟩ := hp.2.2.1
                clear hp
                simp only [putD, List.foldl_nil, List.foldl_cons, List.getD_cons_zero, List.getD_cons_succ, Act.put, List.length_cons, List.length_nil, List.range_succ, List.range_zero, List.nil_append, List.cons_append, List.setIfInBounds_toArray, List.set_cons_zero, List.set_cons_succ]
                have hSW := hSr.out.ext' ((Ext.drew _).trans hE)
                have r0' : xv 0 = .agg #[.int .i64 x.op, .int .i64 x.var, .int .i64 x.ty, .int .i64 x.n, .bool x.b, .string ⟨x.s.toArray⟩, .slice A' x.l.length c'] := r0
                rw [r0', r2]
                have hsW := ((Ext.drew wr).trans hE).sz
                have HS := Lib.hid hSW
                clear r0 r1 r2 r0' hE
                have hEa : Ext W (W.alloc (.cells #[.int .i64 x.op, .int .i64 x.var, .int .i64 x.ty, .int .i64 x.n, .bool x.b, .string ⟨x.s.toArray⟩, .slice A' x.l.length c', .int .i64 x.op, .int .i64 x.var, .int .i64 x.ty, .int .i64 x.n, .bool x.b, .string ⟨x.s.toArray⟩, .slice A7 x.l.length c7] 29)) := Ext.alloc _ _
                obtain ⟨y0, y1, y2, y3, y4, y5, y6⟩ := (hSW.inb.ext hEa).cells
                obtain ⟨f0, f1, f2, f3, f4, f5, f6⟩ := (hSW.inb.ext hEa).freeAll
                clear hSW
                go_wp2_with fail
                go_roundw
                case rel =>
                  refine ⟨j + 1, .mk 4 0 0 0 false [] [x, x], some ⟨W.heap.size, 0, none⟩, 2, d' + 1, by omega, by go_num, Lib.hid ?_⟩
                  have hSW := HS.out
                  have hIa := hSW.inb.ext hEa
                  have hG := set7_grown (W.alloc (.cells #[.int .i64 x.op, .int .i64 x.var, .int .i64 x.ty, .int .i64 x.n, .bool x.b, .string ⟨x.s.toArray⟩, .slice A' x.l.length c', .int .i64 x.op, .int .i64 x.var, .int .i64 x.ty, .int .i64 x.n, .bool x.b, .string ⟨x.s.toArray⟩, .slice A7 x.l.length c7] 29)) w4.heap.size (.mk 4 0 0 0 false [] [x, x]) (.slice (some ⟨W.heap.size, 0, none⟩) 2 2)
                  have hsa := hEa.sz
                  have hbW := hSW.inb.lt
                  have hb2 := hSW.hbo
                  have hsz1 := hSW.ext.sz
                  show OddS w (set7 (W.alloc (.cells #[.int .i64 x.op, .int .i64 x.var, .int .i64 x.ty, .int .i64 x.n, .bool x.b, .string ⟨x.s.toArray⟩, .slice A' x.l.length c', .int .i64 x.op, .int .i64 x.var, .int .i64 x.ty, .int .i64 x.n, .bool x.b, .string ⟨x.s.toArray⟩, .slice A7 x.l.length c7] 29)) w4.heap.size (.mk 4 0 0 0 false [] [x, x]) (.slice (some ⟨W.heap.size, 0, none⟩) 2 2)) w4.heap.size (.mk 4 0 0 0 false [] [x, x]) _ _ _ _
                  refine ⟨hIa.set7 (.mk 4 0 0 0 false [] [x, x]) _, (hSW.z.ext hEa).own hG (by simp; omega), Below.trans (hSW.ext.trans hEa) (below_row' hG (by omega) (fun g e => by simp only [Option.some.injEq] at e; omega)), ?_, ?_, ?_, hb2⟩
                  · have hrow : ExL (W.alloc (.cells #[.int .i64 x.op, .int .i64 x.var, .int .i64 x.ty, .int .i64 x.n, .bool x.b, .string ⟨x.s.toArray⟩, .slice A' x.l.length c', .int .i64 x.op, .int .i64 x.var, .int .i64 x.ty, .int .i64 x.n, .bool x.b, .string ⟨x.s.toArray⟩, .slice A7 x.l.length c7] 29)) (fun k => w.heap.size + 2 < k ∧ k < (W.alloc (.cells #[.int .i64 x.op, .int .i64 x.var, .int .i64 x.ty, .int .i64 x.n, .bool x.b, .string ⟨x.s.toArray⟩, .slice A' x.l.length c', .int .i64 x.op, .int .i64 x.var, .int .i64 x.ty, .int .i64 x.n, .bool x.b, .string ⟨x.s.toArray⟩, .slice A7 x.l.length c7] 29)).heap.size ∧ k ≠ w4.heap.size) (d' + 1) (some ⟨W.heap.size, 0, none⟩) (List.map (·.x) [(⟨x, A', c'⟩ : Nd), ⟨x, A7, c7⟩]) := by
                      refine ExL.row ⟨by omega, by simp, by omega⟩ ?_ ?_
                      · intro u hu
                        simp only [List.mem_cons, List.not_mem_nil, or_false] at hu
                        rcases hu with rfl | rfl
                        · exact (hSW.kids.keep fun k hk o => hEa.old (p := ⟨k, o, none⟩) hk.2.1).more fun k hk => ⟨hk.1, Nat.lt_of_lt_of_le hk.2.1 hsa, hk.2.2⟩
                        · exact (hk7.keep fun k hk o => hEa.old (p := ⟨k, o, none⟩) hk.2).more fun k hk => ⟨by omega, Nat.lt_of_lt_of_le hk.2 hsa, by omega⟩
                      · intro i v hi
                        rw [World.cell?_alloc_new]
                        simpa [Nd.cells, Ex.cells] using hi
                    exact (hrow.keep fun k hk o => grown_cell hG hk.2.1 (by have := hk.2.2; simp; omega) o).more fun k hk => ⟨hk.1, Nat.lt_of_lt_of_le hk.2.1 hG.size, hk.2.2⟩
                  · have h1 := hSW.sz
                    have h2 : 2 ^ (j + 1) * (NN + 1) = 2 * (2 ^ j * (NN + 1)) := by rw [Nat.pow_succ, Nat.mul_comm (2 ^ j) 2, Nat.mul_assoc]
                    have h3 : 0 < 2 ^ j * (NN + 1) := Nat.mul_pos (Nat.pow_pos (by omega)) (by omega)
                    rw [Ex.size_two, h2]; omega
                  · rw [Ex.ok]
                    exact ⟨by decide, by decide, by decide, by decide, by simp, hSW.ok, hSW.ok, trivial⟩
                case measure => simp [intOf]; omega
            · obtain rfl : j = 2 + rr := by omega
              have tj : decide (((2 + rr : Nat) : Int) < 2 + nv % 5) = false := by simp; omega
              have hpw : 2 ^ (2 + rr) ≤ 64 := by
                have : (2 : Nat) ^ (2 + rr) ≤ 2 ^ 6 := Nat.pow_le_pow_right (by omega) (by omega)
                omega
              have hmul : 2 ^ (2 + rr) * (NN + 1) ≤ 64 * (NN + 1) := Nat.mul_le_mul_right _ hpw
              have hSf := hSr.out.le (show 2 ^ (2 + rr) * (NN + 1) - 1 ≤ 64 * (Ex.mk op var ty nn bb s l).size + 63 by rw [HNN.out]; omega)
              clear hpw hmul hlt
              go_upto_region 27 with fail
              obtain ⟨x0, x1, x2, x3, x4, x5, x6⟩ := hSf.inb.cells
              obtain ⟨⟨z0, z1, z2, z3, z4, z5, z6⟩, y0, y1, y2, y3, y4, y5, y6⟩ := (show Z7F _ (w.heap.size + 1 + 1) from ⟨hSf.z.cells, hSf.z.free⟩)
              go_wp2_with fail
              exact odd_fin rfl hSf _ rfl rfl
end Go.Proofs.YtggkkjnfonbpkaaGreatDoor
