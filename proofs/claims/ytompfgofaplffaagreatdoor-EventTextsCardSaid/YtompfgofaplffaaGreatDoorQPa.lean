/- fuse.All$2: how long the border of two faces is (printed by gen_ex.py). -/
import Derived.Test.YtompfgofaplffaaGreatDoorQEw
import Derived.Lib.SlKept
import Derived.Lib.AtoiAllCases
import Derived.Lib.ItoaLen
import Derived.Lib.ItoaMem
set_option linter.unusedSimpArgs false
set_option linter.unusedVariables false
namespace Go.Proofs.YtompfgofaplffaaGreatDoor
open Go.RowKit Hach

/-- The length of the border, of the first k edges. -/
def sumB (es : List Ed) (x y : Int) : Nat → Int
  | 0 => 0
  | k + 1 => sumB es x y k + (if besE (ed es k) x y = true then lenLn (ed es k).line else 0)
set_option maxRecDepth 100000 in
set_option maxHeartbeats 8000000 in
theorem fbord_any (m : Mp) (a : Ma) (x y : Int) (B C : Nat) (w : World) (hm : MpAt w a m) (hB : w.heap[B]? = some (.cells (a.cells m).toArray 41 (0, 0))) (hC : w.cell? ⟨C, 0, none⟩ = some (.int .i64 x))
    (hr : ∀ k, k < m.edges.length → (ed m.edges k).line.all rightP = true ∧ (ed m.edges k).line.length < 1000000000) (hs : ∀ k, k ≤ m.edges.length → 0 ≤ sumB m.edges x y k ∧ sumB m.edges x y k ≤ 4611686018427387904) :
    Calls Tryz.prog 90 #[.int .i64 y, .pointer (some ⟨B, 0, none⟩), .pointer (some ⟨C, 0, none⟩)] w fun e w' => e = .returned (.int .i64 (sumB m.edges x y m.edges.length)) ∧ Ext w w' := by
  have hBox := Ma.box hB
  have HC := Lib.hid (fun W (h : Ext w W) => cell_ext h hC)
  have HR := Lib.hid (fun W (h : Ext w W) => (hm.edges.keep h).1)
  have HL := Lib.hid (fun k (hk : k < m.edges.length) W (h : Ext w W) => length_in (a.el.a k) (a.el.c k) (ed m.edges k).line (hr k hk).2 (hr k hk).1 W ((hm.edges.keep h).2 k hk).1)
  have HS := Lib.hid hs
  have hsm := hm.small.1
  obtain ⟨z0, _⟩ := hBox
  generalize a.ea = A at *
  generalize a.el = L at *
  generalize m.edges = es at *
  clear hm hB hC hr hs
  go_enter Tryz.func90, Tryz.ntmps90
  go_wp2_with fail
  go_loopw [5, 11] (fun s5 s11 wr => ∃ k : Nat, k ≤ es.length ∧ s11 = .int .i64 k ∧ s5 = .int .i64 (sumB es x y k) ∧ Ext w wr) (fun _ s11 _ => es.length - (intOf s11).toNat)
  case atStart => exact ⟨0, Nat.zero_le _, rfl, rfl, Ext.refl _⟩
  case round =>
    obtain ⟨k, hk, rfl, rfl, hE⟩ := hrel
    by_cases hlt : k < es.length
    · have t : decide (k < es.length) = true := by simpa using hlt
      have hr := HR.out wr hE
      obtain ⟨b, o, rfl, _⟩ := hr.some_ (by omega)
      have q0 := hr.cell (j := k) (i := 0) hlt rfl
      have q1 := hr.cell (j := k) (i := 1) hlt rfl
      have q2 := hr.cell (j := k) (i := 2) hlt rfl
      have q3 := hr.cell (j := k) (i := 3) hlt rfl
      rw [Nat.add_zero] at q0
      have hb : sumB es x y (k + 1) = sumB es x y k + (if besE (ed es k) x y = true then lenLn (ed es k).line else 0) := rfl
      have hs1 := HS.out (k + 1) (by omega)
      have hbe : besE (ed es k) x y = ((((ed es k).left == x) && ((ed es k).right == y)) || (((ed es k).left == y) && ((ed es k).right == x))) := rfl
      have hln := fun W h => HL.out k hlt W h
      have hcc := HC.out
      generalize hsu : sumB es x y (k + 1) = s1 at *
      have HSU := Lib.hid hsu
      clear hsu
      generalize sumB es x y k = s0 at *
      generalize lenLn (ed es k).line = lk at *
      generalize (ed es k).id = xid at *
      generalize (ed es k).left = lf at *
      generalize (ed es k).right = rt at *
      generalize L.a k = la at *
      generalize (ed es k).line.length = ll at *
      have hE1 := Ext.alloc wr (.cells #[.int .i64 xid, .slice la ll (L.c k), .int .i64 lf, .int .i64 rt] 77)
      have bZ := Go.heap_alloc_new wr (.cells #[.int .i64 xid, .slice la ll (L.c k), .int .i64 lf, .int .i64 rt] 77)
      have y0 := cells_of bZ 0 _ rfl
      have y1 := cells_of bZ 1 _ rfl
      have y2 := cells_of bZ 2 _ rfl
      have y3 := cells_of bZ 3 _ rfl
      have yc := hcc _ (Ext.trans hE hE1)
      have HLN := Lib.hid (hln _ (Ext.trans hE hE1))
      have HB := Lib.hid hb
      have HS1 := Lib.hid hs1
      have HBE := Lib.hid hbe
      clear hr hb hbe bZ HR HL HS HC hln hcc hs1
      cases h1 : (lf == x) <;> cases h2 : (rt == y) <;> cases h3 : (lf == y) <;> cases h4 : (rt == x)
      · have hN := HB.out
        rw [HBE.out, h1, h2, h3, h4, if_neg (by decide), Int.add_zero] at hN
        have HN := Lib.hid hN
        clear hN
        go_wp2_with fail
        go_roundw
        case rel => exact ⟨k + 1, by omega, by go_num, by rw [show sumB es x y (k + 1) = s1 from HSU.out, HN.out], Ext.trans hE hE1⟩
        case measure => simp [intOf]; omega
      · have hN := HB.out
        rw [HBE.out, h1, h2, h3, h4, if_neg (by decide), Int.add_zero] at hN
        have HN := Lib.hid hN
        clear hN
        go_wp2_with fail
        go_roundw
        case rel => exact ⟨k + 1, by omega, by go_num, by rw [show sumB es x y (k + 1) = s1 from HSU.out, HN.out], Ext.trans hE hE1⟩
        case measure => simp [intOf]; omega
      · have hN := HB.out
        rw [HBE.out, h1, h2, h3, h4, if_neg (by decide), Int.add_zero] at hN
        have HN := Lib.hid hN
        clear hN
        go_wp2_with fail
        go_roundw
        case rel => exact ⟨k + 1, by omega, by go_num, by rw [show sumB es x y (k + 1) = s1 from HSU.out, HN.out], Ext.trans hE hE1⟩
        case measure => simp [intOf]; omega
      · have hN := HB.out
        rw [HBE.out, h1, h2, h3, h4, if_pos (by decide)] at hN
        have e1 : IntKind.i64.wrap (s0 + lk) = s1 := by rw [hN]; exact IntWalk.i64_in _ (by have := HS1.out; omega)
        have HN := Lib.hid hN
        clear hN
        go_wp2_with fail
        refine HLN.out.mono ?_
        rintro e w' ⟨rfl, hE2⟩
        go_wp2_with fail
        go_roundw
        case rel => exact ⟨k + 1, by omega, by go_num, by rw [show sumB es x y (k + 1) = s1 from HSU.out], Ext.trans (Ext.trans hE hE1) hE2⟩
        case measure => simp [intOf]; omega
      · have hN := HB.out
        rw [HBE.out, h1, h2, h3, h4, if_neg (by decide), Int.add_zero] at hN
        have HN := Lib.hid hN
        clear hN
        go_wp2_with fail
        go_roundw
        case rel => exact ⟨k + 1, by omega, by go_num, by rw [show sumB es x y (k + 1) = s1 from HSU.out, HN.out], Ext.trans hE hE1⟩
        case measure => simp [intOf]; omega
      · have hN := HB.out
        rw [HBE.out, h1, h2, h3, h4, if_neg (by decide), Int.add_zero] at hN
        have HN := Lib.hid hN
        clear hN
        go_wp2_with fail
        go_roundw
        case rel => exact ⟨k + 1, by omega, by go_num, by rw [show sumB es x y (k + 1) = s1 from HSU.out, HN.out], Ext.trans hE hE1⟩
        case measure => simp [intOf]; omega
      · have hN := HB.out
        rw [HBE.out, h1, h2, h3, h4, if_neg (by decide), Int.add_zero] at hN
        have HN := Lib.hid hN
        clear hN
        go_wp2_with fail
        go_roundw
        case rel => exact ⟨k + 1, by omega, by go_num, by rw [show sumB es x y (k + 1) = s1 from HSU.out, HN.out], Ext.trans hE hE1⟩
        case measure => simp [intOf]; omega
      · have hN := HB.out
        rw [HBE.out, h1, h2, h3, h4, if_pos (by decide)] at hN
        have e1 : IntKind.i64.wrap (s0 + lk) = s1 := by rw [hN]; exact IntWalk.i64_in _ (by have := HS1.out; omega)
        have HN := Lib.hid hN
        clear hN
        go_wp2_with fail
        refine HLN.out.mono ?_
        rintro e w' ⟨rfl, hE2⟩
        go_wp2_with fail
        go_roundw
        case rel => exact ⟨k + 1, by omega, by go_num, by rw [show sumB es x y (k + 1) = s1 from HSU.out], Ext.trans (Ext.trans hE hE1) hE2⟩
        case measure => simp [intOf]; omega
      · have hN := HB.out
        rw [HBE.out, h1, h2, h3, h4, if_neg (by decide), Int.add_zero] at hN
        have HN := Lib.hid hN
        clear hN
        go_wp2_with fail
        go_roundw
        case rel => exact ⟨k + 1, by omega, by go_num, by rw [show sumB es x y (k + 1) = s1 from HSU.out, HN.out], Ext.trans hE hE1⟩
        case measure => simp [intOf]; omega
      · have hN := HB.out
        rw [HBE.out, h1, h2, h3, h4, if_neg (by decide), Int.add_zero] at hN
        have HN := Lib.hid hN
        clear hN
        go_wp2_with fail
        go_roundw
        case rel => exact ⟨k + 1, by omega, by go_num, by rw [show sumB es x y (k + 1) = s1 from HSU.out, HN.out], Ext.trans hE hE1⟩
        case measure => simp [intOf]; omega
      · have hN := HB.out
        rw [HBE.out, h1, h2, h3, h4, if_neg (by decide), Int.add_zero] at hN
        have HN := Lib.hid hN
        clear hN
        go_wp2_with fail
        go_roundw
        case rel => exact ⟨k + 1, by omega, by go_num, by rw [show sumB es x y (k + 1) = s1 from HSU.out, HN.out], Ext.trans hE hE1⟩
        case measure => simp [intOf]; omega
      · have hN := HB.out
        rw [HBE.out, h1, h2, h3, h4, if_pos (by decide)] at hN
        have e1 : IntKind.i64.wrap (s0 + lk) = s1 := by rw [hN]; exact IntWalk.i64_in _ (by have := HS1.out; omega)
        have HN := Lib.hid hN
        clear hN
        go_wp2_with fail
        refine HLN.out.mono ?_
        rintro e w' ⟨rfl, hE2⟩
        go_wp2_with fail
        go_roundw
        case rel => exact ⟨k + 1, by omega, by go_num, by rw [show sumB es x y (k + 1) = s1 from HSU.out], Ext.trans (Ext.trans hE hE1) hE2⟩
        case measure => simp [intOf]; omega
      · have hN := HB.out
        rw [HBE.out, h1, h2, h3, h4, if_pos (by decide)] at hN
        have e1 : IntKind.i64.wrap (s0 + lk) = s1 := by rw [hN]; exact IntWalk.i64_in _ (by have := HS1.out; omega)
        have HN := Lib.hid hN
        clear hN
        go_wp2_with fail
        refine HLN.out.mono ?_
        rintro e w' ⟨rfl, hE2⟩
        go_wp2_with fail
        go_roundw
        case rel => exact ⟨k + 1, by omega, by go_num, by rw [show sumB es x y (k + 1) = s1 from HSU.out], Ext.trans (Ext.trans hE hE1) hE2⟩
        case measure => simp [intOf]; omega
      · have hN := HB.out
        rw [HBE.out, h1, h2, h3, h4, if_pos (by decide)] at hN
        have e1 : IntKind.i64.wrap (s0 + lk) = s1 := by rw [hN]; exact IntWalk.i64_in _ (by have := HS1.out; omega)
        have HN := Lib.hid hN
        clear hN
        go_wp2_with fail
        refine HLN.out.mono ?_
        rintro e w' ⟨rfl, hE2⟩
        go_wp2_with fail
        go_roundw
        case rel => exact ⟨k + 1, by omega, by go_num, by rw [show sumB es x y (k + 1) = s1 from HSU.out], Ext.trans (Ext.trans hE hE1) hE2⟩
        case measure => simp [intOf]; omega
      · have hN := HB.out
        rw [HBE.out, h1, h2, h3, h4, if_pos (by decide)] at hN
        have e1 : IntKind.i64.wrap (s0 + lk) = s1 := by rw [hN]; exact IntWalk.i64_in _ (by have := HS1.out; omega)
        have HN := Lib.hid hN
        clear hN
        go_wp2_with fail
        refine HLN.out.mono ?_
        rintro e w' ⟨rfl, hE2⟩
        go_wp2_with fail
        go_roundw
        case rel => exact ⟨k + 1, by omega, by go_num, by rw [show sumB es x y (k + 1) = s1 from HSU.out], Ext.trans (Ext.trans hE hE1) hE2⟩
        case measure => simp [intOf]; omega
      · have hN := HB.out
        rw [HBE.out, h1, h2, h3, h4, if_pos (by decide)] at hN
        have e1 : IntKind.i64.wrap (s0 + lk) = s1 := by rw [hN]; exact IntWalk.i64_in _ (by have := HS1.out; omega)
        have HN := Lib.hid hN
        clear hN
        go_wp2_with fail
        refine HLN.out.mono ?_
        rintro e w' ⟨rfl, hE2⟩
        go_wp2_with fail
        go_roundw
        case rel => exact ⟨k + 1, by omega, by go_num, by rw [show sumB es x y (k + 1) = s1 from HSU.out], Ext.trans (Ext.trans hE hE1) hE2⟩
        case measure => simp [intOf]; omega
    · obtain rfl : k = es.length := by omega
      have t : decide (es.length < es.length) = false := by simp
      go_wp2_with fail
      go_ret
      exact ⟨rfl, hE⟩
end Go.Proofs.YtompfgofaplffaaGreatDoor

namespace Go.Proofs.YtompfgofaplffaaGreatDoor
open Go.RowKit Hach

/-- The first of those that measure most, of the first k. -/
def bestF (μ : Int → Int) (zs : List Int) : Nat → Int
  | 0 => 0
  | k + 1 => if k = 0 ∨ μ (bestF μ zs k) < μ (zs.getD k 0) then zs.getD k 0 else bestF μ zs k
theorem bestF_mem (μ : Int → Int) (zs : List Int) : ∀ {k : Nat}, 0 < k → k ≤ zs.length → bestF μ zs k ∈ zs
  | 0, h, _ => absurd h (Nat.lt_irrefl _)
  | k + 1, _, hk => by
    have hx : zs.getD k 0 ∈ zs := by rw [List.getD_eq_getElem?_getD, List.getElem?_eq_getElem (by omega)]; exact List.getElem_mem _
    unfold bestF
    by_cases h : k = 0 ∨ μ (bestF μ zs k) < μ (zs.getD k 0)
    · rw [if_pos h]; exact hx
    · rw [if_neg h]; exact bestF_mem μ zs (by omega) (by omega)
/-- Integers in memory. -/
def IntsAt (W : World) (A : Option Addr) (zs : List Int) : Prop := ∀ j, j < zs.length → ∃ b o, A = some ⟨b, o, none⟩ ∧ W.cell? ⟨b, o + j, none⟩ = some (.int .i64 (zs.getD j 0))
theorem IntsAt.keep {W W' : World} {A : Option Addr} {zs : List Int} (h : IntsAt W A zs) (hE : Ext W W') : IntsAt W' A zs := fun j hj => by
  obtain ⟨b, o, e, hc⟩ := h j hj
  exact ⟨b, o, e, cell_ext hE hc⟩
set_option maxRecDepth 100000 in
set_option maxHeartbeats 4000000 in
theorem longest_any (μ : Int → Int) (zs : List Int) (A : Option Addr) (c g : Nat) (lb : Array Value) (eg : ∀ args w, (callFunc g args).run Tryz.prog w = .ok (.enter g args) w) (w : World) (hn : zs.length < 4611686018427387904) (hA : IntsAt w A zs)
    (hμ : ∀ W z, Ext w W → z ∈ zs → Calls Tryz.prog g (#[.int .i64 z] ++ lb) W fun e w' => e = .returned (.int .i64 (μ z)) ∧ Ext W w') :
    Calls Tryz.prog 92 #[.slice A zs.length c, .func (.func g) #[] lb] w fun e w' => e = .returned (.tuple #[.int .i64 (bestF μ zs zs.length), .bool (decide (0 < zs.length))]) ∧ Ext w w' := by
  have HA := Lib.hid (fun W (h : Ext w W) => hA.keep h)
  have HMU := Lib.hid hμ
  have HBM := Lib.hid (fun k (h1 : 0 < k) (h2 : k ≤ zs.length) => bestF_mem μ zs h1 h2)
  have HME := Lib.hid (fun k (h1 : k < zs.length) => (show zs.getD k 0 ∈ zs by rw [List.getD_eq_getElem?_getD, List.getElem?_eq_getElem h1]; exact List.getElem_mem _))
  clear hA hμ
  go_enter Tryz.func92, Tryz.ntmps92
  go_wp2_with fail
  go_loopw [6, 11] (fun s6 s11 wr => ∃ k : Nat, k ≤ zs.length ∧ s11 = .int .i64 k ∧ s6 = .int .i64 (bestF μ zs k) ∧ Ext w wr) (fun _ s11 _ => zs.length - (intOf s11).toNat)
  case atStart => exact ⟨0, Nat.zero_le _, rfl, rfl, Ext.refl _⟩
  case round =>
    obtain ⟨k, hk, rfl, rfl, hE⟩ := hrel
    by_cases hlt : k < zs.length
    · have t : decide (k < zs.length) = true := by simpa using hlt
      obtain ⟨b, o, rfl, q0⟩ := HA.out wr hE k hlt
      have hme := HME.out k hlt
      have hbs : bestF μ zs (k + 1) = if k = 0 ∨ μ (bestF μ zs k) < μ (zs.getD k 0) then zs.getD k 0 else bestF μ zs k := rfl
      have HC1 := Lib.hid (fun W (h : Ext w W) => HMU.out W _ h hme)
      have HC2 := Lib.hid (fun W (h : Ext w W) (h0 : 0 < k) => HMU.out W _ h (HBM.out k h0 (by omega)))
      clear hme
      generalize zs.getD k 0 = x at *
      generalize hb1 : bestF μ zs (k + 1) = b1 at *
      generalize bestF μ zs k = b0 at *
      have HB1 := Lib.hid hb1
      have HBS := Lib.hid hbs
      clear hb1 hbs
      by_cases h0 : k = 0
      · subst h0
        rw [Nat.add_zero] at q0
        have hv : x = b1 := by rw [HBS.out, if_pos (.inl rfl)]
        go_wp2_with fail
        go_roundw
        case rel => exact ⟨1, by omega, by go_num, by rw [show bestF μ zs 1 = b1 from HB1.out], hE⟩
        case measure => simp [intOf]; omega
      · have t0 : ¬ (k : Int) = 0 := by omega
        have hc1 := HC1.out wr hE
        go_wp2_with fail
        refine hc1.mono ?_
        rintro e w' ⟨rfl, hE'⟩
        have hc2 := HC2.out w' (Ext.trans hE hE') (by omega)
        clear hc1
        go_wp2_with fail
        refine hc2.mono ?_
        rintro e w2 ⟨rfl, hE2⟩
        go_wp2_with fail
        · rename_i hg
          have hv : b1 = x := by rw [HBS.out, if_pos (.inr (hg.resolve_left (by simpa using t0)))]
          go_roundw
          case rel => exact ⟨k + 1, by omega, by go_num, by rw [show bestF μ zs (k + 1) = b1 from HB1.out, hv], Ext.trans (Ext.trans hE hE') hE2⟩
          case measure => simp [intOf]; omega
        · rename_i hg
          have hg' : ¬ μ b0 < μ x := by first | exact hg | (simpa using hg) | omega
          have hv : b1 = b0 := by rw [HBS.out, if_neg (fun h => h.elim h0 hg')]
          go_roundw
          case rel => exact ⟨k + 1, by omega, by go_num, by rw [show bestF μ zs (k + 1) = b1 from HB1.out, hv], Ext.trans (Ext.trans hE hE') hE2⟩
          case measure => simp [intOf]; omega
    · obtain rfl : k = zs.length := by omega
      have t : decide (zs.length < zs.length) = false := by simp
      go_wp2_with fail
      refine bodyPost_ret (v := .tuple #[.int .i64 (bestF μ zs zs.length), .bool (decide (0 < zs.length))]) (by simp [results, Tryz.f92, go_sem]) rfl ⟨rfl, hE⟩
end Go.Proofs.YtompfgofaplffaaGreatDoor

namespace Go.Proofs.YtompfgofaplffaaGreatDoor
open Go.RowKit Hach

set_option maxHeartbeats 2000000 in
theorem fnot_any (m : Mp) (a : Ma) (b o r i j B C D : Nat) (w : World) (hm : MpAt w a m) (hA : a.fa = some ⟨b, o, none⟩) (hap : Apart m.faces) (hM : MapI w r (knF b o m.faces m.faces.length)) (hi : i < m.faces.length) (hj : j < m.faces.length)
    (hlen : m.edges.length < 1000000000) (hd : (fa m.faces i).district = (fa m.faces j).district) (hd1 : 1 ≤ (fa m.faces j).district)
    (hnm : bors m.edges (fa m.faces i).id (fa m.faces j).id m.edges.length = [] ∨ (fa m.faces i).name = [] ∨ (fa m.faces j).name = [])
    (hB : w.heap[B]? = some (.cells (a.cells m).toArray 41 (0, 0))) (hC : w.cell? ⟨C, 0, none⟩ = some (.map (some r))) (hD : w.cell? ⟨D, 0, none⟩ = some (.int .i64 (fa m.faces i).id)) :
    Calls Tryz.prog 89 #[.int .i64 (fa m.faces j).id, .pointer (some ⟨B, 0, none⟩), .pointer (some ⟨C, 0, none⟩), .pointer (some ⟨D, 0, none⟩)] w fun e w' => e = .returned (.bool (canF m.edges (fa m.faces i).id (fa m.faces j).id != 0)) ∧ Ext w w' := by
  have HF : Hid (Calls Tryz.prog 82 #[.agg #[.slice a.ea m.edges.length a.ec, .slice a.fa m.faces.length a.fc, .slice a.wa m.ways.length a.wc, .slice a.pa m.places.length a.pc], .map (some r), .int .i64 (fa m.faces i).id, .int .i64 (fa m.faces j).id] w fun e w' => e = .returned (.int .i64 (canF m.edges (fa m.faces i).id (fa m.faces j).id)) ∧ Ext w w') := Lib.hid (fcan_any m a b o r i j w hm hA hap hM hi hj hlen hd hd1 hnm)
  obtain ⟨z0, z1, z2, z3⟩ := Ma.box hB
  clear hm hA hap hM hlen hd hd1 hnm hB
  generalize canF m.edges (fa m.faces i).id (fa m.faces j).id = rs at *
  generalize (fa m.faces i).id = x at *
  generalize (fa m.faces j).id = y at *
  go_enter Tryz.func89, Tryz.ntmps89
  go_wp2_with fail
  refine HF.out.mono ?_
  rintro e w' ⟨rfl, hE'⟩
  go_wp2_with fail
  go_ret
  exact ⟨rfl, hE'⟩
end Go.Proofs.YtompfgofaplffaaGreatDoor

namespace Go.Proofs.YtompfgofaplffaaGreatDoor
open Go.RowKit Hach Go.Lib Go.Sort

def HoldI (W : World) (b : Nat) (d : Array Int) : Prop := ∀ j, j < d.size → W.cell? ⟨b, j, none⟩ = some (.int .i64 d[j]!) ∧ W.frozen? ⟨b, j, none⟩ = false
theorem HoldI.keep {W W' : World} {b : Nat} {d : Array Int} (h : HoldI W b d) (hb : b < W.heap.size) (hE : Ext W W') : HoldI W' b d := fun j hj => by
  refine ⟨cell_ext hE (h j hj).1, ?_⟩
  have := hE.below.block b hb
  rw [← (h j hj).2]; simp only [World.frozen?, this]
theorem HoldI.set {W : World} {b i : Nat} {d : Array Int} (h : HoldI W b d) (hi : i < d.size) (x : Int) : HoldI (W.setCell ⟨b, i, none⟩ (.int .i64 x)) b (d.setIfInBounds i x) := fun j hj => by
  have hj' : j < d.size := by simpa using hj
  have e1 : W.setCell ⟨b, i, none⟩ (.int .i64 x) = W.setCells b i [.int .i64 x] := rfl
  rw [e1]
  refine ⟨?_, by rw [World.frozen?_setCells]; exact (h j hj').2⟩
  by_cases e : j = i
  · subst e
    have := World.cell?_setCells_in b [.int .i64 x] j W (fun t ht => by
      have : t = 0 := by simpa using ht
      subst this; rw [Nat.add_zero, (h j hj').1]; rfl) 0 (by simp)
    rw [Nat.add_zero] at this
    rw [this, getElem!_set_same d j x hj']; rfl
  · rw [World.cell?_setCells_out b _ _ _ _ (fun _ _ => by show j < i ∨ i + 1 ≤ j; omega), (h j hj').1]
    rw [getElem!_pos (d.setIfInBounds i x) j hj, getElem!_pos d j hj', Array.getElem_setIfInBounds_ne hj' (Ne.symm e)]
theorem idxF_first {p : Nat → Bool} {n k : Nat} (h : idxF p n = (k : Int)) : ∀ j, j < k → p j = false := by
  unfold idxF at h
  cases e : (List.range n).find? p with
  | none =>
    rw [e] at h
    have : (-1 : Int) = (k : Int) := h
    omega
  | some i =>
    rw [e] at h
    have h2 : (i : Int) = (k : Int) := h
    have hik : i = k := by omega
    subst hik
    intro j hj
    have := (List.find?_range_eq_some.1 e).2.2 j hj
    simpa using this
theorem grown_cells (b : Nat) : ∀ (vs : List Value) (o : Nat) (w : World), w.grownBy (w.setCells b o vs) (some b)
  | [], _, w => grownE (Ext.refl w) _
  | v :: vs, o, w => grownE_trans (grownE_set w b o v) (grown_cells b vs (o + 1) _)
theorem zero_int (w : World) : (zeroValue 3).run Tryz.prog w = .ok (.int .i64 0) w := by go_simp
set_option maxRecDepth 100000 in
set_option maxHeartbeats 4000000 in
theorem delF_any (p : Int → Bool) (g : Nat) (lb : Array Value) (eg : ∀ args w, (callFunc g args).run Tryz.prog w = .ok (.enter g args) w) (b c : Nat) (d : Array Int) (w : World) (hb : b < w.heap.size) (hH : HoldI w b d) (hn : d.size < 4611686018427387904) (hcap : d.size ≤ c)
    (hp : ∀ W j, w.grownBy W (some b) → j < d.size → Calls Tryz.prog g (#[.int .i64 d[j]!] ++ lb) W fun e w' => e = .returned (.bool (p d[j]!)) ∧ Ext W w') :
    Calls Tryz.prog 87 #[.slice (some ⟨b, 0, none⟩) d.size c, .func (.func g) #[] lb] w fun e w' => e = .returned (.slice (some ⟨b, 0, none⟩) (d.toList.filter fun x => !p x).length c) ∧
      (IntsAt w' (some ⟨b, 0, none⟩) (d.toList.filter fun x => !p x) ∧ w.grownBy w' (some b)) := by
  have HI := Lib.hid (ixI_any g lb eg (some ⟨b, 0, none⟩) d.size c (fun j => .int .i64 d[j]!) (fun j => p d[j]!) w (by omega)
    (fun W h j hj => ⟨b, 0, rfl, by rw [Nat.zero_add]; exact cell_ext h (hH j hj).1⟩) (fun W h j hj => hp W j (grownE h _) hj))
  obtain ⟨kp, HK⟩ : ∃ kp : Nat → Bool, Hid (kp = fun j => !p d[j]!) := ⟨_, rfl⟩
  have hfil : (d.toList.filter fun x => !p x) = keptUpTo kp d d.size := by rw [HK.out]; exact (keptUpTo_filter (fun x => !p x) d).symm
  rw [hfil]
  have HH := Lib.hid hH
  have HP := Lib.hid hp
  rcases idxF_range (fun j => p d[j]!) d.size with hi | ⟨k0, hk0, hi, ht⟩
  · have hkeep : ∀ j, j < d.size → kp j = true := fun j hj => by
      rw [HK.out]
      show (!p d[j]!) = true
      have := idxF_any (fun j => p d[j]!) d.size
      rw [hi] at this
      have h2 := List.any_eq_false.1 this.symm j (List.mem_range.2 hj)
      simpa using h2
    have e3 : keptUpTo kp d d.size = d.toList := by rw [keptUpTo_all kp d _ hkeep, range_map_get]
    have HE := Lib.hid e3
    rw [hi] at HI
    clear hH hp hkeep hi e3 hfil
    go_enter Tryz.func87, Tryz.ntmps87
    go_wp2_with fail
    refine HI.out.mono ?_
    rintro e w' ⟨rfl, hE⟩
    go_wp2_with fail
    go_ret
    rw [HE.out]
    refine ⟨by simp, fun j hj => ⟨b, 0, rfl, ?_⟩, grownE hE _⟩
    have hj' : j < d.size := by simpa using hj
    rw [Nat.zero_add, cell_ext hE (HH.out j hj').1]
    congr 2
    rw [List.getD_eq_getElem?_getD, List.getElem?_eq_getElem hj, getElem!_pos d j hj']
    simp
  · have hkeep : ∀ j, j < k0 → kp j = true := fun j hj => by
      rw [HK.out]
      show (!p d[j]!) = true
      rw [idxF_first hi j hj]; rfl
    have hdrop : kp k0 = false := by rw [HK.out]; show (!p d[k0]!) = false; rw [ht]; rfl
    have HST := Lib.hid (KeptInv.start (d := d) hkeep hdrop)
    rw [hi] at HI
    clear hH hp hkeep hi hfil hdrop
    go_enter Tryz.func87, Tryz.ntmps87
    go_wp2_with fail
    refine HI.out.mono ?_
    rintro e w' ⟨rfl, hE⟩
    have hne1 : ((k0 : Int) == -1) = false := beq_eq_false_iff_ne.2 (by omega)
    have e1 : IntKind.i64.wrap ((k0 : Int) + 1) = ((k0 + 1 : Nat) : Int) := by rw [IntWalk.i64_in _ (by omega)]; omega
    go_wp2_with fail
    go_loopw [5, 6] (fun s5 s6 wr => ∃ (i j : Nat) (dk : Array Int), s5 = .int .i64 i ∧ s6 = .int .i64 j ∧ j ≤ d.size ∧ Hid (KeptInv kp d j i dk) ∧ Hid (HoldI wr b dk) ∧ w.grownBy wr (some b)) (fun _ s6 _ => d.size - (intOf s6).toNat)
    case atStart => exact ⟨k0, k0 + 1, d, rfl, by go_num, by omega, HST, Lib.hid (HH.out.keep hb hE), grownE hE _⟩
    case round =>
      obtain ⟨i, j, dk, rfl, rfl, hjd, HKI, HHk, hg⟩ := hrel
      have hij := HKI.out.lt
      have hds := HKI.out.size
      have hbw : b < wr.heap.size := Nat.lt_of_lt_of_le hb hg.size
      by_cases hlt : j < d.size
      · have t : decide (j < d.size) = true := by simpa using hlt
        have cj := (HHk.out j (by omega)).1
        rw [HKI.out.high j (by omega)] at cj
        have hcall := HP.out wr j hg hlt
        have HK1 := Lib.hid (HKI.out.keep hlt)
        have HK2 := Lib.hid (HKI.out.skip)
        have HKJ : Hid (kp j = !p d[j]!) := Lib.hid (by rw [HK.out])
        have HSet := Lib.hid (fun W (h : HoldI W b dk) => HoldI.set h (show i < dk.size by omega) d[j]!)
        have e2 : IntKind.i64.wrap ((j : Int) + 1) = ((j + 1 : Nat) : Int) := by rw [IntWalk.i64_in _ (by omega)]; omega
        have e3 : IntKind.i64.wrap ((i : Int) + 1) = ((i + 1 : Nat) : Int) := by rw [IntWalk.i64_in _ (by omega)]; omega
        have hid : i < d.size := by omega
        generalize d[j]! = u at *
        cases hq : p u with
        | false =>
          rw [hq] at hcall
          go_wp2_with fail
          refine hcall.mono ?_
          rintro e w2 ⟨rfl, hE2⟩
          have hH2 := HHk.out.keep hbw hE2
          have HH2 := Lib.hid hH2
          obtain ⟨ci, fi⟩ := hH2 i (by omega)
          clear hH2
          go_wp2_with fail
          go_roundw
          case rel => exact ⟨i + 1, j + 1, dk.setIfInBounds i u, by go_num, by go_num, by omega, Lib.hid (HK1.out (by rw [HKJ.out, hq]; rfl)), Lib.hid (HSet.out _ HH2.out), grownE_trans (grownE_trans hg (grownE hE2 _)) (grownE_set w2 b i _)⟩
          case measure => simp [intOf]; omega
        | true =>
          rw [hq] at hcall
          go_wp2_with fail
          refine hcall.mono ?_
          rintro e w2 ⟨rfl, hE2⟩
          go_wp2_with fail
          go_roundw
          case rel => exact ⟨i, j + 1, dk, rfl, by go_num, by omega, Lib.hid (HK2.out (by rw [HKJ.out, hq]; rfl)), Lib.hid (HHk.out.keep hbw hE2), grownE_trans hg (grownE hE2 _)⟩
          case measure => simp [intOf]; omega
      · obtain rfl : j = d.size := by omega
        have t : decide (d.size < d.size) = false := by simp
        have hcl : Hid (∀ ty, (Builtin.clear_ #[130] ty #[.slice (some ⟨b, i, none⟩) (d.size - i) (c - i)]).run Tryz.prog wr = .ok (.tuple #[]) (wr.setCells b i (List.replicate (d.size - i) (.int .i64 0)))) :=
          Lib.hid (fun ty => Lib.run_clear_slice wr _ _ ty _ Tryz.underlying130 zero_int rfl rfl b i _ _ (by omega) (fun t ht => by rw [(HHk.out (i + t) (by omega)).1]; rfl) (fun t ht => (HHk.out (i + t) (by omega)).2))
        have hic : i ≤ c := by omega
        have hne : ¬ c = i := by omega
        have hidd : i ≤ d.size := by omega
        go_wp2_with fail
        rw [hcl.out]
        go_wp2_with fail
        go_ret
        have hlen := HKI.out.len
        refine ⟨by rw [hlen]; rfl, fun j hj => ⟨b, 0, rfl, ?_⟩, grownE_trans hg (grown_cells b _ _ _)⟩
        have hj' : j < i := by rw [hlen] at hj; exact hj
        rw [Nat.zero_add, World.cell?_setCells_out b _ _ _ _ (fun _ _ => by left; exact hj'), (HHk.out j (by omega)).1, List.getD_eq_getElem?_getD, HKI.out.low j hj']
        rfl
end Go.Proofs.YtompfgofaplffaaGreatDoor

namespace Go.Proofs.YtompfgofaplffaaGreatDoor
open Go.RowKit Hach
open Go.ChangeMaps (setBlock)

def keyAt (l : List (Int × Value)) (i : Nat) : Int := (l.getD i (0, .pointer none)).1
theorem ent_mem {l : List (Int × Value)} {e : MapEntry} : ∀ {s : Nat}, e ∈ entF s l → ∃ i, i < l.length ∧ e.key = .int .i64 (keyAt l i) ∧ e.born = s + i := by
  induction l with
  | nil => intro s h; cases h
  | cons p l ih =>
    intro s h
    rcases List.mem_cons.1 h with rfl | h
    · exact ⟨0, by simp, rfl, rfl⟩
    · obtain ⟨i, hi, hk, hb⟩ := ih h
      exact ⟨i + 1, by simpa using hi, by rw [hk]; unfold keyAt; rw [List.getD_cons_succ], by omega⟩
theorem ent_has {l : List (Int × Value)} : ∀ {s i : Nat}, i < l.length → ∃ e ∈ entF s l, e.born = s + i := by
  induction l with
  | nil => intro s i h; exact absurd h (by simp)
  | cons p l ih =>
    intro s i h
    cases i with
    | zero => exact ⟨_, List.mem_cons_self, rfl⟩
    | succ i =>
      obtain ⟨e, he, hb⟩ := ih (s := s + 1) (i := i) (by simpa using h)
      exact ⟨e, List.mem_cons_of_mem _ he, by omega⟩
/-- The iterator of a loop over a map: vis: which entries were met. -/
def IterI (W : World) (q r : Nat) (l : List (Int × Value)) (vis : List Nat) : Prop := W.heap[q]? = some (.mapIter (some r) l.length vis.toArray l.length)
theorem nx_I {ops : Array Oper} {rest : List Oper} {op : Oper} {a : Act} {W : World} {Q : Exit → Act → World → Prop} (hgd : op.guard = none) (it : Operand) (hop : op.op = .next it false) (q r : Nat) (l : List (Int × Value)) (vis : List Nat)
    (hit : a.eval it = .pointer (some ⟨q, 0, none⟩)) (hI : IterI W q r l vis) (hM : MapI W r l)
    (h0 : (∀ i, i < l.length → i ∈ vis) → wpList Tryz.prog ops Q rest (a.put op.dst (.tuple #[.bool false])) W)
    (h1 : ∀ i v W', i < l.length → i ∉ vis → IterI W' q r l (vis ++ [i]) → MapI W' r l → W.grownBy W' (some q) → wpList Tryz.prog ops Q rest (a.put op.dst (.tuple #[.bool true, .int .i64 (keyAt l i), v])) W') : wpList Tryz.prog ops Q (op :: rest) a W := by
  have hq : W.heap[q]? = some (.mapIter (some r) l.length vis.toArray l.length) := hI
  have hM' : W.heap[r]? = some (.map (entF 0 l).toArray l.length) := hM
  refine wpList_plain hgd fun K hK => ?_
  rcases run_next_at (P := Tryz.prog) W op.type q r l.length l.length vis.toArray (entF 0 l).toArray l.length hq hM' (fun x hx => by obtain ⟨i, hi, _, hb⟩ := ent_mem (by simpa using hx); omega) (Nat.le_refl _) with ⟨hs, hrun⟩ | ⟨e, he, w1, hw, hrun⟩
  · have hall : ∀ i, i < l.length → i ∈ vis := fun i hi => by
      obtain ⟨e, he, hb⟩ := ent_has (s := 0) hi
      refine Classical.byContradiction fun hn => ?_
      have hmem : e ∈ leftOf (entF 0 l).toArray vis.toArray := by
        unfold leftOf
        rw [Array.mem_filter]
        exact ⟨by simpa using he, by simp; rw [hb, Nat.zero_add]; exact hn⟩
      have := Array.size_pos_of_mem hmem
      omega
    unfold Oper.wp
    simp [execOp, hop, hit, hrun, Result.andThen]
    exact hK _ _ (h0 hall)
  · unfold leftOf at he
    have he' : e ∈ entF 0 l ∧ e.born ∉ vis := by simpa using he
    obtain ⟨i, hi, hk, hb⟩ := ent_mem he'.1
    rw [Nat.zero_add] at hb
    have hqr : r ≠ q := fun e => by rw [e, hq] at hM'; cases hM'
    have hq1 : w1.heap[q]? = some (.mapIter (some r) l.length vis.toArray l.length) := by rcases hw with rfl | rfl <;> exact hq
    have hlt := (Array.getElem?_eq_some_iff.1 hq1).1
    have hr1 : w1.heap[r]? = some (.map (entF 0 l).toArray l.length) := by rcases hw with rfl | rfl <;> exact hM'
    unfold Oper.wp
    simp [execOp, hop, hit, hrun, Result.andThen]
    refine hK _ _ ?_
    rw [hk]
    refine h1 i _ _ hi (by rw [← hb]; exact he'.2) ?_ ?_ ?_
    · unfold IterI; rw [hb]; simp [setBlock, hlt]
    · show (setBlock w1 q _).heap[r]? = _
      simp [setBlock, Ne.symm hqr, hr1]
    · have hset : ∀ o', w1.grownBy (setBlock w1 q o') (some q) := fun o' => ⟨rfl, rfl, rfl, by simp [setBlock], fun k hk hne => by
        have hqk : q ≠ k := fun e => hne (by rw [e])
        show (w1.heap.setIfInBounds q o')[k]? = _
        rw [Array.getElem?_setIfInBounds_ne hqk]⟩
      have hw1 : W.grownBy w1 (some q) := by
        rcases hw with h | h
        · rw [h]; exact grownE (Ext.refl _) _
        · rw [h]; exact grownE (Ext.drew W) _
      exact grownE_trans hw1 (hset _)
theorem rg_I {ops : Array Oper} {rest : List Oper} {op : Oper} {a : Act} {W : World} {Q : Exit → Act → World → Prop} (hgd : op.guard = none) (m : Operand) (hop : op.op = .range 126 m) (r : Nat) (l : List (Int × Value))
    (hm : a.eval m = .map (some r)) (hM : MapI W r l) (h : wpList Tryz.prog ops Q rest (a.put op.dst (.pointer (some ⟨W.heap.size, 0, none⟩))) (W.alloc (.mapIter (some r) l.length #[] l.length))) : wpList Tryz.prog ops Q (op :: rest) a W := by
  have hM' : W.heap[r]? = some (.map (entF 0 l).toArray l.length) := hM
  have hg : (getObj r).run Tryz.prog W = .ok (.map (entF 0 l).toArray l.length) W := by simp [getObj, Sem.run, hM']
  have hrun : (Instr.range 126 (.map (some r))).run Tryz.prog W = .ok (.pointer (some ⟨W.heap.size, 0, none⟩)) (W.alloc (.mapIter (some r) l.length #[] l.length)) := by
    simp only [Instr.range, Sem.run_bind, run_underlying Tryz.underlying126, Result.andThen, hg]
    rfl
  refine wpList_plain hgd fun K hK => ?_
  unfold Oper.wp
  simp [execOp, hop, hm, hrun, Result.andThen]
  exact hK _ _ h
theorem ent_born (l : List (Int × Value)) : ∀ s, (entF s l).map (·.born) = List.range' s l.length := by
  induction l with
  | nil => intro s; rfl
  | cons p l ih => intro s; rw [entF, List.map_cons, ih, List.length_cons, List.range'_succ]
theorem en_I {ops : Array Oper} {rest : List Oper} {op : Oper} {a : Act} {W : World} {Q : Exit → Act → World → Prop} (hgd : op.guard = none) (it : Operand) (hop : op.op = .entry it) (q r i : Nat) (l : List (Int × Value)) (vis : List Nat) (hi : i < l.length)
    (hit : a.eval it = .pointer (some ⟨q, 0, none⟩)) (hI : IterI W q r l (vis ++ [i])) (hM : MapI W r l) (h : ∀ v, wpList Tryz.prog ops Q rest (a.put op.dst (.tuple #[.int .i64 (keyAt l i), v])) W) : wpList Tryz.prog ops Q (op :: rest) a W := by
  have hM' : W.heap[r]? = some (.map (entF 0 l).toArray l.length) := hM
  obtain ⟨e, he, hb⟩ := ent_has (s := 0) hi
  obtain ⟨i', hi', hk, hb'⟩ := ent_mem he
  have e1 : i' = i := by omega
  subst e1
  rw [Nat.zero_add] at hb
  have hq : W.heap[q]? = some (.mapIter (some r) l.length (vis.toArray.push e.born) l.length) := by rw [hb]; have := hI; unfold IterI at this; rw [this]; simp
  have hrun := run_entry_at (P := Tryz.prog) W q r l.length vis.toArray (entF 0 l).toArray l.length e hq hM' (by simpa using he) (by rw [List.toList_toArray, ent_born]; exact List.nodup_range')
  refine wpList_plain hgd fun K hK => ?_
  unfold Oper.wp
  simp [execOp, hop, hit, hrun, Result.andThen]
  rw [hk]
  exact hK _ _ (h _)
theorem keys_sorted {l : List (Int × Value)} {vis : List Nat} (hn : vis.Nodup) (hl : ∀ i ∈ vis, i < l.length) (ha : ∀ i, i < l.length → i ∈ vis) : (vis.map (keyAt l)).Perm (l.map (·.1)) := by
  have hp : vis.Perm (List.range l.length) := (List.perm_ext_iff_of_nodup hn List.nodup_range).2 fun i => ⟨fun h => List.mem_range.2 (hl i h), fun h => ha i (List.mem_range.1 h)⟩
  have e : (List.range l.length).map (keyAt l) = l.map (·.1) := by
    apply List.ext_getElem (by simp)
    intro i h1 h2
    have hi : i < l.length := by simpa using h1
    simp [keyAt, List.getD_eq_getElem?_getD, hi]
  rw [← e]
  exact hp.map _
theorem sort_perm {l l' : List Int} (h : l.Perm l') : l.mergeSort (fun x y => decide (x ≤ y)) = l'.mergeSort (fun x y => decide (x ≤ y)) := by
  have tr : ∀ a b c : Int, decide (a ≤ b) = true → decide (b ≤ c) = true → decide (a ≤ c) = true := fun a b c h1 h2 => by simp only [decide_eq_true_eq] at *; omega
  have to : ∀ a b : Int, (decide (a ≤ b) || decide (b ≤ a)) = true := fun a b => by simp only [Bool.or_eq_true, decide_eq_true_eq]; omega
  refine List.Perm.eq_of_pairwise (le := fun a b => decide (a ≤ b) = true) (fun a b _ _ h1 h2 => ?_) (List.pairwise_mergeSort tr to l) (List.pairwise_mergeSort tr to l') (((List.mergeSort_perm l _).trans h).trans (List.mergeSort_perm l' _).symm)
  simp only [decide_eq_true_eq] at h1 h2
  omega
end Go.Proofs.YtompfgofaplffaaGreatDoor

namespace Go.Proofs.YtompfgofaplffaaGreatDoor.Num
open Go.Lib

def InI (v : Int) : Prop := -9223372036854775808 ≤ v ∧ v ≤ 9223372036854775807

theorem dig_toNat {i : Nat} (h : i < 10) : (UInt8.ofNat (48 + i)).toNat = 48 + i := by
  rw [UInt8.toNat_ofNat']; omega
theorem dec_ne_nil (u : Nat) : decDigits u ≠ [] := by
  rw [decDigits]; split <;> simp
theorem dec_digits : ∀ (u : Nat), ∀ c ∈ decDigits u, 48 ≤ c.toNat ∧ c.toNat ≤ 57 := by
  intro u
  induction u using Nat.strongRecOn with
  | _ u ih =>
    intro c hc
    rw [decDigits] at hc
    split at hc
    · rename_i h
      simp only [List.mem_singleton] at hc
      subst hc
      rw [dig_toNat h]; omega
    · rename_i h
      rcases List.mem_append.1 hc with hc | hc
      · exact ih (u / 10) (by omega) c hc
      · simp only [List.mem_singleton] at hc
        subst hc
        rw [dig_toNat (by omega)]; omega

/- parsing, from the left -/
theorem parse_append : ∀ (l r : List UInt8) (acc : Nat), parseUint10 acc (l ++ r) = match parseUint10 acc l with | .ok u => parseUint10 u r | e => e
  | [], r, acc => rfl
  | c :: l, r, acc => by
    simp only [List.cons_append, parseUint10]
    split
    · split
      · rfl
      · split
        · rfl
        · exact parse_append l r _
    · rfl
theorem parse_dec (u : Nat) (h : u < 18446744073709551616) : parseUint10 0 (decDigits u) = .ok u := by
  induction u using Nat.strongRecOn with
  | _ u ih =>
    rw [decDigits]
    split
    · rename_i h1
      simp only [parseUint10, dig_toNat h1]
      rw [if_pos (by omega), if_neg (by omega), if_neg (by omega)]
      congr 1; omega
    · rename_i h1
      rw [parse_append, ih (u / 10) (by omega) (by omega)]
      simp only [parseUint10, dig_toNat (show u % 10 < 10 by omega)]
      rw [if_pos (by omega), if_neg (by omega), if_neg (by omega)]
      congr 1; omega
theorem parseMag_dec (u : Nat) (h : u < 18446744073709551616) : parseMag (decDigits u) = .ok u := by
  unfold parseMag
  rw [if_neg (dec_ne_nil u), parse_dec u h]
theorem head_dec (u : Nat) : ∃ c r, decDigits u = c :: r ∧ 48 ≤ c.toNat ∧ c.toNat ≤ 57 := by
  match h : decDigits u with
  | [] => exact absurd h (dec_ne_nil u)
  | c :: r => exact ⟨c, r, rfl, dec_digits u c (by rw [h]; exact List.mem_cons_self)⟩
theorem atoi_itoa {v : Int} (h : InI v) : atoiAll (itoa v) = .ok v := by
  obtain ⟨h0, h1⟩ := h
  unfold itoa
  split
  · rename_i hn
    simp only [atoiAll]
    rw [show (45 : UInt8).toNat = 45 from rfl]
    simp only [or_true, if_true, parseMag_dec v.natAbs (by omega)]
    rw [if_neg (by simp), if_neg (by omega)]
    congr 1; omega
  · rename_i hn
    obtain ⟨c, r, e, k0, k1⟩ := head_dec v.toNat
    have hp := parseMag_dec v.toNat (by omega)
    rw [e] at hp ⊢
    simp only [atoiAll]
    rw [if_neg (by omega), hp]
    simp only
    rw [if_neg (by omega), if_neg (by omega), if_neg (by omega)]
    congr 1; omega

/- what a numeral says: of the given program -/
def num (d : List UInt8) : Option Int := match atoiAll d with | .ok v => if itoa v = d then some v else none | _ => none
theorem num_itoa {v : Int} (h : InI v) : num (itoa v) = some v := by
  unfold num; rw [atoi_itoa h]; simp
theorem num_some {d : List UInt8} {v : Int} (h : num d = some v) : itoa v = d ∧ InI v := by
  unfold num at h
  split at h
  · rename_i u hu
    split at h
    · rename_i hd
      simp only [Option.some.injEq] at h
      subst h
      exact ⟨hd, atoiAll_bounds hu⟩
    · cases h
  · cases h

/- of the reference: it computes with negative numbers -/
def negs (acc : Int) : List UInt8 → Option Int
  | [] => some acc
  | c :: r => if (c.toNat : Int) - 48 < 0 ∨ 9 < (c.toNat : Int) - 48 ∨ acc < -922337203685477580 ∨ (acc = -922337203685477580 ∧ 8 < (c.toNat : Int) - 48) then none else negs (10 * acc - ((c.toNat : Int) - 48)) r
theorem negs_append : ∀ (l r : List UInt8) (acc : Int), negs acc (l ++ r) = match negs acc l with | some u => negs u r | none => none
  | [], r, acc => rfl
  | c :: l, r, acc => by
    simp only [List.cons_append, negs]
    split
    · rfl
    · exact negs_append l r _
theorem negs_bounds : ∀ (l : List UInt8) (acc v : Int), -9223372036854775808 ≤ acc → acc ≤ 0 → negs acc l = some v → -9223372036854775808 ≤ v ∧ v ≤ 0
  | [], acc, v, h0, h1, h => by
    simp only [negs, Option.some.injEq] at h
    omega
  | c :: r, acc, v, h0, h1, h => by
    simp only [negs] at h
    split at h
    · cases h
    · exact negs_bounds r _ v (by omega) (by omega) h
theorem negs_dec (u : Nat) (h : u ≤ 9223372036854775808) : negs 0 (decDigits u) = some (-(u : Int)) := by
  induction u using Nat.strongRecOn with
  | _ u ih =>
    rw [decDigits]
    split
    · rename_i h1
      simp only [negs, dig_toNat h1]
      rw [if_neg (by omega)]
      congr 1; omega
    · rename_i h1
      rw [negs_append, ih (u / 10) (by omega) (by omega)]
      simp only [negs, dig_toNat (show u % 10 < 10 by omega)]
      rw [if_neg (by omega)]
      congr 1; omega
def rnum (d : List UInt8) : Option Int :=
  match negs 0 (if d.head? = some 45 then d.tail else d) with
  | none => none
  | some n => if d.head? = some 45 then (if itoa n = d then some n else none) else (if n = -9223372036854775808 then none else if itoa (-n) = d then some (-n) else none)
theorem rnum_some {d : List UInt8} {v : Int} (h : rnum d = some v) : itoa v = d ∧ InI v := by
  unfold rnum at h
  split at h
  · cases h
  · rename_i n hn
    have hb := negs_bounds _ 0 n (by omega) (by omega) hn
    split at h
    · split at h
      · rename_i he
        simp only [Option.some.injEq] at h
        subst h
        exact ⟨he, by unfold InI; omega⟩
      · cases h
    · split at h
      · cases h
      · split at h
        · rename_i he
          simp only [Option.some.injEq] at h
          subst h
          exact ⟨he, by unfold InI; omega⟩
        · cases h
theorem rnum_itoa {v : Int} (h : InI v) : rnum (itoa v) = some v := by
  obtain ⟨h0, h1⟩ := h
  by_cases hn : v < 0
  · have e : itoa v = 45 :: decDigits v.natAbs := by unfold itoa; rw [if_pos hn]
    unfold rnum
    rw [e]
    simp only [List.head?_cons, if_true, List.tail_cons]
    rw [negs_dec _ (by omega)]
    simp only
    have e2 : -((v.natAbs : Nat) : Int) = v := by omega
    rw [e2, e, if_pos rfl]
  · obtain ⟨c, r, e, k0, k1⟩ := head_dec v.toNat
    have e1 : itoa v = decDigits v.toNat := by unfold itoa; rw [if_neg hn]
    have hc : ¬ ((c :: r).head? = some (45 : UInt8)) := by
      intro hc
      simp only [List.head?_cons, Option.some.injEq] at hc
      subst hc
      exact absurd k0 (by decide)
    have hneg := negs_dec v.toNat (by omega)
    have e2 : - -((v.toNat : Nat) : Int) = v := by omega
    unfold rnum
    rw [e1, e]
    rw [e] at hneg
    rw [if_neg hc, hneg]
    simp only
    rw [if_neg hc, if_neg (by omega), e2, if_pos (e1.trans e)]
/- both sides read the same -/
theorem rnum_eq (d : List UInt8) : rnum d = num d := by
  match h : rnum d with
  | some v => obtain ⟨e, hv⟩ := rnum_some h; rw [← e, num_itoa hv]
  | none =>
    match h' : num d with
    | none => rfl
    | some v => obtain ⟨e, hv⟩ := num_some h'; rw [← e, rnum_itoa hv] at h; cases h
theorem num_length {d : List UInt8} {v : Int} (h : num d = some v) : d.length ≤ 21 := by
  obtain ⟨e, hv⟩ := num_some h
  rw [← e]; exact itoa_length_le v hv.1 hv.2
theorem itoa_inj {a b : Int} (ha : InI a) (hb : InI b) (h : itoa a = itoa b) : a = b := by
  have := num_itoa ha
  rw [h, num_itoa hb] at this
  simpa using this.symm
/- no sign of an end is in a numeral -/
theorem itoa_mem {v : Int} {c : UInt8} (h : c ∈ itoa v) : c.toNat = 45 ∨ (48 ≤ c.toNat ∧ c.toNat ≤ 57) := by
  unfold itoa at h
  split at h
  · rcases List.mem_cons.1 h with rfl | h
    · exact .inl rfl
    · exact .inr (dec_digits _ _ h)
  · exact .inr (dec_digits _ _ h)
theorem itoa_ne_nil (v : Int) : itoa v ≠ [] := by
  unfold itoa; split
  · simp
  · exact dec_ne_nil _
end Go.Proofs.YtompfgofaplffaaGreatDoor.Num

namespace Go.Proofs.YtompfgofaplffaaGreatDoor
open Go Go.Lib Num

structure Ev where
  kind : Int
  at_ : Int
  id : Int
  other : Int
  n : Int
deriving DecidableEq
def zeroEv : Ev := ⟨0, 0, 0, 0, 0⟩
def InEv (e : Ev) : Prop := InI e.kind ∧ InI e.at_ ∧ InI e.id ∧ InI e.other ∧ InI e.n
/-- The words between blanks. -/
def wds : List UInt8 → List (List UInt8)
  | [] => [[]]
  | c :: r => if c = 32 then [] :: wds r else match wds r with
    | [] => [[c]]
    | p :: ps => (c :: p) :: ps
def glue : List (List UInt8) → List UInt8
  | [] => []
  | [a] => a
  | a :: b :: l => a ++ 32 :: glue (b :: l)
theorem wds_ne (s : List UInt8) : wds s ≠ [] := by
  cases s with
  | nil => simp [wds]
  | cons c r =>
    unfold wds
    split
    · simp
    · split <;> simp
theorem wds_none : ∀ {a : List UInt8}, (32 : UInt8) ∉ a → wds a = [a]
  | [], _ => rfl
  | c :: r, h => by
    have hc : ¬ c = 32 := fun e => h (by rw [e]; exact List.mem_cons_self)
    unfold wds
    rw [if_neg hc, wds_none fun hm => h (List.mem_cons_of_mem _ hm)]
theorem wds_append : ∀ {a : List UInt8} (s : List UInt8), (32 : UInt8) ∉ a → wds (a ++ 32 :: s) = a :: wds s
  | [], s, _ => by simp [wds]
  | c :: r, s, h => by
    have hc : ¬ c = 32 := fun e => h (by rw [e]; exact List.mem_cons_self)
    rw [List.cons_append, wds, if_neg hc, wds_append s fun hm => h (List.mem_cons_of_mem _ hm)]
theorem wds_glue : ∀ {l : List (List UInt8)}, l ≠ [] → (∀ a ∈ l, (32 : UInt8) ∉ a) → wds (glue l) = l
  | [], h, _ => absurd rfl h
  | [a], _, h => wds_none (h a (by simp))
  | a :: b :: l, _, h => by
    show wds (a ++ 32 :: glue (b :: l)) = _
    rw [wds_append _ (h a (by simp)), wds_glue (by simp) fun x hx => h x (List.mem_cons_of_mem _ hx)]
theorem glue_wds : ∀ s : List UInt8, glue (wds s) = s
  | [] => rfl
  | c :: r => by
    have ih := glue_wds r
    have hne := wds_ne r
    unfold wds
    split
    · rename_i hc
      cases h : wds r with
      | nil => exact absurd h hne
      | cons p ps => rw [h] at ih; show 32 :: glue (p :: ps) = _; rw [ih, hc]
    · cases h : wds r with
      | nil => exact absurd h hne
      | cons p ps =>
        rw [h] at ih
        cases ps with
        | nil => show c :: p = _; have : p = r := ih; rw [this]
        | cons q qs => show (c :: p) ++ 32 :: glue (q :: qs) = _; have : p ++ 32 :: glue (q :: qs) = r := ih; rw [List.cons_append, this]
theorem wds_clean : ∀ (s : List UInt8), ∀ a ∈ wds s, (32 : UInt8) ∉ a
  | [], a, h => by simp [wds] at h; simp [h]
  | c :: r, a, h => by
    have ih := wds_clean r
    unfold wds at h
    split at h
    · rcases List.mem_cons.1 h with e | h
      · simp [e]
      · exact ih a h
    · rename_i hc
      cases hw : wds r with
      | nil => exact absurd hw (wds_ne r)
      | cons p ps =>
        rw [hw] at h ih
        rcases List.mem_cons.1 h with e | h
        · rw [e]; intro hm
          rcases List.mem_cons.1 hm with e2 | hm
          · exact hc e2.symm
          · exact ih p (by simp) hm
        · exact ih a (List.mem_cons_of_mem _ h)
theorem wds_len : ∀ s : List UInt8, (wds s).length ≤ s.length + 1
  | [] => by simp [wds]
  | c :: r => by
    have ih := wds_len r
    unfold wds
    split
    · simp; omega
    · cases h : wds r with
      | nil => simp
      | cons p ps => rw [h] at ih; simp at ih ⊢; omega
theorem wds_part : ∀ (s : List UInt8), ∀ a ∈ wds s, a.length ≤ s.length
  | [], a, h => by simp [wds] at h; simp [h]
  | c :: r, a, h => by
    have ih := wds_part r
    unfold wds at h
    split at h
    · rcases List.mem_cons.1 h with e | h
      · simp [e]
      · have := ih a h; simp; omega
    · cases hw : wds r with
      | nil => exact absurd hw (wds_ne r)
      | cons p ps =>
        rw [hw] at h ih
        rcases List.mem_cons.1 h with e | h
        · have := ih p (by simp); rw [e]; simp; omega
        · have := ih a (List.mem_cons_of_mem _ h); simp; omega

def wDrop : List UInt8 := [100, 114, 111, 112]
def wFuse : List UInt8 := [102, 117, 115, 101]
def wThin : List UInt8 := [116, 104, 105, 110]
def wGath : List UInt8 := [103, 97, 116, 104, 101, 114]
def wAt : List UInt8 := [97, 116]
def wordK (k : Int) : List UInt8 := if k = 1 then wDrop else if k = 2 then wFuse else if k = 3 then wThin else wGath
/-- The second number of an event. -/
def secE (e : Ev) : Int := if e.kind = 1 then e.n else if e.kind = 3 then 0 else e.other
def madeE (k t a b : Int) : Ev := if k = 1 then ⟨k, t, a, 0, b⟩ else if k = 2 ∨ k = 4 then ⟨k, t, a, b, 0⟩ else ⟨k, t, a, 0, 0⟩
def wordsE (e : Ev) : List (List UInt8) :=
  if e.kind = 3 then [wordK e.kind, itoa e.id, wAt, itoa e.at_] else [wordK e.kind, itoa e.id, itoa (secE e), wAt, itoa e.at_]
/-- The text of an event. -/
def textE (e : Ev) : List UInt8 := if 1 ≤ e.kind ∧ e.kind ≤ 4 then glue (wordsE e) else []
/-- An event that has no number that does not belong to its kind. -/
def Clean (e : Ev) : Prop := (1 ≤ e.kind ∧ e.kind ≤ 4) ∧ InEv e ∧ e = madeE e.kind e.at_ e.id (secE e)
theorem no_blank_itoa (v : Int) : (32 : UInt8) ∉ itoa v := fun h => by
  rcases itoa_mem h with h | h <;> revert h <;> decide
theorem wordK_clean (k : Int) : (32 : UInt8) ∉ wordK k := by
  unfold wordK
  split
  · decide
  · split
    · decide
    · split <;> decide
theorem wordsE_clean (e : Ev) : wordsE e ≠ [] ∧ ∀ a ∈ wordsE e, (32 : UInt8) ∉ a := by
  unfold wordsE
  have hw : (32 : UInt8) ∉ wAt := by decide
  split
  · refine ⟨by simp, fun a h => ?_⟩
    simp only [List.mem_cons, List.not_mem_nil, or_false] at h
    rcases h with h | h | h | h <;> rw [h]
    · exact wordK_clean _
    · exact no_blank_itoa _
    · exact hw
    · exact no_blank_itoa _
  · refine ⟨by simp, fun a h => ?_⟩
    simp only [List.mem_cons, List.not_mem_nil, or_false] at h
    rcases h with h | h | h | h | h <;> rw [h]
    · exact wordK_clean _
    · exact no_blank_itoa _
    · exact no_blank_itoa _
    · exact hw
    · exact no_blank_itoa _
theorem wds_text {e : Ev} (h : 1 ≤ e.kind ∧ e.kind ≤ 4) : wds (textE e) = wordsE e := by
  unfold textE
  rw [if_pos h]
  exact wds_glue (wordsE_clean e).1 (wordsE_clean e).2
theorem wordK_inj {a b : Int} (ha : 1 ≤ a ∧ a ≤ 4) (hb : 1 ≤ b ∧ b ≤ 4) (h : wordK a = wordK b) : a = b := by
  obtain rfl | rfl | rfl | rfl : a = 1 ∨ a = 2 ∨ a = 3 ∨ a = 4 := by omega
  all_goals
    obtain rfl | rfl | rfl | rfl : b = 1 ∨ b = 2 ∨ b = 3 ∨ b = 4 := by omega
    all_goals first | rfl | (exfalso; revert h; decide)
theorem secE_in {e : Ev} (h : InEv e) : InI (secE e) := by
  obtain ⟨h1, h2, h3, h4, h5⟩ := h
  unfold secE
  split
  · exact h5
  · split
    · exact ⟨by decide, by decide⟩
    · exact h4
/-- Different events have different texts. -/
theorem text_inj {a b : Ev} (ha : Clean a) (hb : Clean b) (h : textE a = textE b) : a = b := by
  have hw : wordsE a = wordsE b := by rw [← wds_text ha.1, h, wds_text hb.1]
  obtain ⟨ka, ia, ea⟩ := ha
  obtain ⟨kb, ib, eb⟩ := hb
  have hs1 := secE_in ia
  have hs2 := secE_in ib
  obtain ⟨_, it, ii, _, _⟩ := ia
  obtain ⟨_, jt, ji, _, _⟩ := ib
  have key : wordK a.kind = wordK b.kind ∧ itoa a.id = itoa b.id ∧ itoa a.at_ = itoa b.at_ ∧ (itoa (secE a) = itoa (secE b)) := by
    unfold wordsE at hw
    by_cases h3 : a.kind = 3 <;> by_cases g3 : b.kind = 3
    · rw [if_pos h3, if_pos g3] at hw
      simp only [List.cons.injEq, and_true, true_and] at hw
      refine ⟨hw.1, hw.2.1, hw.2.2, ?_⟩
      unfold secE
      rw [if_neg (by omega), if_pos h3, if_neg (by omega), if_pos g3]
    · rw [if_pos h3, if_neg g3] at hw; simp at hw
    · rw [if_neg h3, if_pos g3] at hw; simp at hw
    · rw [if_neg h3, if_neg g3] at hw
      simp only [List.cons.injEq, and_true, true_and] at hw
      exact ⟨hw.1, hw.2.1, hw.2.2.2, hw.2.2.1⟩
  obtain ⟨k1, k2, k3, k4⟩ := key
  rw [ea, eb, wordK_inj ka kb k1, itoa_inj ii ji k2, itoa_inj it jt k3, itoa_inj hs1 hs2 k4]
theorem madeE_clean {k t a b : Int} (hk : 1 ≤ k ∧ k ≤ 4) (ht : InI t) (ha : InI a) (hb : InI b) (h3 : k = 3 → b = 0) : Clean (madeE k t a b) ∧ secE (madeE k t a b) = b := by
  have hz : InI 0 := ⟨by decide, by decide⟩
  have hK : InI k := ⟨by omega, by omega⟩
  have e : secE (madeE k t a b) = b ∧ (madeE k t a b).kind = k ∧ (madeE k t a b).at_ = t ∧ (madeE k t a b).id = a := by
    unfold madeE
    split
    · rename_i h; subst h; exact ⟨rfl, rfl, rfl, rfl⟩
    · split
      · rename_i h1 h2
        refine ⟨?_, rfl, rfl, rfl⟩
        unfold secE
        rw [if_neg h1, if_neg (by show ¬ k = 3; omega)]
      · rename_i h1 h2
        refine ⟨?_, rfl, rfl, rfl⟩
        unfold secE
        rw [if_neg h1, if_pos (show k = 3 by omega), h3 (by omega)]
  obtain ⟨e1, e2, e3, e4⟩ := e
  refine ⟨⟨by rw [e2]; exact hk, ?_, by rw [e1, e2, e3, e4]⟩, e1⟩
  unfold madeE
  split
  · exact ⟨hK, ht, ha, hz, hb⟩
  · split
    · exact ⟨hK, ht, ha, hb, hz⟩
    · exact ⟨hK, ht, ha, hz, hz⟩
theorem made_kind (k t a b : Int) : (madeE k t a b).kind = k ∧ (madeE k t a b).at_ = t ∧ (madeE k t a b).id = a := by
  unfold madeE
  split
  · exact ⟨rfl, rfl, rfl⟩
  · split <;> exact ⟨rfl, rfl, rfl⟩
/-- What reading a text comes to: the event that has it. -/
def Reads (s : List UInt8) (r : Option Ev) : Prop := (∀ x, r = some x → Clean x ∧ textE x = s) ∧ (r = none → ∀ x, Clean x → textE x ≠ s)
theorem reads_one {s : List UInt8} {a b : Option Ev} (ha : Reads s a) (hb : Reads s b) : a = b := by
  cases a with
  | none =>
    cases b with
    | none => rfl
    | some y => exact absurd (hb.1 y rfl).2 (ha.2 rfl y (hb.1 y rfl).1)
  | some x =>
    cases b with
    | none => exact absurd (ha.1 x rfl).2 (hb.2 rfl x (ha.1 x rfl).1)
    | some y => rw [text_inj (ha.1 x rfl).1 (hb.1 y rfl).1 ((ha.1 x rfl).2.trans (hb.1 y rfl).2.symm)]
theorem reads_back {e : Ev} (h : Clean e) {r : Option Ev} (hr : Reads (textE e) r) : r = some e :=
  reads_one hr ⟨fun x hx => by cases hx; exact ⟨h, rfl⟩, fun hx => by cases hx⟩

/- the program's way to read -/
def idxK (w : List UInt8) : Option Int := if w = wDrop then some 1 else if w = wFuse then some 2 else if w = wThin then some 3 else if w = wGath then some 4 else none
theorem idxK_word {k : Int} (h : 1 ≤ k ∧ k ≤ 4) : idxK (wordK k) = some k := by
  obtain rfl | rfl | rfl | rfl : k = 1 ∨ k = 2 ∨ k = 3 ∨ k = 4 := by omega
  all_goals decide
theorem idxK_some {w : List UInt8} {k : Int} (h : idxK w = some k) : (1 ≤ k ∧ k ≤ 4) ∧ w = wordK k := by
  unfold idxK at h
  repeat' split at h
  all_goals first | (cases h; done) | skip
  all_goals
    cases h
    refine ⟨by decide, ?_⟩
    assumption
/-- What is wrong with the words: no event has such a text. -/
theorem wrong_words {s : List UInt8} (h : idxK ((wds s).getD 0 []) = none ∨ ((wds s).length ≠ 4 ∧ (wds s).length ≠ 5) ∨ (wds s).getD ((wds s).length - 2) [] ≠ wAt) : Reads s none := by
  refine ⟨fun x hx => (by cases hx), fun _ x hc e => ?_⟩
  have hw : wds s = wordsE x := by rw [← e]; exact wds_text hc.1
  rw [hw] at h
  unfold wordsE at h
  by_cases h3 : x.kind = 3
  · rw [if_pos h3] at h
    rcases h with h | h | h
    · simp only [List.getD_cons_zero] at h; rw [idxK_word hc.1] at h; cases h
    · exact h.1 rfl
    · exact h rfl
  · rw [if_neg h3] at h
    rcases h with h | h | h
    · simp only [List.getD_cons_zero] at h; rw [idxK_word hc.1] at h; cases h
    · exact h.2 rfl
    · exact h rfl
/-- The words that are numbers. -/
def numW (s : List UInt8) : List (List UInt8) := ((wds s).drop 1).take ((wds s).length - 3) ++ [(wds s).getD ((wds s).length - 1) []]
theorem numW_text {x : Ev} (h : 1 ≤ x.kind ∧ x.kind ≤ 4) : numW (textE x) = if x.kind = 3 then [itoa x.id, itoa x.at_] else [itoa x.id, itoa (secE x), itoa x.at_] := by
  unfold numW
  rw [wds_text h]
  unfold wordsE
  split <;> rfl
theorem wrong_number {s w : List UInt8} (hm : w ∈ numW s) (hn : ∀ v, InI v → itoa v ≠ w) : Reads s none := by
  refine ⟨fun x hx => (by cases hx), fun _ x hc e => ?_⟩
  rw [← e, numW_text hc.1] at hm
  have hs := secE_in hc.2.1
  obtain ⟨_, it, ii, _, _⟩ := hc.2.1
  split at hm
  · simp only [List.mem_cons, List.not_mem_nil, or_false] at hm
    rcases hm with h | h
    · exact hn _ ii h.symm
    · exact hn _ it h.symm
  · simp only [List.mem_cons, List.not_mem_nil, or_false] at hm
    rcases hm with h | h | h
    · exact hn _ ii h.symm
    · exact hn _ hs h.symm
    · exact hn _ it h.symm
end Go.Proofs.YtompfgofaplffaaGreatDoor
