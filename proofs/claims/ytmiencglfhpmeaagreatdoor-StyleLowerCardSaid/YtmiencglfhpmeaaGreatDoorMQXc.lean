/- The contract of the reference's Same. -/
import Derived.Test.YtmiencglfhpmeaaGreatDoorMQXb
set_option linter.unusedSimpArgs false
set_option linter.unusedVariables false
namespace Go.Proofs.YtmiencglfhpmeaaGreatDoor
open List (foldl_nil foldl_cons getD_cons_zero getD_cons_succ setIfInBounds_toArray set_cons_zero set_cons_succ)
open Go.RowKit Hach
def rSameC (d : Nat) : Prop := ∀ (e e' : Ex) (A A' : Option Addr) (c c' : Nat) (w : World), ExB w w.heap.size d A e.l → ExB w w.heap.size d A' e'.l → e.size < 1099511627776 → e'.size < 1099511627776 →
  Calls Tryz.prog 45 #[.agg (e.cells A c).toArray, .agg (e'.cells A' c').toArray] w fun r w' => r = .returned (.bool (e.same e')) ∧ Ext w w'
theorem Box.at2 {w : World} {x y : Ex} {A B : Option Addr} {c d : Nat} : Box ((w.alloc (.cells (x.cells A c).toArray 47)).alloc (.cells (y.cells B d).toArray 47)) (w.heap.size + 1) y B d := by
 have := Box.new (w.alloc (.cells (x.cells A c).toArray 47)) y B d 47
 rw [World.size_alloc] at this
 exact this
set_option maxRecDepth 100000 in
set_option maxHeartbeats 4000000 in
theorem rSame_any (d : Nat) : rSameC d := by
 induction d using Nat.strongRecOn with
 | _ d ih =>
  intro e e' A A' c c' w hX hX' hsz hsz'
  have hk := Nat.lt_trans e.kids_lt hsz
  have hk' := Nat.lt_trans e'.kids_lt hsz'
  have hl := Nat.lt_of_le_of_lt (Ex.len_le e.l) hk
  have hl' := Nat.lt_of_le_of_lt (Ex.len_le e'.l) hk'
  have hv : ∀ w, (binOp .neq 44 (.agg #[.int .i64 e.ty, .int .i64 e.n, .bool e.b, .string ⟨e.s.toArray⟩]) (.agg #[.int .i64 e'.ty, .int .i64 e'.n, .bool e'.b, .string ⟨e'.s.toArray⟩])).run Tryz.prog w = .ok (.bool (!e.valB e')) w := fun w => val_neq ..
  have hs := Ex.same_eq e e'
  have HSE := Lib.hid hs
  obtain ⟨w2, hw2⟩ : ∃ w2, (w.alloc (.cells (e.cells A c).toArray 47)).alloc (.cells (e'.cells A' c').toArray 47) = w2 := ⟨_, rfl⟩
  have hE2 : Ext w w2 := by rw [← hw2]; exact (Ext.alloc _ _).trans (Ext.alloc _ _)
  have hb1 : Box w2 w.heap.size e A c := by rw [← hw2]; exact (Box.new w e A c _).ext (Ext.alloc _ _)
  have hb2 : Box w2 (w.heap.size + 1) e' A' c' := by rw [← hw2]; exact Box.at2
  unfold Ex.cells at hw2 ⊢
  have HW2 := Lib.hid hw2
  clear hs hw2
  by_cases h1 : e.op = e'.op
  ·by_cases h2 : e.var = e'.var
   ·have t1 : (e.op != e'.op) = false := by simpa using h1
    have t2 : (e.var != e'.var) = false := by simpa using h2
    have HSE2 : Hid (e.same e' = (e.valB e' && Ex.sames e.l e'.l)) := Lib.hid (by rw [HSE.out]; simp [h1, h2])
    clear h1 h2 HSE
    cases hvb : e.valB e' with
    | true =>
     rw [hvb] at hv HSE2
     clear hvb
     by_cases hne : e.l.length = e'.l.length
     ·have hat := Ex.sames_at hne
      have HAT := Lib.hid hat
      have HNE := Lib.hid hne
      have tn2 : ((e.l.length : Int) != (e'.l.length : Int)) = false := by simp [hne]
      clear hat hne
      go_enter Tryz.func45, Tryz.ntmps45
      go_wp2_with fail
      rw [HW2.out]
      go_loopw [5] (fun kv wr => ∃ k : Nat, k ≤ e.l.length ∧ kv = .int .i64 k ∧ Hid (∀ j (h1 : j < e.l.length) (h2 : j < e'.l.length), j < k → (e.l[j]).same (e'.l[j]) = true) ∧ Ext w2 wr) (fun kv _ => e.l.length - (intOf kv).toNat)
      case atStart => exact ⟨0, Nat.zero_le _, rfl, Lib.hid (fun j _ _ h => absurd h (Nat.not_lt_zero _)), Ext.refl _⟩
      case round =>
       obtain ⟨k, hk1, rfl, HS, hE⟩ := hrel
       have b6 := (hb1.ext hE).c6
       have b6' := (hb2.ext hE).c6
       by_cases hlt : k < e.l.length
       ·have hlt' : k < e'.l.length := by have := HNE.out; omega
        obtain ⟨b, o, B, q, d1, hd, rfl, hb, hX1, hO⟩ := hX.at_ hlt
        obtain ⟨b', o', B', q', d1', hd', rfl, hb', hX1', hO'⟩ := hX'.at_ hlt'
        have hkx := Nat.lt_of_le_of_lt (Ex.size_mem (List.getElem_mem hlt)) hk
        have hkx' := Nat.lt_of_le_of_lt (Ex.size_mem (List.getElem_mem hlt')) hk'
        have ihx := ih d1 (by omega)
        obtain rfl : d1' = d1 := by omega
        have hE' := hE2.trans hE
        have hO1 := hO.ext hb hE'
        have hO1' := hO'.ext hb' hE'
        have hbw : b < wr.heap.size := Nat.lt_of_lt_of_le hb hE'.sz
        have hbw' : b' < wr.heap.size := Nat.lt_of_lt_of_le hb' hE'.sz
        have hXr := hX1.ext hE'
        have hXr' := hX1'.ext hE'
        have hst : ∀ r, (e.l[k]).same (e'.l[k]) = r → Hid (r = true → ∀ j (h1 : j < e.l.length) (h2 : j < e'.l.length), j < k + 1 → (e.l[j]).same (e'.l[j]) = true) := fun r hr => Lib.hid fun ht j h1 h2 hj => by
         by_cases ej : j = k
         ·subst ej; rw [hr, ht]
         ·exact HS.out j h1 h2 (by omega)
        have hno : ∀ r, (e.l[k]).same (e'.l[k]) = r → Hid (r = false → Ex.sames e.l e'.l = false) := fun r hr => Lib.hid fun hf => by
         rw [← Bool.not_eq_true, HAT.out]
         intro hall
         have := hall k hlt hlt'
         rw [hr, hf] at this; cases this
        obtain ⟨x, hx⟩ : ∃ x, e.l[k] = x := ⟨_, rfl⟩
        obtain ⟨x', hx'⟩ : ∃ x', e'.l[k] = x' := ⟨_, rfl⟩
        rw [hx] at hO1 hXr hkx hst hno
        rw [hx'] at hO1' hXr' hkx' hst hno
        obtain ⟨res, hres⟩ : ∃ res, x.same x' = res := ⟨_, rfl⟩
        have HST := hst res hres
        have HNO := hno res hres
        have IH := fun W (h1 : ExB W W.heap.size d1' B x.l) (h2 : ExB W W.heap.size d1' B' x'.l) => ihx x x' B B' q q' W h1 h2 hkx hkx'
        rw [hres] at IH
        have HIH := Lib.hid IH
        have hk1l : w.heap.size + 1 < wr.heap.size := Nat.lt_of_lt_of_le hb2.lt hE.sz
        have tk : decide (k < e.l.length) = true := by simp; omega
        have HE3 := Lib.hid hE
        clear hst hno ihx IH hx hx' hres hO hO' hX1 hX1' HS
        go_wp2_with fail
        apply wp_region_seq (l := [_, _, _, _, _, _, _, _, _, _]) (t := [_, _]) [some 41, some 42, some 43, some 44, some 45, some 46, some 47, some 48, some 49, some 50, some 51, some 52] [[], [0], [], [1, 2], [3], [], [5], [], [6, 7], [8], [4, 9], [10]] [1, 3, 3, 4, 10, 6, 8, 8, 9, 10] [eqv _, eqv _, eqv _, eqv _, eqv _, eqv _, eqv _, eqv _, eqv _, eqv _] (by kernel_rfl) (by kernel_rfl) ⟨?o0, ?o1, ?o2, ?o3, ?o4, ?o5, ?o6, ?o7, ?o8, ?o9, trivial⟩ ?last
        case o0 =>
         intro xv W hE _
         simp only [putD, List.foldl_nil, List.getD_cons_zero]
         refine OpGoal.plain ?_
         go_wp2_with fail
         exact ⟨rfl, Ext.refl _, rfl⟩
        case o1 =>
         intro xv W hE hp
         have r0 : xv 0 = _ := hp.1
         clear hp
         have l6 : W.cell? ⟨w.heap.size, 6, none⟩ = some (.slice (some ⟨b, o, none⟩) e.l.length c) := (((Ext.drew wr).trans hE).old (p := ⟨w.heap.size, 6, none⟩) (show w.heap.size < wr.heap.size by omega)).trans b6
         have m6 : W.cell? ⟨w.heap.size + 1, 6, none⟩ = some (.slice (some ⟨b', o', none⟩) e'.l.length c') := (((Ext.drew wr).trans hE).old (p := ⟨w.heap.size + 1, 6, none⟩) hk1l).trans b6'
         obtain ⟨y0, y1, y2, y3, y4, y5, y6⟩ := hO1.ext hbw ((Ext.drew wr).trans hE)
         obtain ⟨z0, z1, z2, z3, z4, z5, z6⟩ := hO1'.ext hbw' ((Ext.drew wr).trans hE)
         simp only [putD, foldl_nil, foldl_cons, getD_cons_zero, getD_cons_succ, Act.put, setIfInBounds_toArray, set_cons_zero, set_cons_succ]
         refine OpGoal.plain ?_
         go_wp2_with fail
         exact ⟨rfl, Ext.refl _, rfl⟩
        case o2 =>
         intro xv W hE _
         simp only [putD, List.foldl_nil, List.getD_cons_zero, List.getD_cons_succ]
         refine OpGoal.plain ?_
         go_wp2_with fail
         exact ⟨rfl, Ext.refl _, rfl⟩
        case o3 =>
         intro xv W hE hp
         have r1 : xv 1 = _ := hp.1
         have r2 : xv 2 = _ := hp.2.1
         clear hp
         simp only [putD, foldl_nil, foldl_cons, getD_cons_zero, getD_cons_succ, Act.put, setIfInBounds_toArray, set_cons_zero, set_cons_succ]
         refine OpGoal.plain ?_
         go_wp2_with fail
         exact ⟨rfl, Ext.refl _, rfl⟩
        case o4 =>
         intro xv W hE hp
         have r3 : xv 3 = _ := hp.1
         clear hp
         have l6 : W.cell? ⟨w.heap.size, 6, none⟩ = some (.slice (some ⟨b, o, none⟩) e.l.length c) := (((Ext.drew wr).trans hE).old (p := ⟨w.heap.size, 6, none⟩) (show w.heap.size < wr.heap.size by omega)).trans b6
         have m6 : W.cell? ⟨w.heap.size + 1, 6, none⟩ = some (.slice (some ⟨b', o', none⟩) e'.l.length c') := (((Ext.drew wr).trans hE).old (p := ⟨w.heap.size + 1, 6, none⟩) hk1l).trans b6'
         obtain ⟨y0, y1, y2, y3, y4, y5, y6⟩ := hO1.ext hbw ((Ext.drew wr).trans hE)
         obtain ⟨z0, z1, z2, z3, z4, z5, z6⟩ := hO1'.ext hbw' ((Ext.drew wr).trans hE)
         simp only [putD, foldl_nil, foldl_cons, getD_cons_zero, getD_cons_succ, Act.put, setIfInBounds_toArray, set_cons_zero, set_cons_succ]
         refine OpGoal.plain ?_
         go_wp2_with fail
         exact ⟨rfl, Ext.refl _, rfl⟩
        case o5 =>
         intro xv W hE _
         simp only [putD, List.foldl_nil, List.getD_cons_zero, List.getD_cons_succ]
         refine OpGoal.plain ?_
         go_wp2_with fail
         exact ⟨rfl, Ext.refl _, rfl⟩
        case o6 =>
         intro xv W hE hp
         have r5 : xv 5 = _ := hp.1
         clear hp
         have l6 : W.cell? ⟨w.heap.size, 6, none⟩ = some (.slice (some ⟨b, o, none⟩) e.l.length c) := (((Ext.drew wr).trans hE).old (p := ⟨w.heap.size, 6, none⟩) (show w.heap.size < wr.heap.size by omega)).trans b6
         have m6 : W.cell? ⟨w.heap.size + 1, 6, none⟩ = some (.slice (some ⟨b', o', none⟩) e'.l.length c') := (((Ext.drew wr).trans hE).old (p := ⟨w.heap.size + 1, 6, none⟩) hk1l).trans b6'
         obtain ⟨y0, y1, y2, y3, y4, y5, y6⟩ := hO1.ext hbw ((Ext.drew wr).trans hE)
         obtain ⟨z0, z1, z2, z3, z4, z5, z6⟩ := hO1'.ext hbw' ((Ext.drew wr).trans hE)
         simp only [putD, foldl_nil, foldl_cons, getD_cons_zero, getD_cons_succ, Act.put, setIfInBounds_toArray, set_cons_zero, set_cons_succ]
         refine OpGoal.plain ?_
         go_wp2_with fail
         exact ⟨rfl, Ext.refl _, rfl⟩
        case o7 =>
         intro xv W hE _
         simp only [putD, List.foldl_nil, List.getD_cons_zero, List.getD_cons_succ]
         refine OpGoal.plain ?_
         go_wp2_with fail
         exact ⟨rfl, Ext.refl _, rfl⟩
        case o8 =>
         intro xv W hE hp
         have r6 : xv 6 = _ := hp.1
         have r7 : xv 7 = _ := hp.2.1
         clear hp
         simp only [putD, foldl_nil, foldl_cons, getD_cons_zero, getD_cons_succ, Act.put, setIfInBounds_toArray, set_cons_zero, set_cons_succ]
         refine OpGoal.plain ?_
         go_wp2_with fail
         exact ⟨rfl, Ext.refl _, rfl⟩
        case o9 =>
         intro xv W hE hp
         have r8 : xv 8 = _ := hp.1
         clear hp
         have l6 : W.cell? ⟨w.heap.size, 6, none⟩ = some (.slice (some ⟨b, o, none⟩) e.l.length c) := (((Ext.drew wr).trans hE).old (p := ⟨w.heap.size, 6, none⟩) (show w.heap.size < wr.heap.size by omega)).trans b6
         have m6 : W.cell? ⟨w.heap.size + 1, 6, none⟩ = some (.slice (some ⟨b', o', none⟩) e'.l.length c') := (((Ext.drew wr).trans hE).old (p := ⟨w.heap.size + 1, 6, none⟩) hk1l).trans b6'
         obtain ⟨y0, y1, y2, y3, y4, y5, y6⟩ := hO1.ext hbw ((Ext.drew wr).trans hE)
         obtain ⟨z0, z1, z2, z3, z4, z5, z6⟩ := hO1'.ext hbw' ((Ext.drew wr).trans hE)
         simp only [putD, foldl_nil, foldl_cons, getD_cons_zero, getD_cons_succ, Act.put, setIfInBounds_toArray, set_cons_zero, set_cons_succ]
         refine OpGoal.plain ?_
         go_wp2_with fail
         exact ⟨rfl, Ext.refl _, rfl⟩
        case last =>
         intro xv W hE hp
         have r0 : xv 0 = _ := hp.1
         have r1 : xv 1 = _ := hp.2.1
         have r2 : xv 2 = _ := hp.2.2.1
         have r3 : xv 3 = _ := hp.2.2.2.1
         have r4 : xv 4 = _ := hp.2.2.2.2.1
         have r5 : xv 5 = _ := hp.2.2.2.2.2.1
         have r6 : xv 6 = _ := hp.2.2.2.2.2.2.1
         have r7 : xv 7 = _ := hp.2.2.2.2.2.2.2.1
         have r8 : xv 8 = _ := hp.2.2.2.2.2.2.2.2.1
         have r9 : xv 9 = _ := hp.2.2.2.2.2.2.2.2.2.1
         clear hp
         simp only [putD, List.foldl_nil, List.foldl_cons, List.getD_cons_zero, List.getD_cons_succ, Act.put, List.length_cons, List.length_nil, List.range_succ, List.range_zero, List.nil_append, List.cons_append, List.setIfInBounds_toArray, List.set_cons_zero, List.set_cons_succ]
         have hEw : Ext wr W := (Ext.drew wr).trans hE
         have e4 : xv 4 = .agg #[.int .i64 x.op, .int .i64 x.var, .int .i64 x.ty, .int .i64 x.n, .bool x.b, .string ⟨x.s.toArray⟩, .slice B x.l.length q] := r4
         have e9 : xv 9 = .agg #[.int .i64 x'.op, .int .i64 x'.var, .int .i64 x'.ty, .int .i64 x'.n, .bool x'.b, .string ⟨x'.s.toArray⟩, .slice B' x'.l.length q'] := r9
         rw [e4, e9]
         clear r0 r1 r2 r3 r4 r5 r6 r7 r8 r9 e4 e9 hO1 hO1' b6 b6'
         go_wp2_with fail
         refine (HIH.out _ (hXr.ext hEw) (hXr'.ext hEw)).mono ?_
         rintro r w' ⟨rfl, hEt⟩
         cases res with
         | true =>
          go_wp2_with fail
          go_roundw
          case rel => exact ⟨k + 1, by omega, by go_num, Lib.hid (HST.out (by simp)), (HE3.out.trans hEw).trans hEt⟩
          case measure => simp [intOf]; omega
         | false =>
          go_wp2_with fail
          go_ret
          exact ⟨by rw [HSE2.out, HNO.out (by simp)]; simp, (hE'.trans hEw).trans hEt⟩
       ·have hz : Ex.sames e.l e'.l = true := HAT.out.2 fun j h1 h2 => HS.out j h1 h2 (by omega)
        have HZ := Lib.hid hz
        have tlt : decide (k < e.l.length) = false := by simp; omega
        clear hz
        go_wp2_with fail
        go_ret
        exact ⟨by rw [HSE2.out, HZ.out]; rfl, hE2.trans hE⟩
     ·have hz : Ex.sames e.l e'.l = false := by
       rw [← Bool.not_eq_true, Ex.sames_iff]
       intro e; exact hne (by rw [e])
      have HZ := Lib.hid hz
      have tn2 : ((e.l.length : Int) != (e'.l.length : Int)) = true := by simp; omega
      clear hz
      go_enter Tryz.func45, Tryz.ntmps45
      go_wp2_with fail
      rw [HW2.out]
      go_ret
      exact ⟨by rw [HSE2.out, HZ.out]; rfl, hE2⟩
    | false =>
     rw [hvb] at hv HSE2
     clear hvb
     go_enter Tryz.func45, Tryz.ntmps45
     go_wp2_with fail
     rw [HW2.out]
     go_ret
     exact ⟨by rw [HSE2.out]; rfl, hE2⟩
   ·have t1 : (e.op != e'.op) = false := by simpa using h1
    have t2 : (e.var != e'.var) = true := by simpa using h2
    have HSE2 : Hid (e.same e' = false) := Lib.hid (by rw [HSE.out]; simp [h2])
    clear h1 h2 HSE hv
    go_enter Tryz.func45, Tryz.ntmps45
    go_wp2_with fail
    rw [HW2.out]
    go_ret
    exact ⟨by rw [HSE2.out]; rfl, hE2⟩
  ·have t1 : (e.op != e'.op) = true := by simpa using h1
   have HSE2 : Hid (e.same e' = false) := Lib.hid (by rw [HSE.out]; simp [h1])
   clear h1 HSE hv
   go_enter Tryz.func45, Tryz.ntmps45
   go_wp2_with fail
   rw [HW2.out]
   go_ret
   exact ⟨by rw [HSE2.out]; rfl, hE2⟩
end Go.Proofs.YtmiencglfhpmeaaGreatDoor
namespace Go.Proofs.YtmiencglfhpmeaaGreatDoor
open Go.RowKit Hach
def InI (n : Int) : Prop := -9223372036854775808 ≤ n ∧ n ≤ 9223372036854775807
mutual
def Ex.fit : Ex → Prop
 | .mk op var ty n _ s l => InI op ∧ InI var ∧ InI ty ∧ InI n ∧ s.length ≤ 30 ∧ Ex.fits l
def Ex.fits : List Ex → Prop
 | [] => True
 | e :: l => e.fit ∧ Ex.fits l
end
theorem Kids.app {W wb : World} {B : Nat} {v v1 : Value} {d : Nat} {us : List Nd} {nd : Nd} {lo : Nat} (hK : Kids W (SO B W v) d us) (hk : ExL W (fun b => lo ≤ b ∧ b < W.heap.size) d nd.A nd.x.l) (hlo : B ≤ lo) (hv : ∀ b, v.ownBlock = some b → b < lo) (hg : W.grownBy wb v.ownBlock) (hn : v1.ownBlock = v.ownBlock ∨ v1.ownBlock = some W.heap.size) :
  Kids wb (SO B wb v1) d (us ++ [nd]) := by
 have hsz := hg.size
 have key : ∀ b, B ≤ b → b < W.heap.size → v.ownBlock ≠ some b → (∀ o', wb.cell? ⟨b, o', none⟩ = W.cell? ⟨b, o', none⟩) ∧ SO B wb v1 b := fun b h1 h2 h3 => ⟨fun o' => grown_cell hg h2 h3 o', h1, by omega, fun e => by
  rcases hn with h | h
  ·exact h3 (h ▸ e)
  ·rw [h] at e; simp only [Option.some.injEq] at e; omega⟩
 refine Kids.snoc (Kids.more (Kids.keep hK fun b hb o' => (key b hb.1 hb.2.1 hb.2.2).1 o') fun b hb => (key b hb.1 hb.2.1 hb.2.2).2) ?_
 have h4 : ∀ b, lo ≤ b → v.ownBlock ≠ some b := fun b h e => by have := hv b e; omega
 exact (hk.keep fun b hb o' => (key b (by omega) hb.2 (h4 b hb.1)).1 o').more fun b hb => (key b (by omega) hb.2 (h4 b hb.1)).2
theorem Kids.ext {w w' : World} {B d : Nat} {v : Value} {us : List Nd} (h : Kids w (SO B w v) d us) (hE : Ext w w') : Kids w' (SO B w' v) d us :=
 (h.keep fun b hb o => hE.old (p := ⟨b, o, none⟩) hb.2.1).more fun b hb => ⟨hb.1, Nat.lt_of_lt_of_le hb.2.1 hE.sz, hb.2.2⟩
theorem fresh_ext {w w' : World} {lo d : Nat} {A : Option Addr} {l : List Ex} (h : ExL w (fun b => lo ≤ b ∧ b < w.heap.size) d A l) (hE : Ext w w') : ExL w' (fun b => lo ≤ b ∧ b < w'.heap.size) d A l :=
 (h.keep fun b hb o => hE.old (p := ⟨b, o, none⟩) hb.2).more fun b hb => ⟨hb.1, Nat.lt_of_lt_of_le hb.2 hE.sz⟩
theorem InBlk.new2 (w : World) (x : Ex) (A : Option Addr) (c : Nat) : InBlk (w.alloc (.cells (x.cells A c).toArray 47)) w.heap.size x (.slice A x.l.length c) := InBlk.new w x _
end Go.Proofs.YtmiencglfhpmeaaGreatDoor
namespace Go.Proofs.YtmiencglfhpmeaaGreatDoor
open Go.RowKit Hach
def lim (n : Int) : Int := max (-1073741824) (min n 1073741824)
theorem lim_bd (n : Int) : -1073741824 ≤ lim n ∧ lim n ≤ 1073741824 := by unfold lim; omega
def manyOf (op : Int) : Int := if op = 1 ∨ op = 2 then 0 else if op = 3 then 1 else if 4 ≤ op ∧ op ≤ 12 then 2 else if op = 13 then 3 else -1
def kindOf (op : Int) : Int := if op = 3 ∨ op = 4 ∨ op = 5 then 1 else if op = 6 then 2 else if op = 7 then 3 else if 8 ≤ op ∧ op ≤ 12 then 4 else if op = 13 then 5 else 0
def varTy (n : Int) : Int := if n = 2 ∨ n = 3 then 3 else if n = 6 then 2 else if 1 ≤ n ∧ n ≤ 9 then 1 else 0
theorem ret_i {a b : Int} (h : a = b) : Ending.returned (Value.int .i64 a) = .returned (.int .i64 b) := by rw [h]
theorem limit_any (n : Int) (w : World) : Calls Tryz.prog 98 #[.int .i64 n] w fun e w' => e = .returned (.int .i64 (lim n)) ∧ w' = w := by
 go_enter Tryz.func98, Tryz.ntmps98
 go_wp2_with fail
 all_goals
  go_ret
  exact ⟨ret_i (by unfold lim; omega), rfl⟩
theorem rLimit_any (n : Int) (w : World) : Calls Tryz.prog 127 #[.int .i64 n] w fun e w' => e = .returned (.int .i64 (lim n)) ∧ w' = w := by
 go_enter Tryz.func127, Tryz.ntmps127
 go_wp2_with fail
 all_goals
  go_ret
  exact ⟨ret_i (by unfold lim; omega), rfl⟩
theorem ops_all {op : Int} (h : 1 ≤ op ∧ op ≤ 13) : op = 1 ∨ op = 2 ∨ op = 3 ∨ op = 4 ∨ op = 5 ∨ op = 6 ∨ op = 7 ∨ op = 8 ∨ op = 9 ∨ op = 10 ∨ op = 11 ∨ op = 12 ∨ op = 13 := by omega
theorem int_ne {a b : Int} (h : a ≠ b) : (a == b) = false := by simpa using h
set_option maxHeartbeats 1000000 in
theorem class_any (op : Int) (w : World) : Calls Tryz.prog 115 #[.int .i64 op] w fun e w' => e = .returned (.tuple #[.int .i64 (kindOf op), .int .i64 (manyOf op)]) ∧ w' = w := by
 by_cases h : 1 ≤ op ∧ op ≤ 13
 ·rcases ops_all h with rfl | rfl | rfl | rfl | rfl | rfl | rfl | rfl | rfl | rfl | rfl | rfl | rfl
  all_goals
   clear h
   go_enter Tryz.func115, Tryz.ntmps115
   go_wp2_with fail
   go_ret2
   exact ⟨rfl, rfl⟩
 ·have hk : kindOf op = 0 := by unfold kindOf; repeat' split <;> omega
  have hm : manyOf op = -1 := by unfold manyOf; repeat' split <;> omega
  have e1 : (op == 1) = false := int_ne (by omega)
  have e2 : (op == 2) = false := int_ne (by omega)
  have e3 : (op == 3) = false := int_ne (by omega)
  have e4 : (op == 4) = false := int_ne (by omega)
  have e5 : (op == 5) = false := int_ne (by omega)
  have e6 : (op == 6) = false := int_ne (by omega)
  have e7 : (op == 7) = false := int_ne (by omega)
  have e13 : (op == 13) = false := int_ne (by omega)
  have HK := Lib.hid hk
  have HM := Lib.hid hm
  clear hk hm
  by_cases h8 : 8 ≤ op
  ·have t8 : decide (8 ≤ op) = true := by simpa using h8
   have t12 : decide (op ≤ 12) = false := by simp; omega
   clear h h8
   go_enter Tryz.func115, Tryz.ntmps115
   go_wp2_with fail
   go_ret2
   exact ⟨by rw [HK.out, HM.out]; rfl, rfl⟩
  ·have t8 : decide (8 ≤ op) = false := by simpa using h8
   clear h h8
   go_enter Tryz.func115, Tryz.ntmps115
   go_wp2_with fail
   go_ret2
   exact ⟨by rw [HK.out, HM.out]; rfl, rfl⟩
set_option maxHeartbeats 1000000 in
theorem many_any (op : Int) (w : World) : Calls Tryz.prog 147 #[.int .i64 op] w fun e w' => e = .returned (.int .i64 (manyOf op)) ∧ w' = w := by
 by_cases h : 1 ≤ op ∧ op ≤ 13
 ·rcases ops_all h with rfl | rfl | rfl | rfl | rfl | rfl | rfl | rfl | rfl | rfl | rfl | rfl | rfl
  all_goals
   clear h
   go_enter Tryz.func147, Tryz.ntmps147
   go_wp2_with fail
   go_ret
   exact ⟨rfl, rfl⟩
 ·have hm : manyOf op = -1 := by unfold manyOf; repeat' split <;> omega
  have e1 : (op == 1) = false := int_ne (by omega)
  have e2 : (op == 2) = false := int_ne (by omega)
  have e3 : (op == 3) = false := int_ne (by omega)
  have e13 : (op == 13) = false := int_ne (by omega)
  have HM := Lib.hid hm
  clear hm
  by_cases h4 : 4 ≤ op
  ·have t4 : decide (4 ≤ op) = true := by simpa using h4
   have t12 : decide (op ≤ 12) = false := by simp; omega
   clear h h4
   go_enter Tryz.func147, Tryz.ntmps147
   go_wp2_with fail
   go_ret
   exact ⟨by rw [HM.out]; rfl, rfl⟩
  ·have t4 : decide (4 ≤ op) = false := by simpa using h4
   clear h h4
   go_enter Tryz.func147, Tryz.ntmps147
   go_wp2_with fail
   go_ret
   exact ⟨by rw [HM.out]; rfl, rfl⟩
end Go.Proofs.YtmiencglfhpmeaaGreatDoor
