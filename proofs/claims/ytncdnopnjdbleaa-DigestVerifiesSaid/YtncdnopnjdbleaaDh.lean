/- Contracts of the reference's trees: level 0, the next level, the root, a proof, the check of a proof. -/
import Derived.Test.YtncdnopnjdbleaaDg
import Derived.Test.YtncdnopnjdbleaaDt
namespace Go.Proofs.Ytncdnopnjdbleaa
open Go.RowKit Hach

set_option maxHeartbeats 400000 in
theorem above_any (A : Option Addr) (n c : Nat) (l : List ByteArray) (w : World) (hS : Strs w w.heap.size A n l) (hn : n < 4294967296) (hd : Dgs l) :
    Calls Try.prog 39 #[.slice A n c] w fun e w' => ∃ v, e = .returned v ∧ OwnS w' w.heap.size v (abv l) ∧ Below w.heap.size w w' := by
  go_enter Try.func39, Try.ntmps39
  go_wp2_with fail
  go_loopw [3, 4] (fun v i wr => ∃ k : Nat, 2 * k ≤ n + 1 ∧ i = .int .i64 (2 * k : Nat) ∧ OwnS wr w.heap.size v ((abv l).take k) ∧ Below w.heap.size w wr) (fun _ i _ => n - (intOf i).toNat)
  case atStart => exact ⟨0, Nat.zero_le _, rfl, OwnS.nil _ _, Below.refl _ _⟩
  case round =>
    obtain ⟨k, hk, rfl, hO, hb⟩ := hrel
    have hz := hb.size
    by_cases hlt : 2 * k + 1 < n
    · obtain ⟨b, o, rfl, hbl, hc0⟩ := hS.at_ hlt
      have hl1 : 2 * k + 1 < l.length := by rw [hS.len]; exact hlt
      have hc1 : wr.cell? ⟨b, o + 2 * k, none⟩ = some (.string (l.getD (2 * k) ByteArray.empty)) := (hb.cell (p := ⟨b, o + 2 * k, none⟩) hbl).trans (hc0 (2 * k) (by omega))
      have hc2 : wr.cell? ⟨b, o + (2 * k + 1), none⟩ = some (.string (l.getD (2 * k + 1) ByteArray.empty)) := (hb.cell (p := ⟨b, o + (2 * k + 1), none⟩) hbl).trans (hc0 (2 * k + 1) (by omega))
      have hs1 : (l.getD (2 * k) ByteArray.empty).size < 9 := by rw [hd.at_ (by omega)]; omega
      have hs2 : (l.getD (2 * k + 1) ByteArray.empty).size < 9 := by rw [hd.at_ (by omega)]; omega
      have ht := abv_take_succ l k hl1
      have HT := Lib.hid ht
      clear hc0 ht
      generalize l.getD (2 * k) ByteArray.empty = x at hc1 hs1 HT
      generalize l.getD (2 * k + 1) ByteArray.empty = y at hc2 hs2 HT
      have hml : ((abv l).take k).length < 4294967296 := by simp; omega
      have hbw : b < wr.heap.size := by omega
      go_wp2_with fail
      apply wp_region_seq (l := [_, _, _, _, _, _, _, _, _, _, _, _, _, _]) (t := [_, _]) [some 12, some 13, some 14, some 15, some 16, some 17, some 18, some 19, some 20, some 21, some 22, some 23, some 24, some 25, some 26, some 3] [[], [], [], [1, 2], [3], [4], [], [], [7], [6, 8], [9], [5, 10], [11], [12], [0, 13], [14]] [14, 3, 3, 4, 5, 11, 9, 8, 9, 10, 11, 12, 14, 14] [eqv _, eqv _, eqv _, eqv _, eqv _, eqv _, eqv _, eqv _, eqv _, eqv _, eqv _, eqv _, (eqv (.string (node x y))), (slOne (node x y))] (by kernel_rfl) (by kernel_rfl) ⟨?o0, ?o1, ?o2, ?o3, ?o4, ?o5, ?o6, ?o7, ?o8, ?o9, ?o10, ?o11, ?o12, ?o13, trivial⟩ ?last
      case o0 => -- Op.move (Operand.tmp 3)
        intro xv W hE _
        simp only [putD, List.foldl_nil, List.getD_cons_zero]
        refine OpGoal.plain ?_
        go_wp2_with fail
        exact ⟨rfl, Ext.refl _, rfl⟩
      case o1 => -- Op.move (Operand.tmp 0)
        intro xv W hE _
        simp only [putD, List.foldl_nil, List.getD_cons_zero, List.getD_cons_succ]
        refine OpGoal.plain ?_
        go_wp2_with fail
        exact ⟨rfl, Ext.refl _, rfl⟩
      case o2 => -- Op.move (Operand.tmp 4)
        intro xv W hE _
        simp only [putD, List.foldl_nil, List.getD_cons_zero, List.getD_cons_succ]
        refine OpGoal.plain ?_
        go_wp2_with fail
        exact ⟨rfl, Ext.refl _, rfl⟩
      case o3 => -- Op.indexAddr 28 (Operand.tmp 13) (Operand.tmp 14)
        intro xv W hE hp
        have r1 : xv 1 = _ := hp.1
        have r2 : xv 2 = _ := hp.2.1
        clear hp
        simp only [putD, List.foldl_nil, List.foldl_cons, List.getD_cons_zero, List.getD_cons_succ, Act.put, List.setIfInBounds_toArray, List.set_cons_zero, List.set_cons_succ]
        refine OpGoal.plain ?_
        go_wp2_with fail
        exact ⟨rfl, Ext.refl _, rfl⟩
      case o4 => -- Op.load 9 (Operand.tmp 15)
        intro xv W hE hp
        have r3 : xv 3 = _ := hp.1
        clear hp
        have hcx : W.cell? ⟨b, o + 2 * k, none⟩ = some (.string x) := (hE.old (p := ⟨b, o + 2 * k, none⟩) hbw).trans hc1
        have hcy : W.cell? ⟨b, o + (2 * k + 1), none⟩ = some (.string y) := (hE.old (p := ⟨b, o + (2 * k + 1), none⟩) hbw).trans hc2
        simp only [putD, List.foldl_nil, List.foldl_cons, List.getD_cons_zero, List.getD_cons_succ, Act.put, List.setIfInBounds_toArray, List.set_cons_zero, List.set_cons_succ]
        refine OpGoal.plain ?_
        go_wp2_with fail
        exact ⟨rfl, Ext.refl _, rfl⟩
      case o5 => -- Op.binOp BinOp.add 9 (Operand.const (Value.string { data := #[4] })) (Operand.tm
        intro xv W hE hp
        have r4 : xv 4 = _ := hp.1
        clear hp
        simp only [putD, List.foldl_nil, List.foldl_cons, List.getD_cons_zero, List.getD_cons_succ, Act.put, List.setIfInBounds_toArray, List.set_cons_zero, List.set_cons_succ]
        refine OpGoal.plain ?_
        go_wp2_with fail
        exact ⟨rfl, Ext.refl _, rfl⟩
      case o6 => -- Op.move (Operand.tmp 0)
        intro xv W hE _
        simp only [putD, List.foldl_nil, List.getD_cons_zero, List.getD_cons_succ]
        refine OpGoal.plain ?_
        go_wp2_with fail
        exact ⟨rfl, Ext.refl _, rfl⟩
      case o7 => -- Op.move (Operand.tmp 4)
        intro xv W hE _
        simp only [putD, List.foldl_nil, List.getD_cons_zero, List.getD_cons_succ]
        refine OpGoal.plain ?_
        go_wp2_with fail
        exact ⟨rfl, Ext.refl _, rfl⟩
      case o8 => -- Op.binOp BinOp.add 3 (Operand.tmp 19) (Operand.const (Value.int IntKind.i64 1)) 
        intro xv W hE hp
        have r7 : xv 7 = _ := hp.1
        clear hp
        simp only [putD, List.foldl_nil, List.foldl_cons, List.getD_cons_zero, List.getD_cons_succ, Act.put, List.setIfInBounds_toArray, List.set_cons_zero, List.set_cons_succ]
        refine OpGoal.plain ?_
        go_wp2_with fail
        exact ⟨rfl, Ext.refl _, rfl⟩
      case o9 => -- Op.indexAddr 28 (Operand.tmp 18) (Operand.tmp 20)
        intro xv W hE hp
        have r6 : xv 6 = _ := hp.1
        have r8 : xv 8 = _ := hp.2.1
        clear hp
        simp only [putD, List.foldl_nil, List.foldl_cons, List.getD_cons_zero, List.getD_cons_succ, Act.put, List.setIfInBounds_toArray, List.set_cons_zero, List.set_cons_succ]
        refine OpGoal.plain ?_
        go_wp2_with fail
        exact ⟨rfl, Ext.refl _, rfl⟩
      case o10 => -- Op.load 9 (Operand.tmp 21)
        intro xv W hE hp
        have r9 : xv 9 = _ := hp.1
        clear hp
        have hcx : W.cell? ⟨b, o + 2 * k, none⟩ = some (.string x) := (hE.old (p := ⟨b, o + 2 * k, none⟩) hbw).trans hc1
        have hcy : W.cell? ⟨b, o + (2 * k + 1), none⟩ = some (.string y) := (hE.old (p := ⟨b, o + (2 * k + 1), none⟩) hbw).trans hc2
        simp only [putD, List.foldl_nil, List.foldl_cons, List.getD_cons_zero, List.getD_cons_succ, Act.put, List.setIfInBounds_toArray, List.set_cons_zero, List.set_cons_succ]
        refine OpGoal.plain ?_
        go_wp2_with fail
        exact ⟨rfl, Ext.refl _, rfl⟩
      case o11 => -- Op.binOp BinOp.add 9 (Operand.tmp 17) (Operand.tmp 22) 9
        intro xv W hE hp
        have r5 : xv 5 = _ := hp.1
        have r10 : xv 10 = _ := hp.2.1
        clear hp
        simp only [putD, List.foldl_nil, List.foldl_cons, List.getD_cons_zero, List.getD_cons_succ, Act.put, List.setIfInBounds_toArray, List.set_cons_zero, List.set_cons_succ]
        refine OpGoal.plain ?_
        go_wp2_with fail
        exact ⟨rfl, Ext.refl _, rfl⟩
      case o12 => -- Op.call { callee := Callee.value (Operand.func 13), args := #[Operand.tmp 23], a
        intro xv W hE hp
        have r11 : xv 11 = _ := hp.1
        clear hp
        simp only [putD, List.foldl_nil, List.foldl_cons, List.getD_cons_zero, List.getD_cons_succ, Act.put, List.setIfInBounds_toArray, List.set_cons_zero, List.set_cons_succ]
        refine OpGoal.plain ?_
        go_wp2_with fail
        refine (rOf_any _ _ (by simp only [ByteArray.size_append]; have : (⟨#[4]⟩ : ByteArray).size = 1 := rfl; omega)).mono ?_
        rintro e w' ⟨rfl, hb'⟩
        go_wp2_with fail
        exact ⟨rfl, hb', rfl⟩
      case o13 => -- Op.buildSlice 28 1 #[(0, Operand.tmp 24)]
        intro xv W hE hp
        have r12 : xv 12 = _ := hp.1
        clear hp
        simp only [putD, List.foldl_nil, List.foldl_cons, List.getD_cons_zero, List.getD_cons_succ, Act.put, List.setIfInBounds_toArray, List.set_cons_zero, List.set_cons_succ]
        refine OpGoal.plain ?_
        go_wp2_with fail
        exact ⟨rfl, Ext.alloc _ _, W.heap.size, rfl, by simp, by simp⟩
      case last =>
        intro xv W hE hp
        have r0 : xv 0 = _ := hp.1
        have r1 : xv 1 = _ := hp.2.1
        have r2 : xv 2 = _ := hp.2.2.1
        have r3 : xv 3 = _ := hp.2.2.2.1
        have r4 : xv 4 = _ := hp.2.2.2.2.1
        have r5 : xv 5 = _ := hp.2.2.2.2.2.1
        have r6 : xv 6 = _ := hp.2.2.2.2.2.2.1
        have r7 : xv 7 = _ := hp.2.2.2.2.2.2.2.1
        have r8 : xv 8 = _ := hp.2.2.2.2.2.2.2.2.1
        have r9 : xv 9 = _ := hp.2.2.2.2.2.2.2.2.2.1
        have r10 : xv 10 = _ := hp.2.2.2.2.2.2.2.2.2.2.1
        have r11 : xv 11 = _ := hp.2.2.2.2.2.2.2.2.2.2.2.1
        have r12 : xv 12 = _ := hp.2.2.2.2.2.2.2.2.2.2.2.2.1
        obtain ⟨g, rg, hg, hcg⟩ := hp.2.2.2.2.2.2.2.2.2.2.2.2.2.1
        clear hp
        simp only [putD, List.foldl_nil, List.foldl_cons, List.getD_cons_zero, List.getD_cons_succ, Act.put, List.length_cons, List.length_nil, List.range_succ, List.range_zero, List.nil_append, List.cons_append, List.setIfInBounds_toArray, List.set_cons_zero, List.set_cons_succ]
        refine app_s rfl 12 25 rfl w.heap.size u3 _ r0 ((hO.ext (Ext.drew _)).ext hE) g (node x y) rg hcg hml (by have := hE.sz; simp at this; omega) ?_
        intro v' w' hO' hg'
        go_wp2_with fail
        go_roundw
        case rel =>
          refine ⟨k + 1, by omega, by go_num, by rw [HT.out]; exact hO', ?_⟩
          exact below_of_grown ((hb.drew).trans (hE.below.mono (by simpa using hz))) ((hO.ext (Ext.drew _)).ext hE) hg' (by have := hE.sz; simp at this; omega)
        case measure => simp [intOf]; omega
    · go_wp2_with fail
      go_ret
      refine ⟨_, rfl, ?_, hb⟩
      rw [List.take_of_length_le (by rw [abv_length, hS.len]; omega)] at hO
      exact hO

set_option maxHeartbeats 400000 in
theorem leaves_any (A : Option Addr) (n c : Nat) (ss : List ByteArray) (w : World) (hS : Strs w w.heap.size A n ss) (hn : n < 1048576) (hsm : ∀ k, (ss.getD k ByteArray.empty).size < 429496729) :
    Calls Try.prog 37 #[.slice A n c] w fun e w' => ∃ v, e = .returned v ∧ OwnS w' w.heap.size v (lvs ss) ∧ Below w.heap.size w w' := by
  go_enter Try.func37, Try.ntmps37
  go_wp2_with fail
  go_loopw [3, 4] (fun v i wr => ∃ k : Nat, k ≤ n ∧ i = .int .i64 k ∧ OwnS wr w.heap.size v ((ss.take k).map lf) ∧ Below w.heap.size w wr) (fun _ i _ => n - (intOf i).toNat)
  case atStart => exact ⟨0, Nat.zero_le _, rfl, OwnS.nil _ _, Below.refl _ _⟩
  case round =>
    obtain ⟨k, hk, rfl, hO, hb⟩ := hrel
    have hz := hb.size
    by_cases hlt : k < n
    · obtain ⟨b, o, rfl, hbl, hc0⟩ := hS.at_ hlt
      have hc : wr.cell? ⟨b, o + k, none⟩ = some (.string (ss.getD k ByteArray.empty)) := (hb.cell (p := ⟨b, o + k, none⟩) hbl).trans (hc0 k hlt)
      have hkl : k < ss.length := by rw [hS.len]; exact hlt
      have hsz := hsm k
      have ht : ss.take (k + 1) = ss.take k ++ [ss.getD k ByteArray.empty] := by
        rw [List.take_succ_eq_append_getElem hkl]; simp [List.getD, List.getElem?_eq_getElem hkl]
      have HT := Lib.hid ht
      clear hc0 ht
      generalize ss.getD k ByteArray.empty = s at hc hsz HT
      have hml : ((ss.take k).map lf).length < 4294967296 := by simp; omega
      go_wp2_with fail
      refine (rLeaf_any _ _ hsz).mono ?_
      rintro e w1 ⟨rfl, hb1⟩
      have hE1 : Ext wr w1 := hb1
      have hO1 := hO.ext hE1
      have hz1 : w.heap.size ≤ w1.heap.size := by have := hE1.sz; omega
      have hbase : ∀ o : Obj, w.heap.size ≤ (w1.alloc o).heap.size := fun o => by rw [World.size_alloc]; omega
      go_wp2_with (at_builtin; refine app_s rfl 12 18 rfl w.heap.size u3 _ rfl (hO1.ext (Ext.alloc _ _)) w1.heap.size (lf s) rfl ((World.cell?_alloc_new _ _ _ _).trans rfl) hml (hbase _) ?_; intro v' w' hO' hg')
      go_roundw
      case rel =>
        refine ⟨k + 1, by omega, by go_num, by rw [HT.out]; simpa using hO', ?_⟩
        exact below_of_grown (hb.trans ((hE1.trans (Ext.alloc _ _)).below.mono hz)) (hO1.ext (Ext.alloc _ _)) hg' (hbase _)
      case measure => simp [intOf]; omega
    · obtain rfl : k = n := by omega
      have e : ss.take k = ss := List.take_of_length_le (by rw [hS.len]; exact Nat.le_refl _)
      rw [e] at hO
      clear e
      go_wp2_with fail
      go_loop [5] (fun v => ∃ x : Nat, v = .int .i64 x ∧ Half k x ∧ 1 ≤ x ∧ x ≤ 2 * k + 1) (fun v => k - (intOf v).toNat)
      case atStart => exact ⟨1, rfl, Half.one _, Nat.le_refl _, by omega⟩
      case round =>
        obtain ⟨x, rfl, hh, h1, h2⟩ := hrel
        by_cases hx : x < k
        · go_wp2_with fail
          go_round
          case rel => exact ⟨2 * x, by go_num, hh.two hx, by omega, by omega⟩
          case measure => simp [intOf]; omega
        · have hp := hh.p2 (Nat.le_of_not_lt hx)
          have HP := Lib.hid hp
          clear hp hh
          have hlen : (ss.map lf).length = k := by rw [List.length_map, hS.len]
          have HL := Lib.hid hlen
          clear hlen
          rw [← fill_self (ss.map lf), HL.out] at hO
          go_wp2_with fail
          go_loopw [3] (fun v wr' => ∃ m : Nat, k ≤ m ∧ m ≤ x ∧ OwnS wr' w.heap.size v (fill (ss.map lf) m) ∧ Below w.heap.size w wr') (fun v _ => x - lenOf v)
          case atStart => exact ⟨k, Nat.le_refl _, Nat.le_of_not_lt hx, hO, hb⟩
          case round =>
            rename_i wq
            obtain ⟨m, hm1, hm2, hO', hb'⟩ := hrel
            have hfl : (fill (ss.map lf) m).length = m := fill_length _ _ (by rw [HL.out]; exact hm1)
            have hz' := hb'.size
            obtain ⟨A2, c2, hv2⟩ : ∃ A c, u3 = .slice A m c := by
              obtain ⟨A, c, e, _⟩ := hO'.form
              exact ⟨A, c, by rw [e, hfl]⟩
            subst hv2
            have HF := Lib.hid hfl
            clear hfl
            by_cases hmx : m < x
            · have hsc : fill (ss.map lf) (m + 1) = fill (ss.map lf) m ++ [mis] := fill_succ _ _ (by rw [HL.out]; exact hm1)
              have HS := Lib.hid hsc
              clear hsc
              go_wp2_with fail
              refine (rOf_any ⟨#[5]⟩ _ (by show (1 : Nat) < _; omega)).mono ?_
              rintro e w1 ⟨rfl, hb1⟩
              have hE1 : Ext wr w1 := hb1
              have hO1 := hO'.ext hE1
              have hz1 : w.heap.size ≤ w1.heap.size := by have := hE1.sz; omega
              have hbase : ∀ o : Obj, w.heap.size ≤ (w1.alloc o).heap.size := fun o => by rw [World.size_alloc]; omega
              have hml : (fill (ss.map lf) m).length < 4294967296 := by rw [HF.out]; omega
              go_wp2_with (at_builtin; refine app_s rfl 30 32 rfl w.heap.size _ _ rfl (hO1.ext (Ext.alloc _ _)) w1.heap.size (dg ⟨#[5]⟩) rfl ((World.cell?_alloc_new _ _ _ _).trans rfl) hml (hbase _) ?_; intro v' w' hO2 hg')
              go_roundw
              case rel =>
                refine ⟨m + 1, by omega, by omega, by rw [HS.out]; exact hO2, ?_⟩
                exact below_of_grown (hb'.trans ((hE1.trans (Ext.alloc _ _)).below.mono hz')) (hO1.ext (Ext.alloc _ _)) hg' (hbase _)
              case measure =>
                obtain ⟨A3, c3, hv3, _⟩ := hO2.form
                rw [hv3]
                simp only [lenOf, List.length_append, HF.out, List.length_cons, List.length_nil]
                omega
            · obtain rfl : m = x := by omega
              go_wp2_with fail
              go_ret
              refine ⟨_, rfl, ?_, hb'⟩
              have e : lvs ss = fill (ss.map lf) m := by rw [lvs, hS.len, HP.out]
              rw [e]
              exact hO'

set_option maxHeartbeats 400000 in
theorem rRoot_any (A : Option Addr) (n c : Nat) (ss : List ByteArray) (w : World) (hS : Strs w w.heap.size A n ss) (hn : n < 1048576) (hsm : ∀ k, (ss.getD k ByteArray.empty).size < 429496729) :
    Calls Try.prog 26 #[.slice A n c] w fun e w' => e = .returned (.string (rootS ss)) ∧ Below w.heap.size w w' := by
  have hpn : p2 ss.length < 4294967296 := by have := p2_le (n := ss.length) (m := ss.length + 1) (by omega) (by omega); rw [hS.len] at *; omega
  go_enter Try.func26, Try.ntmps26
  go_wp2_with fail
  refine (leaves_any A n c ss _ hS hn hsm).mono ?_
  rintro e w1 ⟨v1, rfl, hO1, hb1⟩
  go_wp2_with fail
  go_loopw [3] (fun v wr => ∃ l : List ByteArray, OwnS wr w.heap.size v l ∧ rootL l = rootS ss ∧ 0 < l.length ∧ l.length < 4294967296 ∧ Dgs l ∧ Below w.heap.size w wr) (fun v _ => lenOf v)
  case atStart => exact ⟨lvs ss, hO1, rfl, by rw [lvs_length]; exact p2_pos _, by rw [lvs_length]; exact hpn, dgs_lvs ss, hb1⟩
  case round =>
    obtain ⟨l, hO, hr, h0, hl, hd, hb⟩ := hrel
    obtain ⟨A2, c2, hv2, hS2⟩ := hO.form
    subst hv2
    have HR := Lib.hid hr
    clear hr
    generalize hm : l.length = m at *
    have HM := Lib.hid hm
    clear hm
    have hz := hb.size
    by_cases h1 : 1 < m
    · go_wp2_with fail
      refine (above_any A2 m c2 l wr hS2 hl hd).mono ?_
      rintro e w2 ⟨v2, rfl, hO2, hb2⟩
      go_wp2_with fail
      go_roundw
      case rel =>
        refine ⟨abv l, hO2.base_ hz, ?_, ?_, ?_, dgs_abv l, hb.trans (hb2.mono hz)⟩
        · rw [← rootL_abv (by rw [HM.out]; exact h1), HR.out]
        · rw [abv_length, HM.out]; omega
        · rw [abv_length, HM.out]; omega
      case measure =>
        obtain ⟨A3, c3, hv3, _⟩ := hO2.form
        rw [hv3]
        simp only [lenOf, abv_length, HM.out]
        omega
    · obtain ⟨b, o, rfl, hbl, hc0⟩ := hS2.at_ (k := 0) h0
      have hc := hc0 0 h0
      rw [Nat.add_zero] at hc
      clear hc0
      go_wp2_with fail
      go_ret
      refine ⟨?_, hb⟩
      rw [← HR.out, rootL_one (by rw [HM.out]; exact h1)]
      rfl

set_option maxHeartbeats 400000 in
theorem rProve_no (A : Option Addr) (n c : Nat) (i : Int) (w : World) (hn : n < 1048576) (hi : -9223372036854775808 ≤ i ∧ i ≤ 9223372036854775807) (h : i < 0 ∨ (n : Int) ≤ i) :
    Calls Try.prog 24 #[.slice A n c, .int .i64 i] w fun e w' => e = .returned (.tuple #[.slice none 0 0, .bool false]) ∧ w = w' := by
  by_cases h1 : i < 0
  · clear h
    go_enter Try.func24, Try.ntmps24
    go_wp2_with fail
    go_ret2
    exact ⟨rfl, rfl⟩
  · have h2 : (n : Int) ≤ i := by omega
    clear h
    go_enter Try.func24, Try.ntmps24
    go_wp2_with fail
    go_ret2
    exact ⟨rfl, rfl⟩

/- what is owed of the value of the two results -/
def ProveEnd (w : World) (l : List ByteArray) (e : Ending) (w' : World) : Prop := ∃ v, e = .returned (.tuple #[v, .bool true]) ∧ OwnS w' w.heap.size v l ∧ Below w.heap.size w w'

set_option maxHeartbeats 400000 in
theorem rProve_yes (A : Option Addr) (n c i : Nat) (ss : List ByteArray) (w : World) (hS : Strs w w.heap.size A n ss) (hn : n < 1048576) (hsm : ∀ k, (ss.getD k ByteArray.empty).size < 429496729) (hi : i < n) :
    Calls Try.prog 24 #[.slice A n c, .int .i64 i] w (ProveEnd w (prvS ss i)) := by
  have hpn : p2 ss.length < 2097152 := by have := p2_le (n := ss.length) (m := ss.length + 1) (by omega) (by omega); rw [hS.len] at *; omega
  have t1 : decide ((n : Int) ≤ (i : Int)) = false := by simp; omega
  go_enter Try.func24, Try.ntmps24
  go_wp2_with fail
  refine (leaves_any A n c ss _ hS hn hsm).mono ?_
  rintro e w1 ⟨v1, rfl, hO1, hb1⟩
  go_wp2_with fail
  go_loopw [1, 6, 7] (fun vi vo vl wr => ∃ (j : Nat) (l o : List ByteArray), vi = .int .i64 j ∧ OwnS wr w.heap.size vo o ∧ OwnS wr w.heap.size vl l ∧ (∀ g, vo.ownBlock = some g → vl.ownBlock ≠ some g) ∧ o ++ prvL l j = prvS ss i ∧ j < l.length ∧ l.length < 2097152 ∧ o.length + l.length < 4294967 ∧ Pow2 l.length ∧ Dgs l ∧ Below w.heap.size w wr) (fun _ _ vl _ => lenOf vl)
  case atStart => exact ⟨i, lvs ss, [], rfl, OwnS.nil _ _, hO1, (fun g h => by cases h), rfl, by rw [lvs_length]; have := p2_ge ss.length; rw [hS.len] at *; omega, by rw [lvs_length]; exact hpn, by rw [lvs_length]; simp; omega, by rw [lvs_length]; exact pow2_p2 _, dgs_lvs ss, hb1⟩
  case round =>
    obtain ⟨j, l, o, rfl, hOo, hO, hne, hr, h0, hl, hol, hp2, hd, hb⟩ := hrel
    obtain ⟨A2, c2, hv2, hS2⟩ := hO.form
    subst hv2
    have HR := Lib.hid hr
    clear hr
    generalize hm : l.length = m at *
    have HM := Lib.hid hm
    clear hm
    have hz := hb.size
    by_cases h1 : 1 < m
    · have hnb := nbr_lt hp2 h1 h0
      obtain ⟨b, oo, rfl, hbl, hc0⟩ := hS2.at_ hnb
      have hc := hc0 (nbr j) hnb
      have hpl := prvL_abv (l := l) j (by rw [HM.out]; exact h1)
      have HPL := Lib.hid hpl
      clear hc0 hpl
      generalize l.getD (nbr j) ByteArray.empty = x at hc HPL
      have hml : o.length < 4294967296 := by omega
      go_wp2_with fail
      refine (neighbour_any j _ (by omega)).mono ?_
      rintro e w2 ⟨rfl, rfl⟩
      have hbase : ∀ o : Obj, w.heap.size ≤ (wr.alloc o).heap.size := fun o => by rw [World.size_alloc]; omega
      go_wp2_with (first | (at_builtin; refine app_sa rfl 21 27 rfl w.heap.size _ o rfl (hOo.ext (Ext.alloc _ _)) wr.heap.size x rfl ((World.cell?_alloc_new _ _ _ _).trans rfl) hml (hbase _) ?_; intro v' w' hO' hg' hat) | (go_at_call 39; fail))
      have hOl : OwnS w' w.heap.size (.slice (some ⟨b, oo, none⟩) m c2) l := (hO.ext (Ext.alloc _ _)).keep hg' (.inr fun h => hne b h.symm rfl)
      have hbw : Below w.heap.size w w' := below_of_grown (hb.alloc hz _) (hOo.ext (Ext.alloc _ _)) hg' (hbase _)
      have hz' := hbw.size
      have hszw : wr.heap.size < w'.heap.size := by have := hg'.size; rw [World.size_alloc] at this; omega
      have hS3 : Strs w' w'.heap.size (some ⟨b, oo, none⟩) m l := by
        obtain ⟨A3, c3, e3, hS3⟩ := hOl.form
        rw [HM.out] at e3 hS3
        injection e3 with e3 _ _
        rw [e3]
        exact hS3
      refine (above_any (some ⟨b, oo, none⟩) m c2 l w' hS3 (by omega) hd).mono ?_
      rintro e w3 ⟨v3, rfl, hO3, hb3⟩
      have hE3 : Ext w' w3 := hb3
      go_wp2_with fail
      go_roundw
      case rel =>
        refine ⟨j / 2, abv l, o ++ [x], by go_num, hO'.ext hE3, hO3.base_ hz', ?_, ?_, ?_, ?_, ?_, ?_, dgs_abv l, hbw.trans (hb3.mono hz')⟩
        · intro g hg hg2
          have h1 := (World.ownsRow.lt hO3 g hg2).1
          have h2 := (World.ownsRow.lt hO' g hg).2
          omega
        · rw [List.append_assoc, ← HR.out, HPL.out]; rfl
        · rw [abv_length, HM.out]; have := (hp2.half h1).2; omega
        · rw [abv_length, HM.out]; omega
        · rw [abv_length, HM.out, List.length_append]; simp; omega
        · rw [abv_length, HM.out]; exact (hp2.half h1).1
      case measure =>
        obtain ⟨A3, c3, hv3, _⟩ := hO3.form
        rw [hv3]
        simp only [lenOf, abv_length, HM.out]
        omega
    · go_wp2_with fail
      go_ret2
      refine ⟨_, rfl, ?_, hb⟩
      have h := HR.out
      rw [prvL_one j (by rw [HM.out]; exact h1), List.append_nil] at h
      rw [← h]
      exact hOo

/- the check of a proof -/
set_option maxHeartbeats 400000 in
theorem rVerify_any (r x : ByteArray) (i : Int) (A : Option Addr) (n c : Nat) (ps : List ByteArray) (w : World) (hS : Strs w w.heap.size A n ps) (hn : n < 4294967296) (hsm : Sm ps) (hx : x.size < 429496729) (hi : -9223372036854775808 ≤ i ∧ i ≤ 9223372036854775807) :
    Calls Try.prog 28 #[.string r, .string x, .int .i64 i, .slice A n c] w fun e w' => e = .returned (.bool (ver r x i ps)) ∧ Below w.heap.size w w' := by
  have hup : ∀ w1 : World, Ext w w1 → Calls Try.prog 29 #[.string (lf x), .int .i64 i, .slice A n c] w1 fun e w' => e = .returned (upV (upF (lf x) i ps)) ∧ Below w1.heap.size w1 w' := fun w1 hE => by
    have hS1 : Strs w1 w1.heap.size A n ps := (hS.below hE (Nat.le_refl _)).more hE.sz
    cases hok : upOk i n with
    | false =>
      refine (Up_no (lf x) i A n c w1 hn hi hok).mono ?_
      rintro e w2 ⟨rfl, rfl⟩
      exact ⟨by rw [upF_neg (by rw [hS.len]; exact hok)], Below.refl _ _⟩
    | true =>
      have h0 : 0 ≤ i := by unfold upOk at hok; simp at hok; exact hok.1.1
      obtain ⟨k, rfl⟩ := Int.eq_ofNat_of_zero_le h0
      refine (Up_yes (lf x) k A n c ps w1 hS1 hsm (by rw [lf_size]; omega) hok).mono ?_
      rintro e w2 ⟨rfl, hb⟩
      exact ⟨by rw [upF_pos (by rw [hS.len]; exact hok)]; simp, hb⟩
  have hv : ∀ o : Option ByteArray, upF (lf x) i ps = o → ver r x i ps = match o with | some d => d.toList == r.toList | none => false := fun o ho => by unfold ver; rw [ho]; cases o <;> rfl
  cases ho : upF (lf x) i ps with
  | none =>
    have e1 := hv _ ho
    simp only [] at e1
    rw [e1]
    rw [ho] at hup
    clear hv ho e1
    go_enter Try.func28, Try.ntmps28
    go_wp2_with fail
    refine (rLeaf_any _ _ hx).mono ?_
    rintro e w1 ⟨rfl, hb1⟩
    have HUP := Lib.hid hup
    clear hup
    go_wp2_with fail
    refine (HUP.out w1 hb1).mono ?_
    rintro e w2 ⟨rfl, hb2⟩
    unfold upV
    go_wp2_with fail
    go_ret
    exact ⟨rfl, Ext.trans hb1 hb2⟩
  | some d =>
    have e1 := hv _ ho
    simp only [] at e1
    rw [e1]
    rw [ho] at hup
    clear hv ho e1
    go_enter Try.func28, Try.ntmps28
    go_wp2_with fail
    refine (rLeaf_any _ _ hx).mono ?_
    rintro e w1 ⟨rfl, hb1⟩
    have HUP := Lib.hid hup
    clear hup
    go_wp2_with fail
    refine (HUP.out w1 hb1).mono ?_
    rintro e w2 ⟨rfl, hb2⟩
    unfold upV
    go_wp2_with fail
    go_ret
    exact ⟨rfl, Ext.trans hb1 hb2⟩
end Go.Proofs.Ytncdnopnjdbleaa
