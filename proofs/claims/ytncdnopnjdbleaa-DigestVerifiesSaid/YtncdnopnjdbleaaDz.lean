/- The contract of digest.Prove. -/
import Derived.Test.YtncdnopnjdbleaaDw
import Derived.Test.YtncdnopnjdbleaaDh
namespace Go.Proofs.Ytncdnopnjdbleaa
open Go.RowKit Hach Go.Shelf
attribute [local go_sem] Oper.semAt_some

theorem nbr_xor (j : Nat) : j ^^^ 1 = nbr j := by
  have h1 := Nat.xor_div_two_pow (a := j) (b := 1) (n := 1)
  have h2 := Nat.xor_mod_two_pow (a := j) (b := 1) (n := 1)
  rw [Nat.pow_one] at h1 h2
  simp only [Nat.reduceDiv, Nat.xor_zero, Nat.reduceMod] at h1 h2
  unfold nbr
  rcases Nat.mod_two_eq_zero_or_one j with h | h
  · rw [h] at h2
    rw [if_pos h]
    have : (0 ^^^ 1 : Nat) = 1 := rfl
    omega
  · rw [h] at h2
    rw [if_neg (by omega)]
    have : (1 ^^^ 1 : Nat) = 0 := rfl
    omega
theorem abide_ownS (B base : Nat) (v : Value) (ss : List ByteArray) : Abide B (fun W => OwnS W base v ss) := by
  rintro ⟨⟩ W W' row h hg hr
  refine OwnS.keep h hg ?_
  rcases h.2 with ⟨rfl, hn⟩ | ⟨g, cap, cur, rfl, hb, hgg, r⟩
  · exact .inl rfl
  · refine .inr fun e => ?_
    obtain ⟨o, ho, hc⟩ := (hr g e.symm).2
    rw [hgg] at ho
    cases ho
    cases hc

set_option maxHeartbeats 400000 in
theorem Prove_no (A : Option Addr) (n c : Nat) (i : Int) (w : World) (hn : n < 1048576) (hi : -9223372036854775808 ≤ i ∧ i ≤ 9223372036854775807) (h : i < 0 ∨ (n : Int) ≤ i) :
    Calls Try.prog 23 #[.slice A n c, .int .i64 i] w fun e w' => e = .returned (.tuple #[.slice none 0 0, .bool false]) ∧ Below w.heap.size w w' := by
  by_cases h1 : i < 0
  · clear h
    go_enter Try.func23, Try.ntmps23
    go_wp2_with fail
    go_ret2
    exact ⟨rfl, below_alloc _ _⟩
  · have h2 : (n : Int) ≤ i := by omega
    clear h
    go_enter Try.func23, Try.ntmps23
    go_wp2_with fail
    go_ret2
    exact ⟨rfl, below_alloc _ _⟩

theorem allL_length : ∀ (f : Nat) (l : List (List UInt8)), l.length ≤ f → (allL l).length ≤ l.length + 1
  | 0, l, h => by rw [allL_one (by omega)]; simp
  | f + 1, l, h => by
    by_cases h1 : 1 < l.length
    · have ha := abvP_length l
      have := allL_length f (abvP l) (by omega)
      rw [allL_two h1, List.length_cons]
      omega
    · rw [allL_one h1]; simp
/- what Prove keeps between two rounds -/
def PrvI (w : World) (i : Nat) (pre : List (List (List UInt8))) (B : Nat) (W : World) : Prop :=
  ∃ v : Value, (W.heap[w.heap.size]? = some (.cells #[.int .i64 ((prvAt ([], i) pre).2 : Nat)] 3) ∧ W.heap[w.heap.size + 1]? = some (.cells #[v] 28)) ∧ OwnS W (w.heap.size + 3) v (prvAt ([], i) pre).1 ∧ ((∀ g, v.ownBlock = some g → g < B) ∧ w.heap.size + 3 ≤ B) ∧ Below w.heap.size w W

set_option maxHeartbeats 1000000 in
theorem Prove_yes (A : Option Addr) (m c i : Nat) (ss : List ByteArray) (w : World) (hS : Strs w w.heap.size A m ss) (hm : m < 1048576) (hsm : ∀ k, (ss.getD k ByteArray.empty).size < 429496729) (hi : i < m) :
    Calls Try.prog 23 #[.slice A m c, .int .i64 i] w (ProveEnd w (prvS ss i)) := by
  have t1 : decide ((m : Int) ≤ (i : Int)) = false := by simp; omega
  have t0 : decide ((i : Int) < 0) = false := by simp
  have t2 : decide (m ≤ i) = false := by simp; omega
  refine (callsIn_wide (n := 9)).1 ?_
  refine callsIn_of_wp_marks Try.func23 rfl trivial ?_ rfl
  simp only [Try.ntmps23, List.size_toArray, List.length_cons, List.length_nil, Nat.reduceAdd, Nat.reduceSub, Array.replicate_succ, Array.replicate_zero, List.push_toArray, List.append_toArray, List.nil_append, List.cons_append]
  gi_wp2
  refine ⟨trivial, (callsIn_wide.2 (levels_any A m c _)).mono ?_⟩
  rintro e w' ⟨rfl, rfl⟩
  obtain ⟨w1, hw1⟩ : ∃ w1, ((w.alloc (.cells #[.int .i64 i] 3)).alloc (.cells #[.slice none 0 0] 28)).alloc (.cells #[.slice A m c] 28) = w1 := ⟨_, rfl⟩
  have hsz : w1.heap.size = w.heap.size + 3 := by rw [← hw1]; simp
  have hB1 : Below w.heap.size w w1 := by rw [← hw1]; exact (((Below.refl _ w).alloc (Nat.le_refl _) _).alloc (by simp) _).alloc (by simp; omega) _
  have hbi : w1.heap[w.heap.size]? = some (.cells #[.int .i64 i] 3) := by
    rw [← hw1]; exact (Below.heap_alloc _ _ _ (by simp; omega)).trans ((Below.heap_alloc _ _ _ (by simp)).trans (World.alloc_heap_new w _))
  have hbp : w1.heap[w.heap.size + 1]? = some (.cells #[.slice none 0 0] 28) := by
    rw [← hw1]; have := World.alloc_heap_new (w.alloc (.cells #[.int .i64 i] 3)) (.cells #[.slice none 0 0] 28); rw [World.size_alloc] at this
    exact (Below.heap_alloc _ _ _ (by simp)).trans this
  have hlst : w1.cell? ⟨w.heap.size + 2, 0, none⟩ = some (.slice A m c) := by
    rw [← hw1]; have := World.cell?_alloc_new ((w.alloc (.cells #[.int .i64 i] 3)).alloc (.cells #[.slice none 0 0] 28)) #[.slice A m c] 28 0; rw [World.size_alloc, World.size_alloc] at this; exact this
  rw [World.size_alloc, World.size_alloc, hw1]
  gi_wp2
  refine wpIn_range (F := Fence.wide) rfl (by omega) (gf := 41) (lb := #[.pointer (some ⟨w.heap.size + 2, 0, none⟩)]) rfl trivial (enters_of Try.func41 (by kernel_rfl) rfl)
    RdD (allL (lvsP ss)) (levels_yields (w.heap.size + 2) A m c ss w1 hlst ((hS.below hB1 (Nat.le_refl _)).more (by omega)) hm hsm _) rfl
    (PrvI w i) (fun pre B => abide_ex fun v => abide_and (abide_and (abide_row _ _ _ _ _) (abide_row _ _ _ _ _)) (abide_and (abide_ownS _ _ _ _) (abide_and (abide_pure _ _) (abide_below (Nat.le_refl _) (by omega)))))
    (fun hB ⟨v, h1, h2, ⟨h3, h4⟩, h5⟩ => ⟨v, h1, h2, ⟨fun g hg => Nat.lt_of_lt_of_le (h3 g hg) hB, Nat.le_trans h4 hB⟩, h5⟩) (fun x v B => abide_rdD _ x v B)
    ⟨.slice none 0 0, ⟨hbi, hbp⟩, OwnS.nil _ _, ⟨fun g h => (by cases h), (by omega)⟩, hB1⟩
    (fun v => { tmps := #[.slice A m c, .int .i64 i, undef, .pointer (some ⟨w.heap.size, 0, none⟩), .slice none 0 0, .bool false, .pointer (some ⟨w.heap.size + 1, 0, none⟩), v, .int .i64 i, .bool false, .bool false, .int .i64 i, .slice A m c, .int .i64 m, .bool false, .bool false, .slice A m c, .func (.func 41) #[] #[.pointer (some ⟨w.heap.size + 2, 0, none⟩)], v, undef, undef, undef, undef, undef, undef, undef, undef, undef, undef, undef, undef, undef, undef, undef], defers := [] }) ?assign ?body ?done
  case assign =>
    intro l v W K hK
    gi_wp2
    exact hK
  case body =>
    rintro l pre x post lv B V hpx ⟨v, ⟨hri, hrp⟩, hO, ⟨hvB, hlB⟩, hBw⟩ hBV hBs hrd
    obtain ⟨hxp, hjx, hxl⟩ := prvAt_in pre (lvsP ss) ([], i) x post hpx (by rw [lvsP_length]; exact pow2_p2 _) (by rw [lvsP_length]; have := p2_ge ss.length; rw [hS.len] at *; show i < _; omega)
    have hpl := prvAt_len pre ([], i)
    obtain ⟨ps, j, hpj⟩ : ∃ ps j, prvAt ([], i) pre = (ps, j) := ⟨_, _, rfl⟩
    rw [hpj] at hri hO hjx hpl
    have HPJ := Lib.hid hpj
    clear hpj
    simp only at hri hO hjx hpl
    have hrd' := hrd
    obtain ⟨b, c3, rfl, hbB, hbl, hc⟩ := hrd'
    by_cases h1 : 1 < x.length
    · have hle : pre.length < 4194304 := by
        have h2 := allL_length _ (lvsP ss) (Nat.le_refl _)
        rw [hpx, lvsP_length, hS.len] at h2
        have h3 := p2_le (n := m) (m := m + 1) (by omega) (by omega)
        simp at h2
        omega
      have hpsl : ps.length < 4294967296 := by simp at hpl; omega
      have hxl2 : x.length < 4294967296 := by
        rw [lvsP_length, hS.len] at hxl
        have h3 := p2_le (n := m) (m := m + 1) (by omega) (by omega)
        omega
      have hnb : nbr j < x.length := nbr_lt hxp h1 hjx
      have hc0 : ∀ i, i < 8 → V.cell? ⟨b, nbr j * 8 + i, none⟩ = some (.int .u8 (dgb (x.getD (nbr j) []) i)) := fun i hi => hc (nbr j) hnb i hi
      obtain ⟨L, hL⟩ : ∃ L, x.getD (nbr j) [] = L := ⟨_, rfl⟩
      rw [hL] at hc0
      have HL := Lib.hid hL
      clear hL hc hpl hle hxl
      have q1 : decide ((1 : Int) < (x.length : Int)) = true := by simp; omega
      have q2 : bits .xor .i64 (j : Int) 1 = (nbr j : Int) := by rw [← nbr_xor]; exact bits_xor_i64 j 1 (by omega) (by omega)
      have HH1 := Lib.hid h1
      clear h1
      have HRI := Lib.hid hri
      have HRP := Lib.hid hrp
      have hz3 : w.heap.size + 3 ≤ V.heap.size := by omega
      have ci : V.cell? ⟨w.heap.size, 0, none⟩ = some (.int .i64 j) := by simp [World.cell?, hri]
      have cp : V.cell? ⟨w.heap.size + 1, 0, none⟩ = some v := by simp [World.cell?, hrp]
      clear hri hrp
      gi_wp2
      apply wpIn_region_seq (l := [_, _, _, _, _, _, _, _]) (t := [_, _]) [some 22, some 23, some 24, some 25, some 26, some 27, some 28, some 29, some 30, none] [[], [], [], [2], [1, 3], [4], [5], [6], [0, 7], [8]] [8, 4, 3, 4, 5, 6, 8, 8] [eqv _, eqv _, eqv _, eqv _, eqv _, eqv _, (eqv (.string (dgs L))), (slOne (dgs L))] (fun ⟨_, _, h⟩ => h) (by kernel_rfl) (by kernel_rfl) ⟨?o0, ?o1, ?o2, ?o3, ?o4, ?o5, ?o6, ?o7, trivial⟩ ?last
      case o0 => -- Op.load 28 (Operand.tmp 6)
        intro xv W hE _
        have cpW : W.cell? ⟨w.heap.size + 1, 0, none⟩ = some v := (hE.old (p := ⟨w.heap.size + 1, 0, none⟩) (by show w.heap.size + 1 < V.heap.size; omega)).trans cp
        simp only [putD, List.foldl_nil, List.getD_cons_zero]
        refine OpGoal.plain ?_
        go_wp2_with fail
        exact ⟨rfl, Ext.refl _, rfl⟩
      case o1 => -- Op.move (Operand.tmp 7)
        intro xv W hE _
        simp only [putD, List.foldl_nil, List.getD_cons_zero, List.getD_cons_succ]
        refine OpGoal.plain ?_
        go_wp2_with fail
        exact ⟨rfl, Ext.refl _, rfl⟩
      case o2 => -- Op.load 3 (Operand.tmp 3)
        intro xv W hE _
        have ciW : W.cell? ⟨w.heap.size, 0, none⟩ = some (.int .i64 j) := (hE.old (p := ⟨w.heap.size, 0, none⟩) (by show w.heap.size < V.heap.size; omega)).trans ci
        simp only [putD, List.foldl_nil, List.getD_cons_zero, List.getD_cons_succ]
        refine OpGoal.plain ?_
        go_wp2_with fail
        exact ⟨rfl, Ext.refl _, rfl⟩
      case o3 => -- Op.binOp BinOp.xor 3 (Operand.tmp 24) (Operand.const (Value.int IntKind.i64 1)) 
        intro xv W hE hp
        have r2 : xv 2 = _ := hp.1
        clear hp
        simp only [putD, List.foldl_nil, List.foldl_cons, List.getD_cons_zero, List.getD_cons_succ, Act.put, List.setIfInBounds_toArray, List.set_cons_zero, List.set_cons_succ]
        refine OpGoal.plain ?_
        go_wp2_with fail
        exact ⟨rfl, Ext.refl _, rfl⟩
      case o4 => -- Op.indexAddr 60 (Operand.tmp 23) (Operand.tmp 25)
        intro xv W hE hp
        have r1 : xv 1 = _ := hp.1
        have r3 : xv 3 = _ := hp.2.1
        clear hp
        simp only [putD, List.foldl_nil, List.foldl_cons, List.getD_cons_zero, List.getD_cons_succ, Act.put, List.setIfInBounds_toArray, List.set_cons_zero, List.set_cons_succ]
        refine OpGoal.plain ?_
        go_wp2_with fail
        exact ⟨rfl, Ext.refl _, rfl⟩
      case o5 => -- Op.load 52 (Operand.tmp 26)
        intro xv W hE hp
        have r4 : xv 4 = _ := hp.1
        clear hp
        have hd : ∀ i, i < 8 → W.cell? ⟨b, nbr j * 8 + i, none⟩ = some (.int .u8 (dgb L i)) := fun i hi => (hE.old (p := ⟨b, nbr j * 8 + i, none⟩) hbl).trans (hc0 i hi)
        have p0 : W.cell? ⟨b, nbr j * 8, none⟩ = some (.int .u8 (dgb L 0)) := hd 0 (by omega)
        have p1 := hd 1 (by omega)
        have p2' := hd 2 (by omega)
        have p3 := hd 3 (by omega)
        have p4 := hd 4 (by omega)
        have p5 := hd 5 (by omega)
        have p6 := hd 6 (by omega)
        have p7 := hd 7 (by omega)
        simp only [putD, List.foldl_nil, List.foldl_cons, List.getD_cons_zero, List.getD_cons_succ, Act.put, List.setIfInBounds_toArray, List.set_cons_zero, List.set_cons_succ]
        refine OpGoal.plain ?_
        go_wp2_with fail
        exact ⟨rfl, Ext.refl _, rfl⟩
      case o6 => -- Op.call { callee := Callee.value (Operand.func 32), args := #[Operand.tmp 27], a
        intro xv W hE hp
        have r5 : xv 5 = _ := hp.1
        clear hp
        simp only [putD, List.foldl_nil, List.foldl_cons, List.getD_cons_zero, List.getD_cons_succ, Act.put, List.setIfInBounds_toArray, List.set_cons_zero, List.set_cons_succ]
        refine OpGoal.plain ?_
        go_wp2_with fail
        refine (text_any L W).mono ?_
        rintro e w' ⟨rfl, hb⟩
        go_wp2_with fail
        exact ⟨rfl, hb, rfl⟩
      case o7 => -- Op.buildSlice 28 1 #[(0, Operand.tmp 28)]
        intro xv W hE hp
        have r6 : xv 6 = _ := hp.1
        clear hp
        simp only [putD, List.foldl_nil, List.foldl_cons, List.getD_cons_zero, List.getD_cons_succ, Act.put, List.setIfInBounds_toArray, List.set_cons_zero, List.set_cons_succ]
        refine OpGoal.plain ?_
        go_wp2_with fail
        exact ⟨rfl, Ext.alloc _ _, W.heap.size, rfl, by simp, by simp⟩
      case last =>
        intro xv W hE hp
        have r0 : xv 0 = _ := hp.1
        have r1 : xv 1 = _ := hp.2.1
        have r2 : xv 2 = _ := hp.2.2.1
        have r3 : xv 3 = _ := hp.2.2.2.1
        have r4 : xv 4 = _ := hp.2.2.2.2.1
        have r5 : xv 5 = _ := hp.2.2.2.2.2.1
        have r6 : xv 6 = _ := hp.2.2.2.2.2.2.1
        obtain ⟨g, r7, hg, hcg⟩ := hp.2.2.2.2.2.2.2.1
        clear hp
        simp only [putD, List.foldl_nil, List.foldl_cons, List.getD_cons_zero, List.getD_cons_succ, Act.put, List.length_cons, List.length_nil, List.range_succ, List.range_zero, List.nil_append, List.cons_append, List.setIfInBounds_toArray, List.set_cons_zero, List.set_cons_succ]
        have hEV : Ext V W := (Ext.drew V).trans hE
        have hOW := hO.ext hEV
        have hzW : w.heap.size + 3 ≤ W.heap.size := by have := hEV.sz; omega
        have hiW : W.heap[w.heap.size]? = some (.cells #[.int .i64 j] 3) := (hEV.block _ (by omega)).trans HRI.out
        have hpW : W.heap[w.heap.size + 1]? = some (.cells #[v] 28) := (hEV.block _ (by omega)).trans HRP.out
        have HIW := Lib.hid hiW
        have HPW := Lib.hid hpW
        clear hiW hpW
        refine app_sa rfl 22 29 rfl (w.heap.size + 3) v ps r0 hOW g (dgs L) r7 hcg hpsl hzW ?_
        intro v' w' hO' hg' hown
        have hnv : ∀ k, k < w.heap.size + 3 → some k ≠ v.ownBlock := fun k hk e => by have := (World.ownsRow.lt hOW k e.symm).1; omega
        have hi' : w'.heap[w.heap.size]? = some (.cells #[.int .i64 j] 3) := (hg'.block _ (by omega) (hnv _ (by omega))).trans HIW.out
        have hp' : w'.heap[w.heap.size + 1]? = some (.cells #[v] 28) := (hg'.block _ (by omega) (hnv _ (by omega))).trans HPW.out
        have HI' := Lib.hid hi'
        have HP' := Lib.hid hp'
        clear hi' hp'
        have cp' : w'.cell? ⟨w.heap.size + 1, 0, none⟩ = some v := by simp [World.cell?, HP'.out]
        have fp' : w'.frozen? ⟨w.heap.size + 1, 0, none⟩ = false := by simp [World.frozen?, HP'.out]
        obtain ⟨A4, c4, hv5⟩ : ∃ A c, v' = .slice A (ps.length + 1) c := by
          obtain ⟨A4, c4, hv4, _⟩ := hO'.form
          exact ⟨A4, c4, by rw [hv4]; simp⟩
        subst hv5
        go_wp2_with fail
        obtain ⟨V5, hV5⟩ : ∃ V5, w'.setCell ⟨w.heap.size + 1, 0, none⟩ (.slice A4 (ps.length + 1) c4) = V5 := ⟨_, rfl⟩
        rw [hV5]
        have hi5 : V5.heap[w.heap.size]? = some (.cells #[.int .i64 j] 3) := by
          rw [← hV5, Below.heap_setCell _ _ _ _ (by show w.heap.size ≠ w.heap.size + 1; omega)]; exact HI'.out
        have hp5 : V5.heap[w.heap.size + 1]? = some (.cells #[.slice A4 (ps.length + 1) c4] 28) := by
          rw [← hV5]; exact heap_setCell_same _ _ 0 _ _ _ HP'.out
        have HI5 := Lib.hid hi5
        have HP5 := Lib.hid hp5
        clear hi5 hp5
        have ci5 : V5.cell? ⟨w.heap.size, 0, none⟩ = some (.int .i64 j) := by simp [World.cell?, HI5.out]
        have fi5 : V5.frozen? ⟨w.heap.size, 0, none⟩ = false := by simp [World.frozen?, HI5.out]
        have HV5 := Lib.hid hV5
        clear hV5
        gi_wp2
        have hzw : W.heap.size ≤ w'.heap.size := hg'.size
        have hz5 : V5.heap.size = w'.heap.size := by rw [← HV5.out]; simp
        have hz6 : (V5.setCell ⟨w.heap.size, 0, none⟩ (.int .i64 ((j : Int) / 2))).heap.size = w'.heap.size := by rw [← hz5]; simp
        have hbW : b < W.heap.size := by have := hEV.sz; omega
        have hb6 : (V5.setCell ⟨w.heap.size, 0, none⟩ (.int .i64 ((j : Int) / 2))).heap[b]? = V.heap[b]? := by
          rw [Below.heap_setCell _ _ _ _ (by show b ≠ w.heap.size; omega), ← HV5.out, Below.heap_setCell _ _ _ _ (by show b ≠ w.heap.size + 1; omega), hg'.block b hbW (fun e => by have := hvB b e.symm; omega)]
          exact hEV.block b hbl
        have k1 : KeepsOthers V W := ⟨hEV.sz, fun k o hk _ => (hEV.block k (some_lt hk)).trans hk⟩
        have k2 : KeepsOthers W w' := KeepsOthers.of_grownBy hg' (fun k o e ho => by
          rcases hOW.2 with ⟨rfl, _⟩ | ⟨g', cap, cur, rfl, _, hgb, _⟩
          · simp [Value.ownBlock] at e
          · obtain rfl : g' = k := by simpa [Value.ownBlock] using e
            rw [hgb] at ho; cases ho; rfl)
        have k3 : KeepsOthers w' V5 := by rw [← HV5.out]; exact KeepsOthers.setCell _ _ _
        have hb' : Below w.heap.size w w' := below_of_grown (hBw.trans (hEV.below.mono hBw.size)) (hOW.base_ (by omega)) hg' (by omega)
        have hb5 : Below w.heap.size w V5 := by rw [← HV5.out]; exact hb'.setCell (p := ⟨w.heap.size + 1, 0, none⟩) (by show w.heap.size ≤ w.heap.size + 1; omega) _
        have o5 : OwnS V5 (w.heap.size + 3) (.slice A4 (ps.length + 1) c4) (ps ++ [dgs L]) := by
          rw [← HV5.out]
          exact hO'.keep (grownBy_setCell' _ _ _) (.inr fun e => by have := (World.ownsRow.lt hO' _ e).1; omega)
        have o6 : OwnS (V5.setCell ⟨w.heap.size, 0, none⟩ (.int .i64 ((j : Int) / 2))) (w.heap.size + 3) (.slice A4 (ps.length + 1) c4) (ps ++ [dgs L]) := o5.keep (grownBy_setCell' _ _ _) (.inr fun e => by have := (World.ownsRow.lt o5 _ e).1; omega)
        refine ⟨(((k1.trans k2).trans k3).trans (KeepsOthers.setCell _ _ _)).from _, ⟨.slice A4 (ps.length + 1) c4, ?_, ?_, ⟨fun g hg => (World.ownsRow.lt o6 g hg).2, by rw [hz6]; omega⟩, hb5.setCell (p := ⟨w.heap.size, 0, none⟩) (Nat.le_refl _) _⟩, ⟨b, c3, rfl, Nat.zero_le _, by rw [hz6]; omega, fun j' hj' i' hi' => ?_⟩⟩
        · rw [prvAt_snoc, HPJ.out, prvStep, if_pos HH1.out]
          refine ⟨heap_setCell_same _ _ 0 _ _ _ HI5.out, ?_⟩
          rw [Below.heap_setCell _ _ _ _ (by show w.heap.size + 1 ≠ w.heap.size; omega)]
          exact HP5.out
        · rw [prvAt_snoc, HPJ.out, prvStep, if_pos HH1.out, HL.out]
          exact o6
        · obtain ⟨b', c', e', _, _, hcell⟩ := hrd
          simp only [Value.slice.injEq, Option.some.injEq, Addr.mk.injEq, and_true, true_and] at e'
          obtain ⟨rfl, _⟩ := e'
          exact (World.cell?_of_block (a := ⟨b, j' * 8 + i', none⟩) hb6).trans (hcell j' hj' i' hi')
    · have q2 : decide ((1 : Int) < (x.length : Int)) = false := by simp; omega
      gi_wp2
      refine ⟨KeepsFrom.refl _ _, ⟨v, ?_, ?_, ⟨fun g hg => Nat.lt_of_lt_of_le (hvB g hg) hBV, Nat.le_trans hlB hBV⟩, hBw⟩, rdD_base hrd (Nat.zero_le _)⟩
      · rw [prvAt_snoc, HPJ.out, prvStep, if_neg h1]; exact ⟨hri, hrp⟩
      · rw [prvAt_snoc, HPJ.out, prvStep, if_neg h1]; exact hO
  case done =>
    rintro D V hD ⟨v, ⟨hri, hrp⟩, hO, ⟨hvB, hlB⟩, hBw⟩ hK
    have hcp : V.cell? ⟨w.heap.size + 1, 0, none⟩ = some v := by simp [World.cell?, hrp]
    rw [prvAt_all _ (lvsP ss) ([], i) (Nat.le_refl _) (by rw [lvsP_length]; exact pow2_p2 _) (by rw [lvsP_length]; have := p2_ge ss.length; rw [hS.len] at *; show i < _; omega), lvsP_dgs] at hO
    clear hri hrp
    gi_wp2
    refine ⟨by simp, .inl ⟨_, _, rfl, run_takeDeferred hK, ?_⟩⟩
    refine ⟨_, results_tmp2 rfl _ _ _, v, rfl, ?_, hBw.trans (belowK_b (w := w) (Nat.le_refl _) V D _ _ (by omega) hK rfl rfl)⟩
    exact (OwnFrom.putObj (abide_ownS (w.heap.size + 3) _ v _) (s := ()) _ hO (by omega) hK rfl).base_ (by omega)
end Go.Proofs.Ytncdnopnjdbleaa
