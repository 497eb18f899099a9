/- Rows of integers that a call makes; cover.Borders. -/
import Derived.Sort.OwnSortedInts
import Derived.Test.YtompfgofaplffaaGreatDoorQEq
import Derived.Test.YtompfgofaplffaaGreatDoorQAe
import Derived.Maps.RangeRun
import Derived.MapKept
import Derived.Carry
set_option linter.unusedSimpArgs false
set_option linter.unusedVariables false
namespace Go.Proofs.YtompfgofaplffaaGreatDoor
open Go.RowKit Hach Go.Sort

theorem infoI0 : (Tryz.prog.info? 3).map (fun i => (i.zero, i.size, i.bytes)) = some (some (.int .i64 0), 1, 8) := by kernel_rfl
def OwnI (w : World) (base : Nat) (v : Value) (zs : List Int) : Prop := w.ownsRow base 3 1 v zs.length (zs.map (Value.int .i64))
theorem OwnI.nil (w : World) (base : Nat) : OwnI w base (.slice none 0 0) [] := World.ownsRow_nil w base _ 1
theorem OwnI.ext {w w' : World} {base : Nat} {v : Value} {zs : List Int} (h : OwnI w base v zs) (hE : Ext w w') : OwnI w' base v zs := World.ownsRow.kept h (grownE hE none) (by cases v.ownBlock <;> simp)
theorem OwnI.base_ {w : World} {base base' : Nat} {v : Value} {zs : List Int} (h : OwnI w base v zs) (hb : base' ≤ base) : OwnI w base' v zs := by
  refine ⟨h.1, ?_⟩
  rcases h.2 with hn | ⟨g, cap, cur, e, hg, r⟩
  · exact .inl hn
  · exact .inr ⟨g, cap, cur, e, Nat.le_trans hb hg, r⟩
theorem OwnI.lt {w : World} {base : Nat} {v : Value} {zs : List Int} (h : OwnI w base v zs) : ∀ g, v.ownBlock = some g → base ≤ g ∧ g < w.heap.size := World.ownsRow.lt h
theorem OwnI.form {w : World} {base : Nat} {v : Value} {zs : List Int} (h : OwnI w base v zs) : (zs = [] ∧ v = .slice none 0 0) ∨ ∃ g c, v = .slice (some ⟨g, 0, none⟩) zs.length c ∧ base ≤ g ∧ g < w.heap.size ∧ zs.length ≤ c ∧ c ≤ maxLen ∧ Holds (Value.int .i64) w g 0 zs.toArray := by
  rcases h.2 with ⟨e, hn⟩ | ⟨g, cap, cur, rfl, hb, hg, hn, hm, hs, ht⟩
  · exact .inl ⟨List.length_eq_zero_iff.1 hn, e⟩
  · refine .inr ⟨g, cap, rfl, hb, (Array.getElem?_eq_some_iff.1 hg).1, hn, hm, fun j hj => ?_⟩
    have hj' : j < zs.length := by simpa using hj
    have h1 := World.ownsRow.cells h (g := g) rfl j (.int .i64 zs[j]) (by rw [List.getElem?_map, List.getElem?_eq_getElem hj']; rfl)
    refine ⟨?_, by simp [World.frozen?, hg]⟩
    rw [Nat.zero_add, getElem!_pos zs.toArray j hj]
    simpa [Addr.add_lit] using h1
theorem app_I {ops : Array Oper} {rest : List Oper} {o : Oper} {a : Act} {w : World} {Q : Exit → Act → World → Prop} (hgd : o.guard = none) (s x : Tmp)
    (ho : o.op = .call { callee := .builtin .append, args := #[.tmp s, .tmp x], argTypes := #[130, 130] }) (base : Nat) (v : Value) (zs : List Int) (hs : a.eval (.tmp s) = v) (hown : OwnI w base v zs)
    (g : Nat) (t : Int) (hx : a.eval (.tmp x) = .slice (some ⟨g, 0, none⟩) 1 1) (hc : w.cell? ⟨g, 0, none⟩ = some (.int .i64 t)) (hl : zs.length < 4294967296) (hbase : base ≤ w.heap.size)
    (h : ∀ v' w', OwnI w' base v' (zs ++ [t]) → w.grownBy w' v.ownBlock → wpList Tryz.prog ops Q rest (a.put o.dst v') w') : wpList Tryz.prog ops Q (o :: rest) a w := by
  obtain ⟨i0, hi, hz0, hz1, hz2⟩ := info_parts infoI0
  refine wpList_append_own w hgd _ _ _ ho base 3 i0 (.int .i64 0) 1 8 Tryz.underlying130 hi hz0 hz1 hz2 rfl (by decide) v zs.length (zs.map (Value.int .i64)) hs hown ⟨g, 0, none⟩ 1 1 [.int .i64 t] hx rfl ?_ ?_ ?_ ?_ hbase ?_
  · intro j u hu
    match j, hu with
    | 0, hu => simp at hu; subst hu; simpa [Addr.add] using hc
    | j + 1, hu => simp at hu
  · intro u hu; simp at hu; subst hu; rfl
  · simp only [maxLen]; omega
  · omega
  · intro v' w' h2 h3 _
    refine h v' w' ?_ h3
    unfold OwnI
    simpa using h2
theorem sortI_any (base : Nat) (v : Value) (zs : List Int) (w : World) (h : OwnI w base v zs) (hl : zs.length < 4294967296) :
    Calls Tryz.prog 86 #[v] w fun e w' => e = .returned (.tuple #[]) ∧ OwnI w' base v (zs.mergeSort fun x y => decide (x ≤ y)) ∧ w.grownBy w' v.ownBlock := by
  rcases h.2 with ⟨rfl, hn⟩ | ⟨g, cap, cur, rfl, hb, hg, hn, hm, hs, ht⟩
  · obtain rfl : zs = [] := List.length_eq_zero_iff.1 hn
    refine (Tryz.slices_Sort_int_none none 0 w).mono ?_
    rintro e w' ⟨rfl, rfl⟩
    exact ⟨rfl, by rw [List.mergeSort_nil]; exact OwnI.nil _ _, grownE (Ext.refl _) _⟩
  · have hH : Holds (Value.int .i64) w g 0 zs.toArray := holds_of_blockI hg (by rw [Nat.mul_one] at ht; exact ht)
    have hlen : (zs.mergeSort fun x y => decide (x ≤ y)).length = zs.length := List.length_mergeSort zs
    refine (Tryz.slices_Sort_int g 0 cap zs w hH (Array.getElem?_eq_some_iff.1 hg).1 (by omega)).mono ?_
    rintro e w' ⟨rfl, n, os, rfl⟩
    refine ⟨rfl, ?_, grownBy_sortedI _⟩
    unfold OwnI
    rw [hlen]
    exact ownsRow_sortedI hlen hb hg hn hm hs
theorem grown_put {w : World} {g n : Nat} (d : Array Int) : w.grownBy (putRow (Value.int .i64) (Sort.ahead w n) g 0 d) (some g) := by
  refine ⟨rfl, rfl, rfl, by simp [putRow, mapBlock, Sort.ahead], fun k hk hne => ?_⟩
  have : g ≠ k := fun e => hne (by rw [e])
  simp [putRow, mapBlock, Sort.ahead, Array.getElem?_modify, this]
theorem compact_ne {zs : List Int} (h : zs ≠ []) : (Lib.compact zs).length ≠ 0 := by
  intro h0
  have h1 : Lib.compact zs = [] := List.length_eq_zero_iff.1 h0
  unfold Lib.compact Lib.compactUpTo at h1
  rw [List.map_eq_nil_iff, List.filter_eq_nil_iff] at h1
  have hl : 0 < zs.length := List.length_pos_iff.2 h
  exact h1 0 (List.mem_range.2 hl) (by simp [Lib.keeps])
set_option maxHeartbeats 1000000 in
theorem incr_any (base : Nat) (v : Value) (zs : List Int) (w : World) (h : OwnI w base v zs) (hl : zs.length < 4294967296) :
    Calls Tryz.prog 193 #[v] w fun e w' => ∃ A n c, e = .returned (.slice A n c) ∧ (n = 0 ↔ zs = []) ∧ w.grownBy w' v.ownBlock := by
  have HS := Lib.hid (sortI_any base v zs w h hl)
  have hlen : (zs.mergeSort fun x y => decide (x ≤ y)).length = zs.length := List.length_mergeSort zs
  have HC : Hid (∀ W, OwnI W base v (zs.mergeSort fun x y => decide (x ≤ y)) → Calls Tryz.prog 242 #[v] W fun e w' => ∃ A n c, e = .returned (.slice A n c) ∧ (n = 0 ↔ zs = []) ∧ W.grownBy w' v.ownBlock) := Lib.hid (fun W hW => by
    rcases hW.form with ⟨e0, rfl⟩ | ⟨g, c, rfl, _, _, hc, hm, hH⟩
    · have hz : zs = [] := List.length_eq_zero_iff.1 (by rw [← hlen, e0]; rfl)
      refine (Tryz.slices_Compact_int_empty none 0 W).mono ?_
      rintro e w' ⟨rfl, rfl⟩
      exact ⟨none, 0, 0, rfl, ⟨fun _ => hz, fun _ => rfl⟩, grownE (Ext.refl _) _⟩
    · refine (Tryz.slices_Compact_int g 0 c _ W hH (by omega) hc).mono ?_
      rintro e w' ⟨rfl, q, rfl⟩
      refine ⟨_, _, _, rfl, ⟨fun h0 => ?_, fun h0 => ?_⟩, grown_put _⟩
      · refine Classical.byContradiction fun hne => compact_ne (zs := zs.mergeSort fun x y => decide (x ≤ y)) (fun e => hne (List.length_eq_zero_iff.1 (by rw [← hlen, e]; rfl))) h0
      · subst h0; rw [List.mergeSort_nil]; rfl)
  clear h hlen
  go_enter Tryz.func193, Tryz.ntmps193
  go_wp2_with fail
  refine HS.out.mono ?_
  rintro e w' ⟨rfl, hO, hg⟩
  go_wp2_with fail
  refine (HC.out _ hO).mono ?_
  rintro e w2 ⟨A, n, c, rfl, hn, hg2⟩
  go_wp2_with fail
  go_ret
  exact ⟨A, n, c, rfl, hn, grownE_trans hg hg2⟩
end Go.Proofs.YtompfgofaplffaaGreatDoor

namespace Go.Proofs.YtompfgofaplffaaGreatDoor
open Go.RowKit Hach

def besE (e : Ed) (a b : Int) : Bool := ((e.left == a) && (e.right == b)) || ((e.left == b) && (e.right == a))
def bors (es : List Ed) (a b : Int) (k : Nat) : List Int := ((List.range k).filter fun j => besE (ed es j) a b).map fun j => (ed es j).id
theorem bors_succ (es : List Ed) (a b : Int) (k : Nat) : bors es a b (k + 1) = bors es a b k ++ (if besE (ed es k) a b = true then [(ed es k).id] else []) := by
  unfold bors
  rw [List.range_succ, List.filter_append, List.map_append]
  congr 1
  by_cases h : besE (ed es k) a b = true
  · rw [if_pos h]; simp [h]
  · rw [if_neg h]; simp [h]
theorem bors_len (es : List Ed) (a b : Int) (k : Nat) : (bors es a b k).length ≤ k := by
  unfold bors
  rw [List.length_map]
  exact Nat.le_trans (List.length_filter_le _ _) (by rw [List.length_range]; exact Nat.le_refl _)
set_option maxRecDepth 100000 in
set_option maxHeartbeats 8000000 in
theorem borders_any (es : List Ed) (A : Option Addr) (c : Nat) (L : Ls) (x y : Int) (w : World) (h : EdsAt w A L es) (hlen : es.length < 1000000000) :
    Calls Tryz.prog 143 #[.slice A es.length c, .int .i64 x, .int .i64 y] w fun e w' => ∃ A' n c', e = .returned (.slice A' n c') ∧ (n = 0 ↔ bors es x y es.length = []) ∧ Ext w w' := by
  have HR := Lib.hid (fun W (hE : Ext w W) => (h.keep hE).1)
  have HI := Lib.hid (fun v W (hO : OwnI W w.heap.size v (bors es x y es.length)) => incr_any w.heap.size v _ W hO (by have := bors_len es x y es.length; omega))
  clear h
  go_enter Tryz.func143, Tryz.ntmps143
  go_wp2_with fail
  go_loopw [7, 12] (fun s7 s12 wr => ∃ k : Nat, k ≤ es.length ∧ s12 = .int .i64 k ∧ OwnI wr w.heap.size s7 (bors es x y k) ∧ Ext w wr) (fun _ s12 _ => es.length - (intOf s12).toNat)
  case atStart => exact ⟨0, Nat.zero_le _, rfl, OwnI.nil _ _, Ext.refl _⟩
  case round =>
    obtain ⟨k, hk, rfl, hO, hE⟩ := hrel
    by_cases hlt : k < es.length
    · have t : decide (k < es.length) = true := by simpa using hlt
      have hr := HR.out wr hE
      obtain ⟨b, o, rfl, _⟩ := hr.some_ (by omega)
      have q0 := hr.cell (j := k) (i := 0) hlt rfl
      have q1 := hr.cell (j := k) (i := 1) hlt rfl
      have q2 := hr.cell (j := k) (i := 2) hlt rfl
      have q3 := hr.cell (j := k) (i := 3) hlt rfl
      rw [Nat.add_zero] at q0
      have hb := bors_succ es x y k
      have hbl : (bors es x y k).length < 4294967296 := by have := bors_len es x y k; omega
      have HBL := Lib.hid hbl
      have hbe : besE (ed es k) x y = ((((ed es k).left == x) && ((ed es k).right == y)) || (((ed es k).left == y) && ((ed es k).right == x))) := rfl
      generalize (ed es k).id = xid at *
      generalize (ed es k).left = lf at *
      generalize (ed es k).right = rt at *
      generalize L.a k = la at *
      generalize (ed es k).line.length = ll at *
      have hE1 := Ext.alloc wr (.cells #[.int .i64 xid, .slice la ll (L.c k), .int .i64 lf, .int .i64 rt] 77)
      have bZ := Go.heap_alloc_new wr (.cells #[.int .i64 xid, .slice la ll (L.c k), .int .i64 lf, .int .i64 rt] 77)
      have y0 := cells_of bZ 0 _ rfl
      have y2 := cells_of bZ 2 _ rfl
      have y3 := cells_of bZ 3 _ rfl
      have HO := Lib.hid hO
      have HB := Lib.hid hb
      have HBE := Lib.hid hbe
      clear hr hO hb hbe bZ HR HI hbl
      cases h1 : (lf == x) <;> cases h2 : (rt == y) <;> cases h3 : (lf == y) <;> cases h4 : (rt == x)
      · have hN := HB.out
        rw [HBE.out, h1, h2, h3, h4, if_neg (by decide), List.append_nil] at hN
        go_wp2_with fail
        go_roundw
        case rel => exact ⟨k + 1, by omega, by go_num, by rw [hN]; exact HO.out.ext hE1, Ext.trans hE hE1⟩
        case measure => simp [intOf]; omega
      · have hN := HB.out
        rw [HBE.out, h1, h2, h3, h4, if_neg (by decide), List.append_nil] at hN
        go_wp2_with fail
        go_roundw
        case rel => exact ⟨k + 1, by omega, by go_num, by rw [hN]; exact HO.out.ext hE1, Ext.trans hE hE1⟩
        case measure => simp [intOf]; omega
      · have hN := HB.out
        rw [HBE.out, h1, h2, h3, h4, if_neg (by decide), List.append_nil] at hN
        go_wp2_with fail
        go_roundw
        case rel => exact ⟨k + 1, by omega, by go_num, by rw [hN]; exact HO.out.ext hE1, Ext.trans hE hE1⟩
        case measure => simp [intOf]; omega
      · have hN := HB.out
        rw [HBE.out, h1, h2, h3, h4, if_pos (by decide)] at hN
        have HN := Lib.hid hN
        have hE2 := Ext.trans hE1 (Ext.alloc (wr.alloc (.cells #[.int .i64 xid, .slice la ll (L.c k), .int .i64 lf, .int .i64 rt] 77)) (.cells #[.int .i64 xid] 3))
        have hOa := HO.out.ext hE2
        have hcg := Go.heap_alloc_new (wr.alloc (.cells #[.int .i64 xid, .slice la ll (L.c k), .int .i64 lf, .int .i64 rt] 77)) (.cells #[.int .i64 xid] 3)
        rw [World.size_alloc] at hcg
        have HCG : Hid (((wr.alloc (.cells #[.int .i64 xid, .slice la ll (L.c k), .int .i64 lf, .int .i64 rt] 77)).alloc (.cells #[.int .i64 xid] 3)).cell? ⟨wr.heap.size + 1, 0, none⟩ = some (.int .i64 xid)) := Lib.hid (cells_of hcg 0 _ rfl)
        clear hcg
        have hba : w.heap.size ≤ ((wr.alloc (.cells #[.int .i64 xid, .slice la ll (L.c k), .int .i64 lf, .int .i64 rt] 77)).alloc (.cells #[.int .i64 xid] 3)).heap.size := (Ext.trans hE hE2).sz
        clear hN
        go_wp2_with (at_builtin; refine app_I rfl 38 41 rfl w.heap.size u7 _ rfl hOa _ xid rfl HCG.out HBL.out hba ?_; intro v1 wb hO2 hg2)
        go_roundw
        case rel => exact ⟨k + 1, by omega, by go_num, by rw [HN.out]; exact hO2, Below.trans (Ext.trans hE hE2) (below_rowE hg2 hba fun g e => (hOa.lt g e).1)⟩
        case measure => simp [intOf]; omega
      · have hN := HB.out
        rw [HBE.out, h1, h2, h3, h4, if_neg (by decide), List.append_nil] at hN
        go_wp2_with fail
        go_roundw
        case rel => exact ⟨k + 1, by omega, by go_num, by rw [hN]; exact HO.out.ext hE1, Ext.trans hE hE1⟩
        case measure => simp [intOf]; omega
      · have hN := HB.out
        rw [HBE.out, h1, h2, h3, h4, if_neg (by decide), List.append_nil] at hN
        go_wp2_with fail
        go_roundw
        case rel => exact ⟨k + 1, by omega, by go_num, by rw [hN]; exact HO.out.ext hE1, Ext.trans hE hE1⟩
        case measure => simp [intOf]; omega
      · have hN := HB.out
        rw [HBE.out, h1, h2, h3, h4, if_neg (by decide), List.append_nil] at hN
        go_wp2_with fail
        go_roundw
        case rel => exact ⟨k + 1, by omega, by go_num, by rw [hN]; exact HO.out.ext hE1, Ext.trans hE hE1⟩
        case measure => simp [intOf]; omega
      · have hN := HB.out
        rw [HBE.out, h1, h2, h3, h4, if_pos (by decide)] at hN
        have HN := Lib.hid hN
        have hE2 := Ext.trans hE1 (Ext.alloc (wr.alloc (.cells #[.int .i64 xid, .slice la ll (L.c k), .int .i64 lf, .int .i64 rt] 77)) (.cells #[.int .i64 xid] 3))
        have hOa := HO.out.ext hE2
        have hcg := Go.heap_alloc_new (wr.alloc (.cells #[.int .i64 xid, .slice la ll (L.c k), .int .i64 lf, .int .i64 rt] 77)) (.cells #[.int .i64 xid] 3)
        rw [World.size_alloc] at hcg
        have HCG : Hid (((wr.alloc (.cells #[.int .i64 xid, .slice la ll (L.c k), .int .i64 lf, .int .i64 rt] 77)).alloc (.cells #[.int .i64 xid] 3)).cell? ⟨wr.heap.size + 1, 0, none⟩ = some (.int .i64 xid)) := Lib.hid (cells_of hcg 0 _ rfl)
        clear hcg
        have hba : w.heap.size ≤ ((wr.alloc (.cells #[.int .i64 xid, .slice la ll (L.c k), .int .i64 lf, .int .i64 rt] 77)).alloc (.cells #[.int .i64 xid] 3)).heap.size := (Ext.trans hE hE2).sz
        clear hN
        go_wp2_with (at_builtin; refine app_I rfl 38 41 rfl w.heap.size u7 _ rfl hOa _ xid rfl HCG.out HBL.out hba ?_; intro v1 wb hO2 hg2)
        go_roundw
        case rel => exact ⟨k + 1, by omega, by go_num, by rw [HN.out]; exact hO2, Below.trans (Ext.trans hE hE2) (below_rowE hg2 hba fun g e => (hOa.lt g e).1)⟩
        case measure => simp [intOf]; omega
      · have hN := HB.out
        rw [HBE.out, h1, h2, h3, h4, if_neg (by decide), List.append_nil] at hN
        go_wp2_with fail
        go_roundw
        case rel => exact ⟨k + 1, by omega, by go_num, by rw [hN]; exact HO.out.ext hE1, Ext.trans hE hE1⟩
        case measure => simp [intOf]; omega
      · have hN := HB.out
        rw [HBE.out, h1, h2, h3, h4, if_neg (by decide), List.append_nil] at hN
        go_wp2_with fail
        go_roundw
        case rel => exact ⟨k + 1, by omega, by go_num, by rw [hN]; exact HO.out.ext hE1, Ext.trans hE hE1⟩
        case measure => simp [intOf]; omega
      · have hN := HB.out
        rw [HBE.out, h1, h2, h3, h4, if_neg (by decide), List.append_nil] at hN
        go_wp2_with fail
        go_roundw
        case rel => exact ⟨k + 1, by omega, by go_num, by rw [hN]; exact HO.out.ext hE1, Ext.trans hE hE1⟩
        case measure => simp [intOf]; omega
      · have hN := HB.out
        rw [HBE.out, h1, h2, h3, h4, if_pos (by decide)] at hN
        have HN := Lib.hid hN
        have hE2 := Ext.trans hE1 (Ext.alloc (wr.alloc (.cells #[.int .i64 xid, .slice la ll (L.c k), .int .i64 lf, .int .i64 rt] 77)) (.cells #[.int .i64 xid] 3))
        have hOa := HO.out.ext hE2
        have hcg := Go.heap_alloc_new (wr.alloc (.cells #[.int .i64 xid, .slice la ll (L.c k), .int .i64 lf, .int .i64 rt] 77)) (.cells #[.int .i64 xid] 3)
        rw [World.size_alloc] at hcg
        have HCG : Hid (((wr.alloc (.cells #[.int .i64 xid, .slice la ll (L.c k), .int .i64 lf, .int .i64 rt] 77)).alloc (.cells #[.int .i64 xid] 3)).cell? ⟨wr.heap.size + 1, 0, none⟩ = some (.int .i64 xid)) := Lib.hid (cells_of hcg 0 _ rfl)
        clear hcg
        have hba : w.heap.size ≤ ((wr.alloc (.cells #[.int .i64 xid, .slice la ll (L.c k), .int .i64 lf, .int .i64 rt] 77)).alloc (.cells #[.int .i64 xid] 3)).heap.size := (Ext.trans hE hE2).sz
        clear hN
        go_wp2_with (at_builtin; refine app_I rfl 38 41 rfl w.heap.size u7 _ rfl hOa _ xid rfl HCG.out HBL.out hba ?_; intro v1 wb hO2 hg2)
        go_roundw
        case rel => exact ⟨k + 1, by omega, by go_num, by rw [HN.out]; exact hO2, Below.trans (Ext.trans hE hE2) (below_rowE hg2 hba fun g e => (hOa.lt g e).1)⟩
        case measure => simp [intOf]; omega
      · have hN := HB.out
        rw [HBE.out, h1, h2, h3, h4, if_pos (by decide)] at hN
        have HN := Lib.hid hN
        have hE2 := Ext.trans hE1 (Ext.alloc (wr.alloc (.cells #[.int .i64 xid, .slice la ll (L.c k), .int .i64 lf, .int .i64 rt] 77)) (.cells #[.int .i64 xid] 3))
        have hOa := HO.out.ext hE2
        have hcg := Go.heap_alloc_new (wr.alloc (.cells #[.int .i64 xid, .slice la ll (L.c k), .int .i64 lf, .int .i64 rt] 77)) (.cells #[.int .i64 xid] 3)
        rw [World.size_alloc] at hcg
        have HCG : Hid (((wr.alloc (.cells #[.int .i64 xid, .slice la ll (L.c k), .int .i64 lf, .int .i64 rt] 77)).alloc (.cells #[.int .i64 xid] 3)).cell? ⟨wr.heap.size + 1, 0, none⟩ = some (.int .i64 xid)) := Lib.hid (cells_of hcg 0 _ rfl)
        clear hcg
        have hba : w.heap.size ≤ ((wr.alloc (.cells #[.int .i64 xid, .slice la ll (L.c k), .int .i64 lf, .int .i64 rt] 77)).alloc (.cells #[.int .i64 xid] 3)).heap.size := (Ext.trans hE hE2).sz
        clear hN
        go_wp2_with (at_builtin; refine app_I rfl 38 41 rfl w.heap.size u7 _ rfl hOa _ xid rfl HCG.out HBL.out hba ?_; intro v1 wb hO2 hg2)
        go_roundw
        case rel => exact ⟨k + 1, by omega, by go_num, by rw [HN.out]; exact hO2, Below.trans (Ext.trans hE hE2) (below_rowE hg2 hba fun g e => (hOa.lt g e).1)⟩
        case measure => simp [intOf]; omega
      · have hN := HB.out
        rw [HBE.out, h1, h2, h3, h4, if_pos (by decide)] at hN
        have HN := Lib.hid hN
        have hE2 := Ext.trans hE1 (Ext.alloc (wr.alloc (.cells #[.int .i64 xid, .slice la ll (L.c k), .int .i64 lf, .int .i64 rt] 77)) (.cells #[.int .i64 xid] 3))
        have hOa := HO.out.ext hE2
        have hcg := Go.heap_alloc_new (wr.alloc (.cells #[.int .i64 xid, .slice la ll (L.c k), .int .i64 lf, .int .i64 rt] 77)) (.cells #[.int .i64 xid] 3)
        rw [World.size_alloc] at hcg
        have HCG : Hid (((wr.alloc (.cells #[.int .i64 xid, .slice la ll (L.c k), .int .i64 lf, .int .i64 rt] 77)).alloc (.cells #[.int .i64 xid] 3)).cell? ⟨wr.heap.size + 1, 0, none⟩ = some (.int .i64 xid)) := Lib.hid (cells_of hcg 0 _ rfl)
        clear hcg
        have hba : w.heap.size ≤ ((wr.alloc (.cells #[.int .i64 xid, .slice la ll (L.c k), .int .i64 lf, .int .i64 rt] 77)).alloc (.cells #[.int .i64 xid] 3)).heap.size := (Ext.trans hE hE2).sz
        clear hN
        go_wp2_with (at_builtin; refine app_I rfl 38 41 rfl w.heap.size u7 _ rfl hOa _ xid rfl HCG.out HBL.out hba ?_; intro v1 wb hO2 hg2)
        go_roundw
        case rel => exact ⟨k + 1, by omega, by go_num, by rw [HN.out]; exact hO2, Below.trans (Ext.trans hE hE2) (below_rowE hg2 hba fun g e => (hOa.lt g e).1)⟩
        case measure => simp [intOf]; omega
      · have hN := HB.out
        rw [HBE.out, h1, h2, h3, h4, if_pos (by decide)] at hN
        have HN := Lib.hid hN
        have hE2 := Ext.trans hE1 (Ext.alloc (wr.alloc (.cells #[.int .i64 xid, .slice la ll (L.c k), .int .i64 lf, .int .i64 rt] 77)) (.cells #[.int .i64 xid] 3))
        have hOa := HO.out.ext hE2
        have hcg := Go.heap_alloc_new (wr.alloc (.cells #[.int .i64 xid, .slice la ll (L.c k), .int .i64 lf, .int .i64 rt] 77)) (.cells #[.int .i64 xid] 3)
        rw [World.size_alloc] at hcg
        have HCG : Hid (((wr.alloc (.cells #[.int .i64 xid, .slice la ll (L.c k), .int .i64 lf, .int .i64 rt] 77)).alloc (.cells #[.int .i64 xid] 3)).cell? ⟨wr.heap.size + 1, 0, none⟩ = some (.int .i64 xid)) := Lib.hid (cells_of hcg 0 _ rfl)
        clear hcg
        have hba : w.heap.size ≤ ((wr.alloc (.cells #[.int .i64 xid, .slice la ll (L.c k), .int .i64 lf, .int .i64 rt] 77)).alloc (.cells #[.int .i64 xid] 3)).heap.size := (Ext.trans hE hE2).sz
        clear hN
        go_wp2_with (at_builtin; refine app_I rfl 38 41 rfl w.heap.size u7 _ rfl hOa _ xid rfl HCG.out HBL.out hba ?_; intro v1 wb hO2 hg2)
        go_roundw
        case rel => exact ⟨k + 1, by omega, by go_num, by rw [HN.out]; exact hO2, Below.trans (Ext.trans hE hE2) (below_rowE hg2 hba fun g e => (hOa.lt g e).1)⟩
        case measure => simp [intOf]; omega
      · have hN := HB.out
        rw [HBE.out, h1, h2, h3, h4, if_pos (by decide)] at hN
        have HN := Lib.hid hN
        have hE2 := Ext.trans hE1 (Ext.alloc (wr.alloc (.cells #[.int .i64 xid, .slice la ll (L.c k), .int .i64 lf, .int .i64 rt] 77)) (.cells #[.int .i64 xid] 3))
        have hOa := HO.out.ext hE2
        have hcg := Go.heap_alloc_new (wr.alloc (.cells #[.int .i64 xid, .slice la ll (L.c k), .int .i64 lf, .int .i64 rt] 77)) (.cells #[.int .i64 xid] 3)
        rw [World.size_alloc] at hcg
        have HCG : Hid (((wr.alloc (.cells #[.int .i64 xid, .slice la ll (L.c k), .int .i64 lf, .int .i64 rt] 77)).alloc (.cells #[.int .i64 xid] 3)).cell? ⟨wr.heap.size + 1, 0, none⟩ = some (.int .i64 xid)) := Lib.hid (cells_of hcg 0 _ rfl)
        clear hcg
        have hba : w.heap.size ≤ ((wr.alloc (.cells #[.int .i64 xid, .slice la ll (L.c k), .int .i64 lf, .int .i64 rt] 77)).alloc (.cells #[.int .i64 xid] 3)).heap.size := (Ext.trans hE hE2).sz
        clear hN
        go_wp2_with (at_builtin; refine app_I rfl 38 41 rfl w.heap.size u7 _ rfl hOa _ xid rfl HCG.out HBL.out hba ?_; intro v1 wb hO2 hg2)
        go_roundw
        case rel => exact ⟨k + 1, by omega, by go_num, by rw [HN.out]; exact hO2, Below.trans (Ext.trans hE hE2) (below_rowE hg2 hba fun g e => (hOa.lt g e).1)⟩
        case measure => simp [intOf]; omega
    · obtain rfl : k = es.length := by omega
      have t : decide (es.length < es.length) = false := by simp
      have hr := HI.out _ wr hO
      have hbase := hE.sz
      have hlt' := hO.lt
      go_wp2_with fail
      refine hr.mono ?_
      rintro e w' ⟨A', n, c', rfl, hn, hg⟩
      go_wp2_with fail
      go_ret
      exact ⟨A', n, c', rfl, hn, Below.trans hE (below_rowE hg hbase fun g e => (hlt' g e).1)⟩
end Go.Proofs.YtompfgofaplffaaGreatDoor

namespace Go.Proofs.YtompfgofaplffaaGreatDoor
open Go.RowKit Hach
open Go.ChangeMaps (setBlock)
open Go.MapKept (run_findKey)

/-- The entries of a map of which nothing was deleted. -/
def entF (i : Nat) : List (Int × Value) → List MapEntry
  | [] => []
  | p :: l => { key := .int .i64 p.1, val := p.2, born := i } :: entF (i + 1) l
def MapI (W : World) (r : Nat) (l : List (Int × Value)) : Prop := W.heap[r]? = some (.map (entF 0 l).toArray l.length)
def fndF (k : Int) (i : Nat) : List (Int × Value) → Option (Nat × Value)
  | [] => none
  | p :: l => if k = p.1 then some (i, p.2) else fndF k (i + 1) l
/-- What a map holds; nil, if it does not. -/
def getF (k : Int) : List (Int × Value) → Value
  | [] => .pointer none
  | p :: l => if k = p.1 then p.2 else getF k l
theorem findNow_ent (k : Int) (l : List (Int × Value)) (i : Nat) : Instr.findNow (.int .i64) (.int .i64 k) (entF i l) i = some (fndF k i l) := by
  induction l generalizing i with
  | nil => rfl
  | cons p l ih =>
    unfold entF fndF Instr.findNow
    by_cases h : k = p.1
    · rw [if_pos h]; simp [Instr.sameNow, h]
    · rw [if_neg h]
      have : (k == p.1) = false := by simpa using h
      simp [Instr.sameNow, this, ih]
theorem fnd_get (k : Int) (l : List (Int × Value)) (i : Nat) : (match fndF k i l with | some (_, v) => v | none => Value.pointer none) = getF k l := by
  induction l generalizing i with
  | nil => rfl
  | cons p l ih =>
    unfold fndF getF
    by_cases h : k = p.1
    · rw [if_pos h, if_pos h]
    · rw [if_neg h, if_neg h]; exact ih _
theorem MapI.keep {W W' : World} {r : Nat} {l : List (Int × Value)} (h : MapI W r l) (hE : Ext W W') : MapI W' r l := (hE.below.block r (Array.getElem?_eq_some_iff.1 h).1).trans h
theorem zero_fp (w : World) : (zeroValue 128).run Tryz.prog w = .ok (.pointer none) w := by go_simp
theorem ent_empty (l : List (Int × Value)) : (entF 0 l).toArray.isEmpty = l.isEmpty := by cases l <;> rfl
theorem run_lookup_I (W : World) (r : Nat) (l : List (Int × Value)) (k : Int) (h : MapI W r l) : (Instr.lookup 126 (.map (some r)) (.int .i64 k) false).run Tryz.prog W = .ok (getF k l) W := by
  have hf := run_findKey (P := Tryz.prog) (w := W) (kt := 3) Tryz.underlying3 (findNow_ent k l 0)
  rw [← fnd_get k l 0]
  have h' : W.heap[r]? = some (.map (entF 0 l).toArray l.length) := h
  have hg : (getObj r).run Tryz.prog W = .ok (.map (entF 0 l).toArray l.length) W := by simp [getObj, Sem.run, h']
  have hc : ∀ b, (Instr.checkKey b 10000 3 (.int .i64 k)).run Tryz.prog W = .ok () W := fun b => by
    unfold Instr.checkKey
    simp [Sem.run_bind, run_underlying Tryz.underlying3, Result.andThen]
  simp only [Instr.lookup, Sem.run_bind, run_underlying Tryz.underlying126, Result.andThen, hg, Sem.run_pure, hc, List.toList_toArray, hf]
  cases fndF k 0 l with
  | none => simp [Sem.run_bind, zero_fp, Result.andThen]
  | some p => simp [Result.andThen]
theorem fnd_none {k : Int} {l : List (Int × Value)} (h : ∀ p ∈ l, k ≠ p.1) (i : Nat) : fndF k i l = none := by
  induction l generalizing i with
  | nil => rfl
  | cons p l ih => unfold fndF; rw [if_neg (h p (by simp))]; exact ih (fun q hq => h q (by simp [hq])) _
theorem ent_append (l : List (Int × Value)) (p : Int × Value) (i : Nat) : entF i (l ++ [p]) = entF i l ++ [{ key := .int .i64 p.1, val := p.2, born := i + l.length }] := by
  induction l generalizing i with
  | nil => rfl
  | cons q l ih => rw [List.cons_append, entF, entF, ih (i + 1), List.cons_append, List.length_cons]; simp only [Nat.add_assoc, Nat.add_comm 1]
theorem run_update_I (W : World) (r : Nat) (l : List (Int × Value)) (k : Int) (v : Value) (h : MapI W r l) (hn : ∀ p ∈ l, k ≠ p.1) :
    (Instr.mapUpdate 126 (.map (some r)) (.int .i64 k) v).run Tryz.prog W = .ok () (setBlock W r (.map (entF 0 (l ++ [(k, v)])).toArray (l ++ [(k, v)]).length)) := by
  have h' : W.heap[r]? = some (.map (entF 0 l).toArray l.length) := h
  have hf := run_findKey (P := Tryz.prog) (w := W) (kt := 3) Tryz.underlying3 (findNow_ent k l 0)
  rw [fnd_none hn] at hf
  have hg : (getObj r).run Tryz.prog W = .ok (.map (entF 0 l).toArray l.length) W := by simp [getObj, Sem.run, h']
  have hc : ∀ b, (Instr.checkKey b 10000 3 (.int .i64 k)).run Tryz.prog W = .ok () W := fun b => by
    unfold Instr.checkKey
    simp [Sem.run_bind, run_underlying Tryz.underlying3, Result.andThen]
  have hs : ∀ o', (setObj r o').run Tryz.prog W = .ok () (setBlock W r o') := fun o' => by simp [setObj, Sem.run, h', setBlock]
  have he : (entF 0 l).toArray.push { key := .int .i64 k, val := v, born := l.length } = (entF 0 (l ++ [(k, v)])).toArray := by rw [ent_append]; simp
  simp only [Instr.mapUpdate, Sem.run_bind, run_underlying Tryz.underlying126, Result.andThen, hg, hc, List.toList_toArray, hf, hs, he, List.length_append, List.length_singleton]
theorem mapI_set {W : World} {r : Nat} {l : List (Int × Value)} (h : MapI W r l) (l' : List (Int × Value)) : MapI (setBlock W r (.map (entF 0 l').toArray l'.length)) r l' ∧ W.grownBy (setBlock W r (.map (entF 0 l').toArray l'.length)) (some r) := by
  have hlt := (Array.getElem?_eq_some_iff.1 h).1
  refine ⟨by simp [MapI, setBlock, hlt], rfl, rfl, rfl, by simp [setBlock], fun k hk hne => ?_⟩
  have : r ≠ k := fun e => hne (by rw [e])
  simp [setBlock, this]
theorem lk_I {ops : Array Oper} {rest : List Oper} {o : Oper} {a : Act} {w : World} {Q : Exit → Act → World → Prop} (hgd : o.guard = none) (m x : Operand) (hop : o.op = .lookup 126 m x false) (r : Nat) (l : List (Int × Value)) (k : Int)
    (hm : a.eval m = .map (some r)) (hx : a.eval x = .int .i64 k) (hM : MapI w r l) (h : wpList Tryz.prog ops Q rest (a.put o.dst (getF k l)) w) : wpList Tryz.prog ops Q (o :: rest) a w := by
  refine wpList_plain hgd fun K' hK' => ?_
  unfold Oper.wp
  simp [execOp, hop, hm, hx, run_lookup_I w r l k hM, Result.andThen]
  exact hK' _ _ h
theorem up_I {ops : Array Oper} {rest : List Oper} {o : Oper} {a : Act} {w : World} {Q : Exit → Act → World → Prop} (hgd : o.guard = none) (m x y : Operand) (hop : o.op = .mapUpdate 126 m x y) (r : Nat) (l : List (Int × Value)) (k : Int) (v : Value)
    (hm : a.eval m = .map (some r)) (hx : a.eval x = .int .i64 k) (hy : a.eval y = v) (hM : MapI w r l) (hn : ∀ p ∈ l, k ≠ p.1) (h : ∀ w', MapI w' r (l ++ [(k, v)]) → w.grownBy w' (some r) → wpList Tryz.prog ops Q rest (a.put o.dst undef) w') : wpList Tryz.prog ops Q (o :: rest) a w := by
  refine wpList_plain hgd fun K' hK' => ?_
  unfold Oper.wp
  simp [execOp, hop, hm, hx, hy, run_update_I w r l k v hM hn, Result.andThen]
  have hs := mapI_set hM (l ++ [(k, v)])
  rw [show (l ++ [(k, v)]).length = l.length + 1 by simp] at hs
  exact hK' _ _ (h _ hs.1 hs.2)
end Go.Proofs.YtompfgofaplffaaGreatDoor

namespace Go.Proofs.YtompfgofaplffaaGreatDoor
open Go.RowKit Hach
open Go.ChangeMaps (setBlock)

/-- The faces by their numbers. -/
def knF (b o : Nat) (fs : List Fa) (k : Nat) : List (Int × Value) := (List.range k).map fun j => ((fa fs j).id, .pointer (some ⟨b, o + j * 5, none⟩))
theorem knF_succ (b o : Nat) (fs : List Fa) (k : Nat) : knF b o fs (k + 1) = knF b o fs k ++ [((fa fs k).id, .pointer (some ⟨b, o + k * 5, none⟩))] := by
  unfold knF; rw [List.range_succ, List.map_append]; rfl
theorem getF_none {k : Int} {l : List (Int × Value)} (h : ∀ p ∈ l, k ≠ p.1) : getF k l = .pointer none := by
  induction l with
  | nil => rfl
  | cons p l ih => unfold getF; rw [if_neg (h p (by simp))]; exact ih (fun q hq => h q (by simp [hq]))
/-- No number twice. -/
def Apart (fs : List Fa) : Prop := ∀ i j, i < j → j < fs.length → (fa fs j).id ≠ (fa fs i).id
theorem Apart.kn {fs : List Fa} (h : Apart fs) {b o k : Nat} (hk : k < fs.length) : ∀ p ∈ knF b o fs k, (fa fs k).id ≠ p.1 := fun p hp => by
  obtain ⟨j, hj, rfl⟩ := List.mem_map.1 hp
  exact h j k (List.mem_range.1 hj) hk
theorem getF_kn {fs : List Fa} (h : Apart fs) {b o j : Nat} : ∀ {k : Nat}, j < k → k ≤ fs.length → getF (fa fs j).id (knF b o fs k) = .pointer (some ⟨b, o + j * 5, none⟩) := by
  have app : ∀ (x : Int) (l l' : List (Int × Value)), (∀ p ∈ l, x ≠ p.1) → getF x (l ++ l') = getF x l' := fun x l l' hl => by
    induction l with
    | nil => rfl
    | cons p l ih => rw [List.cons_append, getF, if_neg (hl p (by simp))]; exact ih (fun q hq => hl q (by simp [hq]))
  have app2 : ∀ (x : Int) (l l' : List (Int × Value)) (v : Value), getF x l = v → (∃ p ∈ l, x = p.1) → getF x (l ++ l') = v := fun x l l' v hv hx => by
    induction l with
    | nil => obtain ⟨p, hp, _⟩ := hx; cases hp
    | cons p l ih =>
      rw [List.cons_append, getF]
      rw [getF] at hv
      by_cases hc : x = p.1
      · rw [if_pos hc] at hv ⊢; exact hv
      · rw [if_neg hc] at hv ⊢
        obtain ⟨q, hq, hxq⟩ := hx
        rcases List.mem_cons.1 hq with rfl | hq
        · exact absurd hxq hc
        · exact ih hv ⟨q, hq, hxq⟩
  intro k hjk hk
  induction k with
  | zero => omega
  | succ k ih =>
    rw [knF_succ]
    by_cases e : j = k
    · subst e
      rw [app _ _ _ (h.kn (by omega)), getF, if_pos rfl]
    · exact app2 _ _ _ _ (ih (by omega) (by omega)) ⟨_, List.mem_map.2 ⟨j, List.mem_range.2 (by omega), rfl⟩, rfl⟩
set_option maxHeartbeats 2000000 in
theorem known_any (m : Mp) (a : Ma) (b o : Nat) (w : World) (hm : MpAt w a m) (hA : a.fa = some ⟨b, o, none⟩) (hap : Apart m.faces) :
    Calls Tryz.prog 83 #[.agg (a.cells m).toArray] w fun e w' => ∃ r, e = .returned (.map (some r)) ∧ w.heap.size ≤ r ∧ MapI w' r (knF b o m.faces m.faces.length) ∧ Ext w w' := by
  have hE1 := Ext.alloc w (.cells (a.cells m).toArray 41)
  have hE2 := Ext.trans hE1 (Ext.alloc (w.alloc (.cells (a.cells m).toArray 41)) (.map #[] 0))
  have hM0 : MapI ((w.alloc (.cells (a.cells m).toArray 41)).alloc (.map #[] 0)) (w.heap.size + 1) (knF b o m.faces 0) := by
    have := Go.heap_alloc_new (w.alloc (.cells (a.cells m).toArray 41)) (.map #[] 0)
    rw [World.size_alloc] at this
    exact this
  have HB := Lib.hid (fun W (h : Ext (w.alloc (.cells (a.cells m).toArray 41)) W) => (Ma.box (blk_ext (Go.heap_alloc_new w (.cells (a.cells m).toArray 41)) h)).2.1)
  have HR := Lib.hid (fun W (h : Ext w W) => RowAt.keep hm.faces h)
  rw [hA] at HB HR
  have hsm := hm.small.2.1
  have HAP := Lib.hid (fun k (hk : k < m.faces.length) => hap.kn (b := b) (o := o) hk)
  have HN := Lib.hid (fun k (hk : k < m.faces.length) => getF_none (hap.kn (b := b) (o := o) hk))
  have z1 := HB.out _ (Ext.alloc (w.alloc (.cells (a.cells m).toArray 41)) (.map #[] 0))
  have HE1 := Lib.hid hE1
  have HSW : Hid ((w.alloc (.cells (a.cells m).toArray 41)).heap.size = w.heap.size + 1) := Lib.hid (World.size_alloc _ _)
  have HEA := Lib.hid (Ext.alloc (w.alloc (.cells (a.cells m).toArray 41)) (.map #[] 0))
  have HM0 := Lib.hid hM0
  clear hm hA hap hE1 hM0
  go_enter Tryz.func83, Tryz.ntmps83
  go_wp2_with fail
  rw [run_makeMap]
  go_wp2_with fail
  generalize (w.alloc (.cells (a.cells m).toArray 41)).alloc (.map #[] 0) = W0 at *
  generalize w.alloc (.cells (a.cells m).toArray 41) = Wb at *
  have HSZ := Lib.hid (HE1.out.sz)
  go_loopw [10] (fun s10 wr => ∃ k : Nat, k ≤ m.faces.length ∧ s10 = .int .i64 k ∧ MapI wr (w.heap.size + 1) (knF b o m.faces k) ∧ Ext w wr ∧ Ext Wb wr) (fun s10 _ => m.faces.length - (intOf s10).toNat)
  case atStart => exact ⟨0, Nat.zero_le _, rfl, HM0.out, hE2, HEA.out⟩
  case round =>
    obtain ⟨k, hk, rfl, hM, hE, hEb⟩ := hrel
    by_cases hlt : k < m.faces.length
    · have t : decide (k < m.faces.length) = true := by simpa using hlt
      have c1 := HB.out wr hEb
      have q0 := RowAt.cell (HR.out wr hE) (j := k) (i := 0) hlt rfl
      rw [Nat.add_zero] at q0
      have hn := HN.out k hlt
      have HP := Lib.hid (HAP.out k hlt)
      have HS := Lib.hid (knF_succ b o m.faces k)
      have HMk := Lib.hid hM
      clear HN HAP HB HR hM z1
      generalize (fa m.faces k).id = fid at *
      go_wp2_with (first | (refine lk_I rfl (.tmp 17) (.tmp 21) rfl (w.heap.size + 1) _ fid rfl rfl HMk.out ?_; rw [hn]) | (refine up_I rfl (.tmp 24) (.tmp 28) (.tmp 29) rfl (w.heap.size + 1) _ fid _ rfl rfl rfl HMk.out HP.out ?_; intro w2 hM2 hg2))
      go_roundw
      case rel => exact ⟨k + 1, by omega, by go_num, by rw [HS.out]; exact hM2, Below.trans hE (below_rowE hg2 hE.sz fun g e => by simp only [Option.some.injEq] at e; omega), Below.trans hEb (below_rowE hg2 hEb.sz fun g e => by simp only [Option.some.injEq] at e; have := HSW.out; omega)⟩
      case measure => simp [intOf]; omega
    · obtain rfl : k = m.faces.length := by omega
      have t : decide (m.faces.length < m.faces.length) = false := by simp
      go_wp2_with fail
      go_ret
      exact ⟨_, rfl, by omega, hM, hE⟩
end Go.Proofs.YtompfgofaplffaaGreatDoor
