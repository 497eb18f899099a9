/- The contract of the iterator behind digest.levels: each level of the tree is handed over, in order. -/
import Derived.Test.YtncdnopnjdbleaaDv
import Derived.Test.YtncdnopnjdbleaaDp
import Derived.Test.YtncdnopnjdbleaaOwn
import Derived.Test.YtncdnopnjdbleaaRange
import Derived.RangeFuncNested
import Derived.RangeFuncBound
import Derived.RangeFuncCalls
import Derived.RangeFuncLeaves
import Derived.Shelf.Abstract
import Derived.Shelf.RegionOpen
import Derived.WalkKit
import Derived.OwnWalkIn
import Derived.TacticsInMore
import Derived.LoopNIn
import Derived.LoopIn
namespace Go.Proofs.Ytncdnopnjdbleaa
open Go.RowKit Hach Go.Shelf
attribute [local go_sem] Oper.semAt_some

theorem bits_and_i64 (a b : Nat) (ha : a < 9223372036854775808) (hb : b < 9223372036854775808) : bits .and .i64 (a : Int) (b : Int) = ((a &&& b : Nat) : Int) := by
  have hx : a &&& b < 2 ^ 63 := Nat.and_lt_two_pow _ (by omega)
  have h1 : (BitVec.ofInt 64 (a : Int)).toNat = a := by
    rw [BitVec.ofInt_natCast, BitVec.toNat_ofNat]; exact Nat.mod_eq_of_lt (by omega)
  have h2 : (BitVec.ofInt 64 (b : Int)).toNat = b := by
    rw [BitVec.ofInt_natCast, BitVec.toNat_ofNat]; exact Nat.mod_eq_of_lt (by omega)
  show IntKind.i64.wrap ((BitVec.ofInt 64 (a : Int) &&& BitVec.ofInt 64 (b : Int)).toNat : Int) = _
  rw [BitVec.toNat_and, h1, h2]
  have := IntKind.wrap_i64 ((a &&& b : Nat) : Int)
  omega
theorem bits_xor_i64 (a b : Nat) (ha : a < 9223372036854775808) (hb : b < 9223372036854775808) : bits .xor .i64 (a : Int) (b : Int) = ((a ^^^ b : Nat) : Int) := by
  have hx : a ^^^ b < 2 ^ 63 := Nat.xor_lt_two_pow (by omega) (by omega)
  have h1 : (BitVec.ofInt 64 (a : Int)).toNat = a := by
    rw [BitVec.ofInt_natCast, BitVec.toNat_ofNat]; exact Nat.mod_eq_of_lt (by omega)
  have h2 : (BitVec.ofInt 64 (b : Int)).toNat = b := by
    rw [BitVec.ofInt_natCast, BitVec.toNat_ofNat]; exact Nat.mod_eq_of_lt (by omega)
  show IntKind.i64.wrap ((BitVec.ofInt 64 (a : Int) ^^^ BitVec.ofInt 64 (b : Int)).toNat : Int) = _
  rw [BitVec.toNat_xor, h1, h2]
  have := IntKind.wrap_i64 ((a ^^^ b : Nat) : Int)
  omega

/- the cells of a digest -/
def dgc (L : List UInt8) : List Value := [.int .u8 (dgb L 0), .int .u8 (dgb L 1), .int .u8 (dgb L 2), .int .u8 (dgb L 3), .int .u8 (dgb L 4), .int .u8 (dgb L 5), .int .u8 (dgb L 6), .int .u8 (dgb L 7)]
theorem dgc_len (L : List UInt8) : (dgc L).length = 8 := rfl
theorem dgc_get (L : List UInt8) (i : Nat) (hi : i < 8) : (dgc L)[i]? = some (.int .u8 (dgb L i)) := by
  match i, hi with
  | 0, _ => rfl
  | 1, _ => rfl
  | 2, _ => rfl
  | 3, _ => rfl
  | 4, _ => rfl
  | 5, _ => rfl
  | 6, _ => rfl
  | 7, _ => rfl
theorem flat_len : ∀ Ls : List (List UInt8), (Ls.flatMap dgc).length = Ls.length * 8
  | [] => rfl
  | L :: Ls => by rw [List.flatMap_cons, List.length_append, flat_len Ls, List.length_cons, dgc_len]; omega
theorem flat_get : ∀ (Ls : List (List UInt8)) (j i : Nat), j < Ls.length → i < 8 → (Ls.flatMap dgc)[j * 8 + i]? = some (.int .u8 (dgb (Ls.getD j []) i))
  | [], j, i, h, _ => by simp at h
  | L :: Ls, 0, i, _, hi => by
    rw [List.flatMap_cons, List.getElem?_append_left (by rw [dgc_len]; omega), Nat.zero_mul, Nat.zero_add, dgc_get L i hi]
    rfl
  | L :: Ls, j + 1, i, h, hi => by
    rw [List.flatMap_cons, List.getElem?_append_right (by rw [dgc_len]; omega), dgc_len, show (j + 1) * 8 + i - 8 = j * 8 + i by omega, flat_get Ls j i (by simpa using h) hi]
    rfl
theorem infoD : (Try.prog.info? 52).map (fun i => (i.zero, i.size, i.bytes)) = some (some (.agg #[.int .u8 0, .int .u8 0, .int .u8 0, .int .u8 0, .int .u8 0, .int .u8 0, .int .u8 0, .int .u8 0]), 8, 8) := by kernel_rfl
def OwnD (w : World) (base : Nat) (v : Value) (Ls : List (List UInt8)) : Prop := w.ownsRow base 52 8 v Ls.length (Ls.flatMap dgc)
/- what is read of a level -/
def RdD (x : List (List UInt8)) (v : Value) (B : Nat) (W : World) : Prop :=
  ∃ b c, v = .slice (some ⟨b, 0, none⟩) x.length c ∧ B ≤ b ∧ b < W.heap.size ∧ ∀ j, j < x.length → ∀ i, i < 8 → W.cell? ⟨b, j * 8 + i, none⟩ = some (.int .u8 (dgb (x.getD j []) i))
theorem rdD_own {w : World} {base : Nat} {v : Value} {Ls : List (List UInt8)} (h : OwnD w base v Ls) (h0 : 0 < Ls.length) : RdD Ls v base w := by
  rcases h.2 with ⟨rfl, hn⟩ | ⟨g, cap, cur, rfl, hb, hg, r⟩
  · omega
  · refine ⟨g, cap, rfl, hb, (Array.getElem?_eq_some_iff.1 hg).1, fun j hj i hi => ?_⟩
    have := World.ownsRow.cellAt h (j * 8 + i) (by omega)
    rw [this, flat_get Ls j i hj hi]
theorem rdD_ext {x : List (List UInt8)} {v : Value} {B : Nat} {W W' : World} (h : RdD x v B W) (hE : Ext W W') : RdD x v B W' := by
  obtain ⟨b, c, e, hB, hb, hc⟩ := h
  exact ⟨b, c, e, hB, Nat.lt_of_lt_of_le hb hE.sz, fun j hj i hi => (hE.old (p := ⟨b, j * 8 + i, none⟩) hb).trans (hc j hj i hi)⟩
theorem rdD_base {x : List (List UInt8)} {v : Value} {B B' : Nat} {W : World} (h : RdD x v B W) (hB' : B' ≤ B) : RdD x v B' W := by
  obtain ⟨b, c, e, hB, hb, hc⟩ := h
  exact ⟨b, c, e, Nat.le_trans hB' hB, hb, hc⟩

theorem OwnD.keep {w w' : World} {base : Nat} {v : Value} {Ls : List (List UInt8)} {row : Option Nat} (h : OwnD w base v Ls) (hg : w.grownBy w' row) (hne : v.ownBlock = none ∨ v.ownBlock ≠ row) : OwnD w' base v Ls := World.ownsRow.kept h hg hne
theorem OwnD.ext {w w' : World} {base : Nat} {v : Value} {Ls : List (List UInt8)} (h : OwnD w base v Ls) (hE : Ext w w') : OwnD w' base v Ls := h.keep (grown_of_ext hE) (by cases v.ownBlock <;> simp)
theorem below_of_grownD {B : Nat} {w0 w w' : World} {v : Value} {Ls : List (List UInt8)} (hb : Below B w0 w) (h : OwnD w B v Ls) (hg : w.grownBy w' v.ownBlock) (hB : B ≤ w.heap.size) : Below B w0 w' :=
  hb.grown hg hB fun k hk => (World.ownsRow.lt h k hk).1
theorem dgc_cells {w : World} {g : Nat} {L : List UInt8} (h : w.heap[g]? = some (dobj L)) : ∀ j u, (dgc L)[j]? = some u → w.cell? ((⟨g, 0, none⟩ : Addr).add j) = some u := by
  intro j u hu
  have hj : j < 8 := by
    have := (List.getElem?_eq_some_iff.1 hu).1
    simpa [dgc_len] using this
  rw [dgc_get L j hj] at hu
  rw [Addr.add_lit, Nat.zero_add, dobj_cell h hj, hu]
theorem app_d {F : Fence} {n : Nat} {ops : Array Oper} {rest : List Oper} {o : Oper} {a : Act} {w : World} {Q : Exit → Act → World → Prop} (hgd : o.guard = none) (s x : Tmp)
    (ho : o.op = .call { callee := .builtin .append, args := #[.tmp s, .tmp x], argTypes := #[60, 60] }) (base : Nat) (v : Value) (Ls : List (List UInt8)) (hs : a.eval (.tmp s) = v) (hown : OwnD w base v Ls)
    (g : Nat) (L : List UInt8) (hx : a.eval (.tmp x) = .slice (some ⟨g, 0, none⟩) 1 1) (hc : w.heap[g]? = some (dobj L)) (hl : Ls.length < 4294967296) (hbase : base ≤ w.heap.size)
    (h : ∀ v' w', OwnD w' base v' (Ls ++ [L]) → w.grownBy w' v.ownBlock → wpListIn F n Try.prog ops Q rest (a.put o.dst v') w') : wpListIn F n Try.prog ops Q (o :: rest) a w := by
  obtain ⟨i0, hi, hz0, hz1, hz2⟩ := info_parts infoD
  refine wpListIn_append_own w hgd _ _ _ ho base 52 i0 _ 8 8 Try.underlying60 hi hz0 hz1 hz2 rfl (by decide) v Ls.length (Ls.flatMap dgc) hs hown ⟨g, 0, none⟩ 1 1 (dgc L) hx rfl (dgc_cells hc) ?_ ?_ ?_ hbase ?_
  · intro u hu
    simp only [dgc, List.mem_cons, List.not_mem_nil, or_false] at hu
    rcases hu with rfl | rfl | rfl | rfl | rfl | rfl | rfl | rfl <;> rfl
  · simp only [maxLen]; omega
  · omega
  · intro v' w' h2 h3 _
    refine h v' w' ?_ h3
    unfold OwnD
    rw [List.flatMap_append]
    simpa using h2

theorem OwnD.form {w : World} {base : Nat} {v : Value} {Ls : List (List UInt8)} (h : OwnD w base v Ls) : ∃ A c, v = .slice A Ls.length c := by
  rcases h.2 with ⟨rfl, hn⟩ | ⟨g, cap, cur, rfl, hb, hg, r⟩
  · exact ⟨none, 0, by rw [hn]⟩
  · exact ⟨_, _, rfl⟩

/- a new block of strings -/
def slStrs (ss : List ByteArray) : SP := ⟨fun v W => ∃ g, v = .slice (some ⟨g, 0, none⟩) ss.length ss.length ∧ Strs W W.heap.size (some ⟨g, 0, none⟩) ss.length ss, fun h hE => by
  obtain ⟨g, e, hs⟩ := h
  exact ⟨g, e, (hs.below hE (Nat.le_refl _)).more hE.sz⟩⟩
theorem cells_text {w : World} {g o : Nat} {L : List UInt8} (h : ∀ i, i < 8 → w.cell? ⟨g, o + i, none⟩ = some (.int .u8 (dgb L i))) (c : Nat) : (convert 32 9 (.slice (some ⟨g, o, none⟩) 8 c)).run Try.prog w = .ok (.string (dgs L)) w := by
  have hc := run_convert_bytes_arg (P := Try.prog) w 32 5 Try.underlying32 Try.underlying5 g o 8 c [(dgb L 0 : Int), dgb L 1, dgb L 2, dgb L 3, dgb L 4, dgb L 5, dgb L 6, dgb L 7] rfl (by
    intro i hi
    rw [h i hi]
    match i, hi with
    | 0, _ => rfl
    | 1, _ => rfl
    | 2, _ => rfl
    | 3, _ => rfl
    | 4, _ => rfl
    | 5, _ => rfl
    | 6, _ => rfl
    | 7, _ => rfl) 9 Try.underlying9
  rw [hc, ← dgs_of]
  simp [strOfNums]
/- eight cells written -/
def put8 (cs : Array Value) (o : Nat) (L : List UInt8) : Array Value := (((((((cs.setIfInBounds o (.int .u8 (dgb L 0))).setIfInBounds (o + 1) (.int .u8 (dgb L 1))).setIfInBounds (o + 2) (.int .u8 (dgb L 2))).setIfInBounds (o + 3) (.int .u8 (dgb L 3))).setIfInBounds (o + 4) (.int .u8 (dgb L 4))).setIfInBounds (o + 5) (.int .u8 (dgb L 5))).setIfInBounds (o + 6) (.int .u8 (dgb L 6))).setIfInBounds (o + 7) (.int .u8 (dgb L 7))
theorem put8_size (cs : Array Value) (o : Nat) (L : List UInt8) : (put8 cs o L).size = cs.size := by simp [put8]
theorem put8_out (cs : Array Value) (o : Nat) (L : List UInt8) (k : Nat) (h : k < o ∨ o + 8 ≤ k) : (put8 cs o L)[k]? = cs[k]? := by
  unfold put8
  rw [Array.getElem?_setIfInBounds_ne (by omega), Array.getElem?_setIfInBounds_ne (by omega), Array.getElem?_setIfInBounds_ne (by omega), Array.getElem?_setIfInBounds_ne (by omega), Array.getElem?_setIfInBounds_ne (by omega), Array.getElem?_setIfInBounds_ne (by omega), Array.getElem?_setIfInBounds_ne (by omega), Array.getElem?_setIfInBounds_ne (by omega)]
theorem put8_in (cs : Array Value) (o : Nat) (L : List UInt8) (i : Nat) (hi : i < 8) (h : o + 8 ≤ cs.size) : (put8 cs o L)[o + i]? = some (.int .u8 (dgb L i)) := by
  unfold put8
  match i, hi with
  | 0, _ => simp [Array.getElem?_setIfInBounds]; omega
  | 1, _ => simp [Array.getElem?_setIfInBounds]; omega
  | 2, _ => simp [Array.getElem?_setIfInBounds]; omega
  | 3, _ => simp [Array.getElem?_setIfInBounds]; omega
  | 4, _ => simp [Array.getElem?_setIfInBounds]; omega
  | 5, _ => simp [Array.getElem?_setIfInBounds]; omega
  | 6, _ => simp [Array.getElem?_setIfInBounds]; omega
  | 7, _ => simp [Array.getElem?_setIfInBounds]; omega
theorem row_cell {w : World} {g : Nat} {cs : Array Value} {t : TypeId} (h : w.heap[g]? = some (.cells cs t)) (o : Nat) (ho : o < cs.size) : ∃ v, w.cell? ⟨g, o, none⟩ = some v :=
  ⟨cs[o], by simp [World.cell?, h, ho]⟩
theorem row_free {w : World} {g : Nat} {cs : Array Value} {t : TypeId} (h : w.heap[g]? = some (.cells cs t)) (o : Nat) : w.frozen? ⟨g, o, none⟩ = false := by simp [World.frozen?, h]
theorem below_put8 {B : Nat} {a w : World} {g : Nat} (hb : Below B a w) (hg : B ≤ g) (o : Nat) (u0 u1 u2 u3 u4 u5 u6 u7 : Value) : Below B a ((((((((w.setCell ⟨g, o, none⟩ u0).setCell ⟨g, o + 1, none⟩ u1).setCell ⟨g, o + 2, none⟩ u2).setCell ⟨g, o + 3, none⟩ u3).setCell ⟨g, o + 4, none⟩ u4).setCell ⟨g, o + 5, none⟩ u5).setCell ⟨g, o + 6, none⟩ u6).setCell ⟨g, o + 7, none⟩ u7) :=
  (((((((hb.setCell hg u0).setCell hg u1).setCell hg u2).setCell hg u3).setCell hg u4).setCell hg u5).setCell hg u6).setCell hg u7
theorem row_store {w : World} {g : Nat} {cs : Array Value} {t : TypeId} (h : w.heap[g]? = some (.cells cs t)) (o : Nat) (L : List UInt8) :
    ((((((((w.setCell ⟨g, o, none⟩ (.int .u8 (dgb L 0))).setCell ⟨g, o + 1, none⟩ (.int .u8 (dgb L 1))).setCell ⟨g, o + 2, none⟩ (.int .u8 (dgb L 2))).setCell ⟨g, o + 3, none⟩ (.int .u8 (dgb L 3))).setCell ⟨g, o + 4, none⟩ (.int .u8 (dgb L 4))).setCell ⟨g, o + 5, none⟩ (.int .u8 (dgb L 5))).setCell ⟨g, o + 6, none⟩ (.int .u8 (dgb L 6))).setCell ⟨g, o + 7, none⟩ (.int .u8 (dgb L 7))).heap[g]? = some (.cells (put8 cs o L) t) := by
  have h0 := heap_setCell_same w g o _ _ (.int .u8 (dgb L 0)) h
  have h1 := heap_setCell_same _ g (o + 1) _ _ (.int .u8 (dgb L 1)) h0
  have h2 := heap_setCell_same _ g (o + 2) _ _ (.int .u8 (dgb L 2)) h1
  have h3 := heap_setCell_same _ g (o + 3) _ _ (.int .u8 (dgb L 3)) h2
  have h4 := heap_setCell_same _ g (o + 4) _ _ (.int .u8 (dgb L 4)) h3
  have h5 := heap_setCell_same _ g (o + 5) _ _ (.int .u8 (dgb L 5)) h4
  have h6 := heap_setCell_same _ g (o + 6) _ _ (.int .u8 (dgb L 6)) h5
  exact heap_setCell_same _ g (o + 7) _ _ (.int .u8 (dgb L 7)) h6

set_option maxHeartbeats 1000000 in
theorem levels_yields (bx : Nat) (A : Option Addr) (m c : Nat) (ss : List ByteArray) (w : World) (hbx : w.cell? ⟨bx, 0, none⟩ = some (.slice A m c)) (hS : Strs w w.heap.size A m ss) (hm : m < 1048576) (hsm : ∀ k, (ss.getD k ByteArray.empty).size < 429496729) (k0 : Nat) :
    Brings Fence.wide k0 Try.prog 41 #[.pointer (some ⟨bx, 0, none⟩)] RdD (allL (lvsP ss)) w := by
  intro l J W hW hY h0
  refine callsIn_of_wp Try.func41 rfl trivial ?_ rfl
  simp only [Try.ntmps41, List.size_toArray, List.length_cons, List.length_nil, Nat.reduceAdd, Nat.reduceSub, Array.replicate_succ, Array.replicate_zero, List.push_toArray, List.append_toArray, List.nil_append, List.cons_append]
  have hbl : bx < w.heap.size := World.block_lt_of_cell? w _ hbx
  have hbW : W.cell? ⟨bx, 0, none⟩ = some (.slice A m c) := (hW.cell (p := ⟨bx, 0, none⟩) hbl).trans hbx
  obtain ⟨i0, hi, hz0, hz1, hz2⟩ := info_parts infoD
  have hSW := hS.below hW (Nat.le_refl _)
  gi_wp2_with (gi_at_make; refine wpListIn_make_own W rfl _ _ 60 rfl W.heap.size 52 i0 _ 8 Try.underlying60 hi hz0 hz1 _ _ _ m rfl rfl rfl (by rw [hz2]; omega) (by simp only [maxLen]; omega) (Nat.le_refl _) ?_; intro w1 hO1 hg1; have hb1 : w1.cell? ⟨bx, 0, none⟩ = some (.slice A m c) := hg1.cell hbW (by simp))
  have hE1 : Ext W w1 := ⟨hg1.os, hg1.tape, hg1.output, hg1.size, fun k hk => hg1.block k hk (by simp)⟩
  gi_loopw [3, 13] (fun v i wr => ∃ k : Nat, k ≤ m ∧ i = .int .i64 k ∧ OwnD wr W.heap.size v ((ss.take k).map lfP) ∧ Ext W wr) (fun _ i _ => m - (intOf i).toNat)
  case atStart => exact ⟨0, Nat.zero_le _, rfl, hO1, hE1⟩
  case round =>
    obtain ⟨k, hk, rfl, hO, hE⟩ := hrel
    have hz := hE.sz
    by_cases hlt : k < m
    · obtain ⟨b, o, rfl, hbl2, hc0⟩ := hSW.at_ hlt
      have hc : wr.cell? ⟨b, o + k, none⟩ = some (.string (ss.getD k ByteArray.empty)) := (hE.old (p := ⟨b, o + k, none⟩) (by have := hW.size; show b < _; omega)).trans (hc0 k hlt)
      have hkl : k < ss.length := by rw [hS.len]; exact hlt
      have hsz := hsm k
      have ht : ss.take (k + 1) = ss.take k ++ [ss.getD k ByteArray.empty] := by
        rw [List.take_succ_eq_append_getElem hkl]; simp [List.getD, List.getElem?_eq_getElem hkl]
      have HT := Lib.hid ht
      clear hc0 ht
      generalize ss.getD k ByteArray.empty = s at hc hsz HT
      have hml : ((ss.take k).map lfP).length < 4294967296 := by simp; omega
      gi_wp2
      refine ⟨trivial, fun h => (by cases h), (callsIn_wide.2 (of_lit [⟨#[3]⟩, s] _ _ _ wr rfl rfl (by simp) (.cons (Nat.lt_of_sub_pos (by decide)) (.cons (by omega) .nil)))).mono ?_⟩
      rintro e w2 ⟨rfl, hb2⟩
      have hE2 : Ext wr w2 := hb2
      have hO2 := hO.ext hE2
      have hz2 : W.heap.size ≤ w2.heap.size := by have := hE2.sz; omega
      have hbase : ∀ o : Obj, W.heap.size ≤ (w2.alloc o).heap.size := fun o => by rw [World.size_alloc]; omega
      unfold dgv
      gi_wp2_with (gi_at_builtin; refine app_d rfl 17 21 rfl W.heap.size u3 _ rfl (hO2.ext (Ext.alloc _ _)) w2.heap.size (lfP s) rfl (heap_alloc_new w2 _) hml (hbase _) ?_; intro v' w' hO' hg')
      go_roundw
      case rel =>
        refine ⟨k + 1, by omega, by go_num, by rw [HT.out]; simpa using hO', ?_⟩
        exact below_of_grownD (hE.trans (hE2.trans (Ext.alloc _ _))) (hO2.ext (Ext.alloc _ _)) hg' (hbase _)
      case measure => simp [intOf]; omega
    · obtain rfl : k = m := by omega
      have e : ss.take k = ss := List.take_of_length_le (by rw [hS.len]; exact Nat.le_refl _)
      rw [e] at hO
      clear e
      have hlen : (ss.map lfP).length = k := by rw [List.length_map, hS.len]
      have HL := Lib.hid hlen
      clear hlen
      rw [← fillP_self (ss.map lfP), HL.out] at hO
      have hp1 := p2_ge k
      have hp2 := p2_le (n := k) (m := k + 1) (by omega) (by omega)
      gi_wp2
      gi_loopw [3] (fun v wr' => ∃ q : Nat, k ≤ q ∧ q ≤ p2 k ∧ OwnD wr' W.heap.size v (fillP (ss.map lfP) q) ∧ Ext W wr') (fun v _ => p2 k - lenOf v)
      case atStart => exact ⟨k, Nat.le_refl _, hp1, hO, hE⟩
      case round =>
        rename_i wq
        obtain ⟨q, hq1, hq2, hO', hE'⟩ := hrel
        have hfl : (fillP (ss.map lfP) q).length = q := fillP_length _ _ (by rw [HL.out]; exact hq1)
        have hz' := hE'.sz
        obtain ⟨A2, c2, hv2⟩ : ∃ A c, u3 = .slice A q c := by
          obtain ⟨A, c, e⟩ := hO'.form
          exact ⟨A, c, by rw [e, hfl]⟩
        subst hv2
        have HF := Lib.hid hfl
        clear hfl
        by_cases hq : q < p2 k
        · by_cases hq0 : q = 0
          · subst hq0
            have t1 : (((0 : Nat) : Int) == 0) = true := rfl
            gi_wp2
            refine ⟨trivial, fun h => (by cases h), (callsIn_wide.2 (of_lit [⟨#[5]⟩] _ _ _ wr rfl rfl (by simp) (.cons (Nat.lt_of_sub_pos (by decide)) .nil))).mono ?_⟩
            rintro e w2 ⟨rfl, hb2⟩
            have hE2 : Ext wr w2 := hb2
            have hO2 := hO'.ext hE2
            have hz2 : W.heap.size ≤ w2.heap.size := by have := hE2.sz; omega
            have hbase : ∀ o : Obj, W.heap.size ≤ (w2.alloc o).heap.size := fun o => by rw [World.size_alloc]; omega
            have hml : (fillP (ss.map lfP) 0).length < 4294967296 := by rw [HF.out]; omega
            have hsc : fillP (ss.map lfP) (0 + 1) = fillP (ss.map lfP) 0 ++ [misP] := fillP_succ _ _ (by rw [HL.out]; exact hq1)
            have HS := Lib.hid hsc
            clear hsc
            unfold dgv
            gi_wp2_with (gi_at_builtin; refine app_d rfl 36 39 rfl W.heap.size _ _ rfl (hO2.ext (Ext.alloc _ _)) w2.heap.size misP rfl (heap_alloc_new w2 _) hml (hbase _) ?_; intro v' w' hO3 hg')
            go_roundw
            case rel =>
              refine ⟨0 + 1, by omega, by omega, by rw [HS.out]; exact hO3, ?_⟩
              exact below_of_grownD (hE'.trans (hE2.trans (Ext.alloc _ _))) (hO2.ext (Ext.alloc _ _)) hg' (hbase _)
            case measure =>
              obtain ⟨A3, c3, hv3⟩ := hO3.form
              rw [hv3]
              simp only [lenOf, List.length_append, HF.out, List.length_cons, List.length_nil]
              omega
          · have t1 : ((q : Int) == 0) = false := by simp; omega
            have t2 : bits .and .i64 (q : Int) ((q : Int) - 1) = ((q &&& (q - 1) : Nat) : Int) := by
              rw [show ((q : Int) - 1) = ((q - 1 : Nat) : Int) by omega]; exact bits_and_i64 _ _ (by omega) (by omega)
            have t3 : (((q &&& (q - 1) : Nat) : Int) == 0) = false := by
              have := land_no hq1 hq (by omega)
              simp only [beq_eq_false_iff_ne]; omega
            have t4 : (((q &&& (q - 1) : Nat) : Int) != 0) = true := by rw [bne, t3]; rfl
            gi_wp2
            refine ⟨trivial, fun h => (by cases h), (callsIn_wide.2 (of_lit [⟨#[5]⟩] _ _ _ wr rfl rfl (by simp) (.cons (Nat.lt_of_sub_pos (by decide)) .nil))).mono ?_⟩
            rintro e w2 ⟨rfl, hb2⟩
            have hE2 : Ext wr w2 := hb2
            have hO2 := hO'.ext hE2
            have hz2 : W.heap.size ≤ w2.heap.size := by have := hE2.sz; omega
            have hbase : ∀ o : Obj, W.heap.size ≤ (w2.alloc o).heap.size := fun o => by rw [World.size_alloc]; omega
            have hml : (fillP (ss.map lfP) q).length < 4294967296 := by rw [HF.out]; omega
            have hsc : fillP (ss.map lfP) (q + 1) = fillP (ss.map lfP) q ++ [misP] := fillP_succ _ _ (by rw [HL.out]; exact hq1)
            have HS := Lib.hid hsc
            clear hsc
            unfold dgv
            gi_wp2_with (gi_at_builtin; refine app_d rfl 36 39 rfl W.heap.size _ _ rfl (hO2.ext (Ext.alloc _ _)) w2.heap.size misP rfl (heap_alloc_new w2 _) hml (hbase _) ?_; intro v' w' hO3 hg')
            go_roundw
            case rel =>
              refine ⟨q + 1, by omega, by omega, by rw [HS.out]; exact hO3, ?_⟩
              exact below_of_grownD (hE'.trans (hE2.trans (Ext.alloc _ _))) (hO2.ext (Ext.alloc _ _)) hg' (hbase _)
            case measure =>
              obtain ⟨A3, c3, hv3⟩ := hO3.form
              rw [hv3]
              simp only [lenOf, List.length_append, HF.out, List.length_cons, List.length_nil]
              omega
        · obtain rfl : q = p2 k := by omega
          have hpp := p2_pos k
          have t1 : ((p2 k : Int) == 0) = false := by simp; omega
          have t2 : bits .and .i64 (p2 k : Int) ((p2 k : Int) - 1) = 0 := by
            rw [show ((p2 k : Int) - 1) = ((p2 k - 1 : Nat) : Int) by omega, bits_and_i64 _ _ (by omega) (by omega), land_yes k]; rfl
          have hrd : RdD (lvsP ss) (.slice A2 (p2 k) c2) W.heap.size wr := by
            unfold lvsP
            rw [hS.len]
            exact rdD_own hO' (by rw [HF.out]; exact hpp)
          gi_wp2
          gi_loopw [3] (fun v wr' => ∃ (pre : List (List (List UInt8))) (x : List (List UInt8)) (W0 : World), allL (lvsP ss) = pre ++ allL x ∧ Pow2 x.length ∧ x.length < 4294967296 ∧ J pre W0 ∧ Ext W0 wr' ∧ RdD x v W0.heap.size wr') (fun v _ => lenOf v)
          case atStart => exact ⟨[], lvsP ss, W, rfl, by rw [lvsP_length]; exact pow2_p2 _, by rw [lvsP_length, hS.len]; omega, h0, hE', hrd⟩
          case round =>
            obtain ⟨pre, x, W0, hx, hpx, hxl, hJ, hE0, hrd0⟩ := hrel
            have hrd1 := hrd0
            obtain ⟨b, c3, rfl, hB, hbl3, hc⟩ := hrd0
            by_cases h1 : 1 < x.length
            · obtain ⟨fn, tmps, assign, body, hy, hR⟩ := hY pre x (allL (abvP x)) _ W0 wr (by rw [hx, allL_two h1]) hJ hE0 hrd1
              gi_wp2
              refine ⟨fun h => (by cases h), hR.mono ?_⟩
              rintro e W3 ⟨rfl, hJ3, hrd3⟩
              clear hc hbl3 hB
              obtain ⟨b, c3, hv3, _, hbl3, hc⟩ := hrd3
              simp only [Value.slice.injEq, Option.some.injEq, Addr.mk.injEq, and_true, true_and] at hv3
              obtain ⟨rfl, rfl⟩ := hv3
              obtain ⟨hph, hxh⟩ := hpx.half h1
              generalize hhn : x.length / 2 = hn at hph hxh
              have q1 : ((x.length : Int) / 2) = (hn : Int) := by omega
              obtain ⟨cs0, hcs0⟩ : ∃ cs0 : Array Value, cs0.size = hn * 8 ∧ (Instr.makeSlice 60 (.int .i64 (hn : Int)) (.int .i64 (hn : Int))).run Try.prog W3 = .ok (.slice (some ⟨W3.heap.size, 0, none⟩) hn hn) (W3.alloc (.cells cs0 52)) :=
                ⟨_, by rw [size_madeCells, hz1, Int.toNat_natCast], run_make (P := Try.prog) W3 60 52 i0 _ Try.underlying60 hi hz0 .i64 .i64 hn hn (by omega) (Int.le_refl _) (by rw [hz2]; omega) (by omega)⟩
              obtain ⟨hcz, hmk⟩ := hcs0
              have q2 : decide ((1 : Int) < 2 * (hn : Int)) = true := by simp; omega
              gi_wp2
              gi_loopw [55] (fun i wr' => ∃ (j : Nat) (cs : Array Value), j ≤ hn ∧ i = .int .i64 j ∧ wr'.heap[W3.heap.size]? = some (.cells cs 52) ∧ cs.size = hn * 8 ∧ (∀ j', j' < j → ∀ i', i' < 8 → cs[j' * 8 + i']? = some (.int .u8 (dgb ((abvP x).getD j' []) i'))) ∧ Ext W3 wr') (fun i _ => hn - (intOf i).toNat)
              case atStart => exact ⟨0, cs0, Nat.zero_le _, rfl, heap_alloc_new W3 _, hcz, fun j' h => absurd h (by omega), Ext.alloc _ _⟩
              case round =>
                obtain ⟨j, cs, hj, rfl, hrow, hcsz, hin, hE3⟩ := hrel
                by_cases hjn : j < hn
                · have hd0 : ∀ i, i < 8 → wr.cell? ⟨b, 2 * j * 8 + i, none⟩ = some (.int .u8 (dgb (x.getD (2 * j) []) i)) := fun i hi => (hE3.old (p := ⟨b, 2 * j * 8 + i, none⟩) hbl3).trans (hc (2 * j) (by omega) i hi)
                  have hd1 : ∀ i, i < 8 → wr.cell? ⟨b, (2 * j + 1) * 8 + i, none⟩ = some (.int .u8 (dgb (x.getD (2 * j + 1) []) i)) := fun i hi => (hE3.old (p := ⟨b, (2 * j + 1) * 8 + i, none⟩) hbl3).trans (hc (2 * j + 1) (by omega) i hi)
                  have hnd := abvP_get x j (by omega)
                  have HD := Lib.hid hnd
                  clear hnd
                  generalize x.getD (2 * j) [] = L1 at hd0 HD
                  generalize x.getD (2 * j + 1) [] = L2 at hd1 HD
                  have hbr : b < wr.heap.size := by have := hE3.sz; omega
                  gi_wp2
                  refine wpIn_wide.2 ?_
                  apply wp_region_seq (l := [_, _, _, _, _, _, _, _, _, _, _, _, _, _, _, _, _, _]) (t := [_]) [some 58, some 59, some 60, some 61, some 62, some 63, some 64, some 65, some 66, some 67, some 68, some 69, some 70, some 71, some 72, some 73, some 74, some 75, none] [[], [], [], [], [3], [2, 4], [5], [6], [], [], [9], [10], [8, 11], [12], [13], [7, 14], [15], [0, 1], [16, 17]] [18, 18, 18, 18, 18, 18, 18, 18, 18, 18, 18, 18, 18, 18, 18, 18, 18, 18] [eqv _, eqv _, eqv _, eqv _, eqv _, eqv _, eqv _, eqv _, eqv _, eqv _, eqv _, eqv _, eqv _, eqv _, eqv _, (slStrs [⟨#[4]⟩, dgs L1, dgs L2]), (eqv (.agg #[.int .u8 (dgb (ndP L1 L2) 0), .int .u8 (dgb (ndP L1 L2) 1), .int .u8 (dgb (ndP L1 L2) 2), .int .u8 (dgb (ndP L1 L2) 3), .int .u8 (dgb (ndP L1 L2) 4), .int .u8 (dgb (ndP L1 L2) 5), .int .u8 (dgb (ndP L1 L2) 6), .int .u8 (dgb (ndP L1 L2) 7)])), eqv _] (by kernel_rfl) (by kernel_rfl) ⟨?o0, ?o1, ?o2, ?o3, ?o4, ?o5, ?o6, ?o7, ?o8, ?o9, ?o10, ?o11, ?o12, ?o13, ?o14, ?o15, ?o16, ?o17, trivial⟩ ?last
                  case o0 => -- Op.move (Operand.tmp 6)
                    intro xv W hE _
                    simp only [putD, List.foldl_nil, List.getD_cons_zero]
                    refine OpGoal.plain ?_
                    go_wp2_with fail
                    exact ⟨rfl, Ext.refl _, rfl⟩
                  case o1 => -- Op.move (Operand.tmp 7)
                    intro xv W hE _
                    simp only [putD, List.foldl_nil, List.getD_cons_zero, List.getD_cons_succ]
                    refine OpGoal.plain ?_
                    go_wp2_with fail
                    exact ⟨rfl, Ext.refl _, rfl⟩
                  case o2 => -- Op.move (Operand.tmp 3)
                    intro xv W hE _
                    simp only [putD, List.foldl_nil, List.getD_cons_zero, List.getD_cons_succ]
                    refine OpGoal.plain ?_
                    go_wp2_with fail
                    exact ⟨rfl, Ext.refl _, rfl⟩
                  case o3 => -- Op.move (Operand.tmp 7)
                    intro xv W hE _
                    simp only [putD, List.foldl_nil, List.getD_cons_zero, List.getD_cons_succ]
                    refine OpGoal.plain ?_
                    go_wp2_with fail
                    exact ⟨rfl, Ext.refl _, rfl⟩
                  case o4 => -- Op.binOp BinOp.mul 3 (Operand.const (Value.int IntKind.i64 2)) (Operand.tmp 61) 
                    intro xv W hE hp
                    have r3 : xv 3 = _ := hp.1
                    clear hp
                    simp only [putD, List.foldl_nil, List.foldl_cons, List.getD_cons_zero, List.getD_cons_succ, Act.put, List.setIfInBounds_toArray, List.set_cons_zero, List.set_cons_succ]
                    refine OpGoal.plain ?_
                    go_wp2_with fail
                    exact ⟨rfl, Ext.refl _, rfl⟩
                  case o5 => -- Op.indexAddr 60 (Operand.tmp 60) (Operand.tmp 62)
                    intro xv W hE hp
                    have r2 : xv 2 = _ := hp.1
                    have r4 : xv 4 = _ := hp.2.1
                    clear hp
                    simp only [putD, List.foldl_nil, List.foldl_cons, List.getD_cons_zero, List.getD_cons_succ, Act.put, List.setIfInBounds_toArray, List.set_cons_zero, List.set_cons_succ]
                    refine OpGoal.plain ?_
                    go_wp2_with fail
                    exact ⟨rfl, Ext.refl _, rfl⟩
                  case o6 => -- Op.slice 52 (Operand.tmp 63) none none none
                    intro xv W hE hp
                    have r5 : xv 5 = _ := hp.1
                    clear hp
                    simp only [putD, List.foldl_nil, List.foldl_cons, List.getD_cons_zero, List.getD_cons_succ, Act.put, List.setIfInBounds_toArray, List.set_cons_zero, List.set_cons_succ]
                    refine OpGoal.plain ?_
                    go_wp2_with fail
                    exact ⟨rfl, Ext.refl _, rfl⟩
                  case o7 => -- Op.convert 32 9 (Operand.tmp 64)
                    intro xv W hE hp
                    have r6 : xv 6 = _ := hp.1
                    clear hp
                    have hcv : ∀ c, (convert 32 9 (.slice (some ⟨b, 2 * j * 8, none⟩) 8 c)).run Try.prog W = .ok (.string (dgs L1)) W := fun c => cells_text (fun i hi => (hE.old (p := ⟨b, 2 * j * 8 + i, none⟩) hbr).trans (hd0 i hi)) c
                    simp only [putD, List.foldl_nil, List.foldl_cons, List.getD_cons_zero, List.getD_cons_succ, Act.put, List.setIfInBounds_toArray, List.set_cons_zero, List.set_cons_succ]
                    refine OpGoal.plain ?_
                    go_wp2_with fail
                    exact ⟨rfl, Ext.refl _, rfl⟩
                  case o8 => -- Op.move (Operand.tmp 3)
                    intro xv W hE _
                    simp only [putD, List.foldl_nil, List.getD_cons_zero, List.getD_cons_succ]
                    refine OpGoal.plain ?_
                    go_wp2_with fail
                    exact ⟨rfl, Ext.refl _, rfl⟩
                  case o9 => -- Op.move (Operand.tmp 7)
                    intro xv W hE _
                    simp only [putD, List.foldl_nil, List.getD_cons_zero, List.getD_cons_succ]
                    refine OpGoal.plain ?_
                    go_wp2_with fail
                    exact ⟨rfl, Ext.refl _, rfl⟩
                  case o10 => -- Op.binOp BinOp.mul 3 (Operand.const (Value.int IntKind.i64 2)) (Operand.tmp 67) 
                    intro xv W hE hp
                    have r9 : xv 9 = _ := hp.1
                    clear hp
                    simp only [putD, List.foldl_nil, List.foldl_cons, List.getD_cons_zero, List.getD_cons_succ, Act.put, List.setIfInBounds_toArray, List.set_cons_zero, List.set_cons_succ]
                    refine OpGoal.plain ?_
                    go_wp2_with fail
                    exact ⟨rfl, Ext.refl _, rfl⟩
                  case o11 => -- Op.binOp BinOp.add 3 (Operand.tmp 68) (Operand.const (Value.int IntKind.i64 1)) 
                    intro xv W hE hp
                    have r10 : xv 10 = _ := hp.1
                    clear hp
                    simp only [putD, List.foldl_nil, List.foldl_cons, List.getD_cons_zero, List.getD_cons_succ, Act.put, List.setIfInBounds_toArray, List.set_cons_zero, List.set_cons_succ]
                    refine OpGoal.plain ?_
                    go_wp2_with fail
                    exact ⟨rfl, Ext.refl _, rfl⟩
                  case o12 => -- Op.indexAddr 60 (Operand.tmp 66) (Operand.tmp 69)
                    intro xv W hE hp
                    have r8 : xv 8 = _ := hp.1
                    have r11 : xv 11 = _ := hp.2.1
                    clear hp
                    simp only [putD, List.foldl_nil, List.foldl_cons, List.getD_cons_zero, List.getD_cons_succ, Act.put, List.setIfInBounds_toArray, List.set_cons_zero, List.set_cons_succ]
                    refine OpGoal.plain ?_
                    go_wp2_with fail
                    exact ⟨rfl, Ext.refl _, rfl⟩
                  case o13 => -- Op.slice 52 (Operand.tmp 70) none none none
                    intro xv W hE hp
                    have r12 : xv 12 = _ := hp.1
                    clear hp
                    simp only [putD, List.foldl_nil, List.foldl_cons, List.getD_cons_zero, List.getD_cons_succ, Act.put, List.setIfInBounds_toArray, List.set_cons_zero, List.set_cons_succ]
                    refine OpGoal.plain ?_
                    go_wp2_with fail
                    exact ⟨rfl, Ext.refl _, rfl⟩
                  case o14 => -- Op.convert 32 9 (Operand.tmp 71)
                    intro xv W hE hp
                    have r13 : xv 13 = _ := hp.1
                    clear hp
                    have hcv : ∀ c, (convert 32 9 (.slice (some ⟨b, (2 * j + 1) * 8, none⟩) 8 c)).run Try.prog W = .ok (.string (dgs L2)) W := fun c => cells_text (fun i hi => (hE.old (p := ⟨b, (2 * j + 1) * 8 + i, none⟩) hbr).trans (hd1 i hi)) c
                    simp only [putD, List.foldl_nil, List.foldl_cons, List.getD_cons_zero, List.getD_cons_succ, Act.put, List.setIfInBounds_toArray, List.set_cons_zero, List.set_cons_succ]
                    refine OpGoal.plain ?_
                    go_wp2_with fail
                    exact ⟨rfl, Ext.refl _, rfl⟩
                  case o15 => -- Op.buildSlice 28 3 #[(0, Operand.const (Value.string { data := #[4] })), (1, Ope
                    intro xv W hE hp
                    have r7 : xv 7 = _ := hp.1
                    have r14 : xv 14 = _ := hp.2.1
                    clear hp
                    simp only [putD, List.foldl_nil, List.foldl_cons, List.getD_cons_zero, List.getD_cons_succ, Act.put, List.setIfInBounds_toArray, List.set_cons_zero, List.set_cons_succ]
                    refine OpGoal.plain ?_
                    go_wp2_with fail
                    refine ⟨rfl, Ext.alloc _ _, W.heap.size, rfl, ?_⟩
                    rw [World.size_alloc]
                    exact Strs.new W [⟨#[4]⟩, dgs L1, dgs L2] _ _ _ rfl
                  case o16 => -- Op.call { callee := Callee.value (Operand.func 31), args := #[Operand.tmp 73], a
                    intro xv W hE hp
                    obtain ⟨g, r15, hg⟩ := hp.1
                    clear hp
                    simp only [putD, List.foldl_nil, List.foldl_cons, List.getD_cons_zero, List.getD_cons_succ, Act.put, List.setIfInBounds_toArray, List.set_cons_zero, List.set_cons_succ]
                    refine OpGoal.plain ?_
                    go_wp2_with fail
                    refine (of_any _ _ 3 [⟨#[4]⟩, dgs L1, dgs L2] W hg (by simp) (.cons (Nat.lt_of_sub_pos (by decide)) (.cons (by rw [dgs_size]; omega) (.cons (by rw [dgs_size]; omega) .nil)))).mono ?_
                    rintro e w' ⟨rfl, hb⟩
                    go_wp2_with fail
                    exact ⟨rfl, hb, rfl⟩
                  case o17 => -- Op.indexAddr 60 (Operand.tmp 58) (Operand.tmp 59)
                    intro xv W hE hp
                    have r0 : xv 0 = _ := hp.1
                    have r1 : xv 1 = _ := hp.2.1
                    clear hp
                    simp only [putD, List.foldl_nil, List.foldl_cons, List.getD_cons_zero, List.getD_cons_succ, Act.put, List.setIfInBounds_toArray, List.set_cons_zero, List.set_cons_succ]
                    refine OpGoal.plain ?_
                    go_wp2_with fail
                    exact ⟨rfl, Ext.refl _, rfl⟩
                  case last =>
                    intro xv W hE hp
                    have r0 : xv 0 = _ := hp.1
                    have r1 : xv 1 = _ := hp.2.1
                    have r2 : xv 2 = _ := hp.2.2.1
                    have r3 : xv 3 = _ := hp.2.2.2.1
                    have r4 : xv 4 = _ := hp.2.2.2.2.1
                    have r5 : xv 5 = _ := hp.2.2.2.2.2.1
                    have r6 : xv 6 = _ := hp.2.2.2.2.2.2.1
                    have r7 : xv 7 = _ := hp.2.2.2.2.2.2.2.1
                    have r8 : xv 8 = _ := hp.2.2.2.2.2.2.2.2.1
                    have r9 : xv 9 = _ := hp.2.2.2.2.2.2.2.2.2.1
                    have r10 : xv 10 = _ := hp.2.2.2.2.2.2.2.2.2.2.1
                    have r11 : xv 11 = _ := hp.2.2.2.2.2.2.2.2.2.2.2.1
                    have r12 : xv 12 = _ := hp.2.2.2.2.2.2.2.2.2.2.2.2.1
                    have r13 : xv 13 = _ := hp.2.2.2.2.2.2.2.2.2.2.2.2.2.1
                    have r14 : xv 14 = _ := hp.2.2.2.2.2.2.2.2.2.2.2.2.2.2.1
                    obtain ⟨g, r15, hg⟩ := hp.2.2.2.2.2.2.2.2.2.2.2.2.2.2.2.1
                    have r16 : xv 16 = _ := hp.2.2.2.2.2.2.2.2.2.2.2.2.2.2.2.2.1
                    have r17 : xv 17 = _ := hp.2.2.2.2.2.2.2.2.2.2.2.2.2.2.2.2.2.1
                    clear hp
                    simp only [putD, List.foldl_nil, List.foldl_cons, List.getD_cons_zero, List.getD_cons_succ, Act.put, List.length_cons, List.length_nil, List.range_succ, List.range_zero, List.nil_append, List.cons_append, List.setIfInBounds_toArray, List.set_cons_zero, List.set_cons_succ]
                    have hrowW : W.heap[W3.heap.size]? = some (.cells cs 52) := (hE.block _ (some_lt hrow)).trans hrow
                    have HRW := Lib.hid hrowW
                    clear hrowW
                    have fr := fun o => row_free HRW.out o
                    obtain ⟨v0, q0⟩ := row_cell HRW.out (j * 8) (by omega)
                    obtain ⟨v1, q1⟩ := row_cell HRW.out (j * 8 + 1) (by omega)
                    obtain ⟨v2, q2⟩ := row_cell HRW.out (j * 8 + 2) (by omega)
                    obtain ⟨v3, q3⟩ := row_cell HRW.out (j * 8 + 3) (by omega)
                    obtain ⟨v4, q4⟩ := row_cell HRW.out (j * 8 + 4) (by omega)
                    obtain ⟨v5, q5⟩ := row_cell HRW.out (j * 8 + 5) (by omega)
                    obtain ⟨v6, q6⟩ := row_cell HRW.out (j * 8 + 6) (by omega)
                    obtain ⟨v7, q7⟩ := row_cell HRW.out (j * 8 + 7) (by omega)
                    go_wp2_with fail
                    gi_wp2
                    go_roundw
                    case rel =>
                      refine ⟨j + 1, put8 cs (j * 8) (ndP L1 L2), by omega, by go_num, row_store HRW.out (j * 8) (ndP L1 L2), by rw [put8_size]; exact hcsz, ?_, below_put8 ((hE3.trans (Ext.drew wr)).trans hE) (Nat.le_refl _) _ _ _ _ _ _ _ _ _⟩
                      intro j' hj' i' hi'
                      by_cases e : j' = j
                      · subst e
                        rw [HD.out]
                        exact put8_in cs _ _ i' hi' (by omega)
                      · rw [put8_out _ _ _ _ (by omega)]
                        exact hin j' (by omega) i' hi'
                    case measure => simp [intOf]; omega
                · obtain rfl : j = hn := by omega
                  have hal : (abvP x).length = j := by rw [abvP_length]; exact hhn
                  gi_wp2
                  go_roundw
                  case rel =>
                    refine ⟨pre ++ [x], abvP x, W3, by rw [hx, allL_two h1]; simp, by rw [hal]; exact hph, by rw [hal]; omega, hJ3, hE3, W3.heap.size, j, by rw [hal], Nat.le_refl _, some_lt hrow, ?_⟩
                    intro j' hj' i' hi'
                    have hlt' : j' * 8 + i' < cs.size := by rw [hal] at hj'; omega
                    rw [← hin j' (by rw [hal] at hj'; exact hj') i' hi']
                    simp [World.cell?, hrow, hlt']
                  case measure => simp only [lenOf]; omega
            · have hx1 : x.length = 1 := by obtain ⟨z, hz⟩ := hpx; have : 1 ≤ 2 ^ z := Nat.one_le_two_pow; omega
              obtain ⟨fn, tmps, assign, body, hy, hR⟩ := hY pre x [] _ W0 wr (by rw [hx, allL_one h1]) hJ hE0 hrd1
              have q2 : decide ((1 : Int) < (x.length : Int)) = false := by rw [hx1]; rfl
              clear hx1
              gi_wp2
              refine ⟨fun h => (by cases h), hR.mono ?_⟩
              rintro e W3 ⟨rfl, hJ3, hrd3⟩
              gi_wp2
              go_end0
              exact ⟨⟨_, rfl⟩, W3, by rw [hx, allL_one h1]; exact hJ3, Ext.refl _⟩
end Go.Proofs.Ytncdnopnjdbleaa
