/- slices.Delete of one point; slices.Clone of points. -/
import Derived.Shelf.RegionOpenPlain
import Derived.Deep.RegionLaw
import Derived.Lib.SliceRun
import Derived.Laws.IdiomCopy
import Derived.Shelf.SlicesE.Clone
import Derived.Test.YtompfgofaplffaaGreatDoorQEj
import Derived.Test.YtompfgofaplffaaGreatDoorQAe
set_option linter.unusedSimpArgs false
set_option linter.unusedVariables false
namespace Go.Proofs.YtompfgofaplffaaGreatDoor
open Go.RowKit Hach

/-- The cells of a list of points. -/
def cellv (l : List Pt) (i : Nat) : Value := if i % 2 = 0 then .int .i64 (gp l (i / 2)).x else .int .i64 (gp l (i / 2)).y
def zpt : Value := .agg #[.int .i64 0, .int .i64 0]
theorem cellv_one (l : List Pt) (i : Nat) : (cellv l i).oneCell' = true := by unfold cellv; split <;> rfl
theorem zero_pt (w : World) : (zeroValue 73).run Tryz.prog w = .ok zpt w := by unfold zpt; go_simp
theorem run_clear_pt (w : World) (ty : TypeId) (b o c : Nat) (hc : ∀ j, j < 2 → (w.cell? ⟨b, o + j, none⟩).isSome = true) (hf : ∀ j, j < 2 → w.frozen? ⟨b, o + j, none⟩ = false) :
    (Builtin.clear_ #[75] ty #[.slice (some ⟨b, o, none⟩) 1 c]).run Tryz.prog w = .ok (.tuple #[]) (w.setCells b o [.int .i64 0, .int .i64 0]) := by
  have hst := run_storeCells_cells (P := Tryz.prog) b o [.int .i64 0, .int .i64 0] 0 w (by simpa using hc) (by simpa using hf) (by intro v hv; simp at hv; rw [hv]; rfl)
  simp only [Nat.add_zero] at hst
  have hzc : (Builtin.zeroCells (Value.agg #[.int .i64 0, .int .i64 0]).cells 1).toList = [.int .i64 0, .int .i64 0] := by kernel_rfl
  simp [Builtin.clear_, run_underlying Tryz.underlying75, zero_pt, hzc, hst]
theorem below_cells {B b : Nat} {a : World} (hB : B ≤ b) : ∀ (vs : List Value) (o : Nat) (w : World), Below B a w → Below B a (w.setCells b o vs)
  | [], _, _, h => h
  | v :: vs, _, w, h => below_cells hB vs _ _ (h.setCell (p := ⟨b, _, none⟩) hB v)
set_option maxRecDepth 100000 in
set_option maxHeartbeats 2000000 in
theorem delPt_any (l : List Pt) (b c n : Nat) (w : World) (hn : n + 1 < l.length) (hc : l.length ≤ c) (hm : c ≤ maxLen) (hl : ∀ i, i < l.length * 2 → w.cell? ⟨b, i, none⟩ = some (cellv l i) ∧ w.frozen? ⟨b, i, none⟩ = false) :
    Calls Tryz.prog 132 #[.slice (some ⟨b, 0, none⟩) l.length c, .int .i64 n, .int .i64 (n + 1 : Nat)] w fun e w' => e = .returned (.slice (some ⟨b, 0, none⟩) (l.length - 1) c) ∧
      ((∀ i, i < (l.length - 1) * 2 → w'.cell? ⟨b, i, none⟩ = some (cellv l (if i < n * 2 then i else i + 2))) ∧ ∀ B, B ≤ b → Below B w w') := by
  obtain ⟨news, hnews⟩ : ∃ news, news = (List.range ((l.length - (n + 1)) * 2)).map fun j => cellv l ((n + 1) * 2 + j) := ⟨_, rfl⟩
  have hlen : news.length = (l.length - (n + 1)) * 2 := by rw [hnews]; simp
  have hget : ∀ j u, news[j]? = some u → j < (l.length - (n + 1)) * 2 ∧ u = cellv l ((n + 1) * 2 + j) := by
    intro j u hu
    have hj : j < news.length := (List.getElem?_eq_some_iff.1 hu).1
    rw [hlen] at hj
    rw [hnews, List.getElem?_map, List.getElem?_range hj] at hu
    exact ⟨hj, by simpa using hu.symm⟩
  have s0 : Hid (∀ j u, news[j]? = some u → w.drew.cell? ((⟨b, (n + 1) * 2, none⟩ : Addr).add j) = some u) := Lib.hid (by
    intro j u hu
    obtain ⟨hj, rfl⟩ := hget j u hu
    rw [Addr.add_lit]
    exact (hl ((n + 1) * 2 + j) (by omega)).1)
  have s1 : Hid (∀ u ∈ news, u.oneCell' = true) := Lib.hid (by
    intro u hu
    rw [hnews] at hu
    obtain ⟨x, _, rfl⟩ := List.mem_map.1 hu
    exact cellv_one _ _)
  have s2 : Hid (∀ j, j < news.length → (w.drew.cell? ⟨b, 0 + n * 2 + j, none⟩).isSome = true ∧ w.drew.frozen? ⟨b, 0 + n * 2 + j, none⟩ = false) := Lib.hid (by
    intro j hj
    rw [hlen] at hj
    have := hl (n * 2 + j) (by omega)
    rw [Nat.zero_add]
    exact ⟨by show (w.cell? _).isSome = true; rw [this.1]; rfl, this.2⟩)
  obtain ⟨i0, hi0, hz1⟩ := info_siz infoPt
  obtain ⟨W1, hW1⟩ : ∃ W1, W1 = w.drew.setCells b (0 + n * 2) news := ⟨_, rfl⟩
  have hin : ∀ i, i < l.length * 2 → (W1.cell? ⟨b, i, none⟩).isSome = true ∧ W1.frozen? ⟨b, i, none⟩ = false := fun i hi => by
    rw [hW1]
    exact ⟨World.isSome_setCells b _ _ _ _ (by show (w.cell? _).isSome = true; rw [(hl i hi).1]; rfl), by rw [World.frozen?_setCells]; exact (hl i hi).2⟩
  have hcl : Hid (∀ ty, (Builtin.clear_ #[75] ty #[.slice (some ⟨b, (l.length - 1) * 2, none⟩) 1 (c - (l.length - 1))]).run Tryz.prog W1 = .ok (.tuple #[]) (W1.setCells b ((l.length - 1) * 2) [.int .i64 0, .int .i64 0])) :=
    Lib.hid (fun ty => run_clear_pt W1 ty b _ _ (fun j hj => (hin _ (by omega)).1) (fun j hj => (hin _ (by omega)).2))
  have hfin : Hid ((∀ i, i < (l.length - 1) * 2 → (W1.setCells b ((l.length - 1) * 2) [.int .i64 0, .int .i64 0]).cell? ⟨b, i, none⟩ = some (cellv l (if i < n * 2 then i else i + 2))) ∧ ∀ B, B ≤ b → Below B w (W1.setCells b ((l.length - 1) * 2) [.int .i64 0, .int .i64 0])) := Lib.hid (by
    refine ⟨fun i hi => ?_, fun B hB => ?_⟩
    · rw [World.cell?_setCells_out b _ _ _ _ (fun _ _ => by left; exact hi), hW1]
      by_cases h : i < n * 2
      · rw [if_pos h, World.cell?_setCells_out b _ _ _ _ (fun _ _ => by left; show i < 0 + n * 2; omega)]
        exact (hl i (by omega)).1
      · rw [if_neg h]
        have hj : i - n * 2 < news.length := by rw [hlen]; omega
        have := World.cell?_setCells_in b news (0 + n * 2) w.drew (fun j hj => (s2.out j hj).1) (i - n * 2) hj
        rw [show 0 + n * 2 + (i - n * 2) = i by omega] at this
        rw [this]
        obtain ⟨_, e⟩ := hget _ _ (List.getElem?_eq_getElem hj)
        rw [e, show (n + 1) * 2 + (i - n * 2) = i + 2 by omega]
    · rw [hW1]
      exact below_cells hB _ _ _ (below_cells hB _ _ _ (show Below B w w.drew from ⟨rfl, rfl, rfl, Nat.le_refl _, fun _ _ => rfl⟩)))
  have hlt : Hid (news.length = (l.length - (n + 1)) * 2) := Lib.hid hlen
  have hW : Hid (W1 = w.drew.setCells b (0 + n * 2) news) := Lib.hid hW1
  clear hl hnews hlen hget hW1 hin
  have mixed : Tryz.prog.follows .mixedOrders = true := by kernel_rfl
  have hic : n ≤ c := by omega
  have hjc : n + 1 ≤ c := by omega
  have hne : ¬ c = n + 1 := by omega
  have hzz : 0 ≤ (n : Int) + 1 ∧ (n : Int) + 1 ≤ (l.length : Int) := by omega
  have hne2 : ¬ c = l.length - 1 := by omega
  have hne3 : ¬ c ≤ l.length - 1 := by omega
  go_enter Tryz.func132, Tryz.ntmps132
  go_wp2_with fail
  go_region_law_o (refine step_append_room rfl (.tmp 22) (.tmp 25) 75 rfl 73 i0 2 Tryz.underlying75 hi0 hz1 b 0 n c (by simp [Act.eval, Act.put]) ⟨b, (n + 1) * 2, none⟩ (l.length - (n + 1)) (c - (n + 1)) news (by simp [Act.eval, Act.put]) hlt.out s0.out s1.out (by omega) s2.out ?_; rw [← hW.out])
  have e1 : n + (l.length - (n + 1)) = l.length - 1 := by omega
  rw [e1]
  go_wp2_with fail
  have e2 : l.length - (l.length - 1) = 1 := by omega
  rw [e2, hcl.out]
  go_wp2_with fail
  go_ret
  exact ⟨rfl, hfin.out⟩
theorem rowcells {l : List Pt} {i : Nat} (hi : i < l.length * 2) : (l.flatMap ptC)[i]? = some (cellv l i) := by
  induction l generalizing i with
  | nil => exact absurd hi (by simp)
  | cons p l ih =>
    rw [List.flatMap_cons]
    rcases i with _ | _ | i
    · rfl
    · rfl
    · rw [show ptC p ++ l.flatMap ptC = .int .i64 p.x :: .int .i64 p.y :: l.flatMap ptC from rfl, List.getElem?_cons_succ, List.getElem?_cons_succ, ih (by rw [List.length_cons] at hi; omega)]
      unfold cellv gp
      rw [show (i + 1 + 1) % 2 = i % 2 by omega, show (i + 1 + 1) / 2 = i / 2 + 1 by omega, List.getD_cons_succ]
theorem rowlen (l : List Pt) : (l.flatMap ptC).length = l.length * 2 := by
  induction l with
  | nil => rfl
  | cons p l ih => rw [List.flatMap_cons, List.length_append, ih, List.length_cons]; show 2 + _ = _; omega
theorem Pts.cellv_ {W : World} {b o : Nat} {l : List Pt} (h : Pts W (some ⟨b, o, none⟩) l) {i : Nat} (hi : i < l.length * 2) : W.cell? ⟨b, o + i, none⟩ = some (cellv l i) := by
  have := h.cell (j := i / 2) (i := i % 2) (v := cellv l i) (by omega) (by
    unfold cellv ptC
    rcases Nat.mod_two_eq_zero_or_one i with e | e <;> rw [e] <;> rfl)
  rwa [show o + i / 2 * 2 + i % 2 = o + i by omega] at this
theorem Pts.of_cells {W : World} {b : Nat} {l : List Pt} (hb : b < W.heap.size) (h : ∀ i, i < l.length * 2 → W.cell? ⟨b, i, none⟩ = some (cellv l i)) : Pts W (some ⟨b, 0, none⟩) l := fun j hj =>
  ⟨b, 0, rfl, hb, fun i v hv => by
    have hi : i < 2 := (List.getElem?_eq_some_iff.1 hv).1
    have := h (j * 2 + i) (by omega)
    rw [Nat.zero_add, this]
    unfold cellv
    rcases i with _ | _ | i
    · rw [show (j * 2 + 0) % 2 = 0 by omega, show (j * 2 + 0) / 2 = j by omega]; exact hv
    · rw [show (j * 2 + (0 + 1)) % 2 = 1 by omega, show (j * 2 + (0 + 1)) / 2 = j by omega]; exact hv
    · omega⟩
theorem gp_erase {l : List Pt} {n j : Nat} : gp (l.eraseIdx n) j = gp l (if j < n then j else j + 1) := by
  unfold gp
  rw [List.getD_eq_getElem?_getD, List.getD_eq_getElem?_getD, List.getElem?_eraseIdx]
  split <;> rfl
theorem cellv_erase {l : List Pt} {n i : Nat} : cellv (l.eraseIdx n) i = cellv l (if i < n * 2 then i else i + 2) := by
  unfold cellv
  rw [gp_erase]
  by_cases h : i < n * 2
  · rw [if_pos (show i / 2 < n by omega), if_pos h]
  · rw [if_neg (show ¬ i / 2 < n by omega), if_neg h, show (i + 2) % 2 = i % 2 by omega, show (i + 2) / 2 = i / 2 + 1 by omega]
theorem info_pt0 : (Tryz.prog.info? 73).map (fun i => (i.zero, i.size, i.bytes)) = some (some zpt, 2, 16) := by kernel_rfl
theorem info_pt : ∃ i, Tryz.prog.info? 73 = some i ∧ i.zero = some zpt ∧ i.size = 2 ∧ i.bytes = 16 := by
  have h := info_pt0
  cases e : Tryz.prog.info? 73 with
  | none => rw [e] at h; cases h
  | some i =>
    rw [e] at h
    simp only [Option.map_some, Option.some.injEq, Prod.mk.injEq] at h
    exact ⟨i, rfl, h.1, h.2.1, h.2.2⟩
/-- A row of points of one's own. -/
def OwnPts (W : World) (g : Nat) (l : List Pt) : Prop := g < W.heap.size ∧ ∀ i, i < l.length * 2 → W.cell? ⟨g, i, none⟩ = some (cellv l i) ∧ W.frozen? ⟨g, i, none⟩ = false
theorem OwnPts.pts {W : World} {g : Nat} {l : List Pt} (h : OwnPts W g l) : Pts W (some ⟨g, 0, none⟩) l := Pts.of_cells h.1 (fun i hi => (h.2 i hi).1)
theorem clonePt_any (l : List Pt) (A : Option Addr) (c : Nat) (w : World) (h0 : 0 < l.length) (hl : l.length ≤ 1000000000) (hA : Pts w A l) :
    Calls Tryz.prog 78 #[.slice A l.length c] w fun e w' => ∃ g c', e = .returned (.slice (some ⟨g, 0, none⟩) l.length c') ∧ w.heap.size ≤ g ∧ OwnPts w' g l ∧ l.length ≤ c' ∧ c' ≤ maxLen ∧ Ext w w' := by
  obtain ⟨b, o, rfl, hb⟩ := hA.some_ h0
  obtain ⟨i0, hi, hz, hs, hby⟩ := info_pt
  refine (AnyE.slices_Clone Tryz.laysClonePt i0 zpt 2 16 hi hz hs hby rfl (by decide) (fun w => by show Sem.run Tryz.prog (Go.sizeOf 73) w = _; go_simp) b o l.length c (l.flatMap ptC) w (rowlen l) (Nat.le_trans hl (by decide)) (by omega) (fun j u hu => ?_) (fun u hu => ?_)).mono ?_
  · have hj : j < l.length * 2 := by rw [← rowlen]; exact (List.getElem?_eq_some_iff.1 hu).1
    rw [rowcells hj] at hu
    rw [hA.cellv_ hj]; exact hu
  · obtain ⟨p, _, hu⟩ := List.mem_flatMap.1 hu
    simp only [ptC, List.mem_cons, List.not_mem_nil, or_false] at hu
    rcases hu with rfl | rfl <;> rfl
  · rintro e w' ⟨v', rfl, ⟨_, hv⟩, _, hE⟩
    rcases hv with ⟨_, h⟩ | ⟨g, cap, cur, rfl, hg, hc, hn, hm, hsz, htk⟩
    · omega
    · refine ⟨g, cap, rfl, hg, ⟨(Array.getElem?_eq_some_iff.1 hc).1, fun i hi => ?_⟩, hn, hm, hE⟩
      have : cur[i]? = some (cellv l i) := by
        rw [← Array.getElem?_toList, ← List.getElem?_take_of_lt hi, htk, rowcells hi]
      exact ⟨by simp [World.cell?, hc, this], by simp [World.frozen?, hc]⟩
end Go.Proofs.YtompfgofaplffaaGreatDoor

namespace Go.Proofs.YtompfgofaplffaaGreatDoor
open Go.RowKit Hach

theorem OwnPts.keep {W W' : World} {g : Nat} {l : List Pt} (h : OwnPts W g l) (hE : Ext W W') : OwnPts W' g l := by
  have hb := hE.below.block g h.1
  refine ⟨Nat.lt_of_lt_of_le h.1 hE.sz, fun i hi => ⟨cell_ext hE (h.2 i hi).1, ?_⟩⟩
  rw [← (h.2 i hi).2]
  simp only [World.frozen?, hb]
def clS (B : Nat) (l : List Pt) : SP := ⟨fun v W => ∃ g c', v = .slice (some ⟨g, 0, none⟩) l.length c' ∧ B ≤ g ∧ OwnPts W g l ∧ l.length ≤ c' ∧ c' ≤ maxLen, fun h hE => by
  obtain ⟨g, c', e, hb, ho, h1, h2⟩ := h
  exact ⟨g, c', e, hb, ho.keep hE, h1, h2⟩⟩
set_option maxHeartbeats 1000000 in
theorem rest_any (m : Mp) (a : Ma) (k n : Nat) (v2 v3 v4 v5 v6 v7 : Value) (w : World) (hm : MpAt w a m) (hk : k < m.edges.length) (hn : n + 1 < (ed m.edges k).line.length) (hl : (ed m.edges k).line.length ≤ 1000000000) :
    Calls Tryz.prog 69 #[.agg #[.int .i64 k, .int .i64 n, v2, v3, v4, v5, v6, v7], .agg (a.cells m).toArray] w fun e w' => ∃ g c', e = .returned (.slice (some ⟨g, 0, none⟩) ((ed m.edges k).line.eraseIdx n).length c') ∧
      Pts w' (some ⟨g, 0, none⟩) ((ed m.edges k).line.eraseIdx n) ∧ ((ed m.edges k).line.eraseIdx n).length ≤ c' ∧ Ext w w' := by
  have hlen : ((ed m.edges k).line.eraseIdx n).length = (ed m.edges k).line.length - 1 := List.length_eraseIdx_of_lt (by omega)
  rw [hlen]
  have hE1 := Ext.alloc w (.cells #[.int .i64 k, .int .i64 n, v2, v3, v4, v5, v6, v7] 101)
  have hE2 := Ext.trans hE1 (Ext.alloc (w.alloc (.cells #[.int .i64 k, .int .i64 n, v2, v3, v4, v5, v6, v7] 101)) (.cells (a.cells m).toArray 41))
  obtain ⟨V, hV, hEV, hBV⟩ := boxes w [.cells #[.int .i64 k, .int .i64 n, v2, v3, v4, v5, v6, v7] 101, .cells (a.cells m).toArray 41]
  have HM := Lib.hid (fun W (h : Ext V W) => hm.keep (Ext.trans hEV h))
  have HB := Lib.hid hBV
  have HE := Lib.hid hEV
  have HV : Hid ((w.alloc (.cells #[.int .i64 k, .int .i64 n, v2, v3, v4, v5, v6, v7] 101)).alloc (.cells (a.cells m).toArray 41) = V) := Lib.hid hV
  have HSZ := Lib.hid hEV.sz
  clear hE1 hE2 hEV hBV hV hm
  generalize hsz : w.heap.size = sz at *
  obtain ⟨b, o, hA, hb⟩ : ∃ b o, a.ea = some ⟨b, o, none⟩ ∧ b < V.heap.size := ((HM.out V (Ext.refl _)).edges.1).some_ (by omega)
  have HQ := Lib.hid (fun W (h : Ext V.drew W) => by
    have h' := Ext.trans (Ext.drew V) h
    have b0 : W.heap[sz]? = _ := HB.out W h' 0 _ rfl
    have b1 : W.heap[sz + 1]? = _ := HB.out W h' 1 _ rfl
    have hr := (HM.out W h').edges.1
    rw [hA] at hr
    exact And.intro (cells_of b0 0 (.int .i64 k) rfl) (And.intro (cells_of b0 1 (.int .i64 n) rfl) (And.intro (cells_of b1 0 (.slice (some ⟨b, o, none⟩) m.edges.length a.ec) (by rw [← hA]; rfl)) (hr.cell (j := k) (i := 1) hk rfl))))
  have HC := Lib.hid (fun W (h : Ext V.drew W) => clonePt_any (ed m.edges k).line (a.el.a k) (a.el.c k) W (by omega) hl ((HM.out W (Ext.trans (Ext.drew V) h)).edges.2 k hk).1)
  have HD := Lib.hid (fun g c W (h1 : (ed m.edges k).line.length ≤ c) (h2 : c ≤ maxLen) (h : OwnPts W g (ed m.edges k).line) => delPt_any (ed m.edges k).line g c n W hn h1 h2 h.2)
  have HN := Lib.hid hn
  clear HM HB
  clear hlen
  generalize (ed m.edges k).line = l at *
  have e1 : IntKind.i64.wrap ((n : Int) + 1) = ((n + 1 : Nat) : Int) := by rw [IntWalk.i64_in _ (by omega)]; omega
  go_enter Tryz.func69, Tryz.ntmps69
  go_wp2_with fail
  rw [HV.out]
  apply wp_region_seq (l := [_, _, _, _, _, _, _, _, _, _, _, _, _]) (t := [_, _]) [some 5, some 6, some 7, some 8, some 9, some 10, some 11, some 12, some 13, some 14, some 15, some 16, some 17, some 18, some 4] [[], [0], [], [2], [1, 3], [4], [5], [6], [], [8], [], [10], [11], [7, 9, 12], [13]] [1, 4, 3, 4, 5, 6, 7, 13, 9, 13, 11, 12, 13] [eqv _, eqv _, eqv _, eqv _, eqv _, eqv _, (eqv (.slice (a.el.a k) l.length (a.el.c k))), (clS sz l), eqv _, eqv _, eqv _, eqv _, (eqv (.int .i64 ((n + 1 : Nat) : Int)))] (by kernel_rfl) (by kernel_rfl) ⟨?o0, ?o1, ?o2, ?o3, ?o4, ?o5, ?o6, ?o7, ?o8, ?o9, ?o10, ?o11, ?o12, trivial⟩ ?last
  case o0 => -- Op.fieldAddr 41 (Operand.tmp 3) 0
    intro xv W hE _
    simp only [putD, List.foldl_nil, List.getD_cons_zero]
    refine OpGoal.plain ?_
    go_wp2_with fail
    exact ⟨rfl, Ext.refl _, rfl⟩
  case o1 => -- Op.load 36 (Operand.tmp 5)
    intro xv W hE hp
    have r0 : xv 0 = _ := hp.1
    clear hp
    obtain ⟨c0, c1, c2, c3⟩ := HQ.out W hE
    simp only [putD, List.foldl_nil, List.foldl_cons, List.getD_cons_zero, List.getD_cons_succ, Act.put, List.setIfInBounds_toArray, List.set_cons_zero, List.set_cons_succ]
    refine OpGoal.plain ?_
    go_wp2_with fail
    exact ⟨rfl, Ext.refl _, rfl⟩
  case o2 => -- Op.fieldAddr 101 (Operand.tmp 2) 0
    intro xv W hE _
    simp only [putD, List.foldl_nil, List.getD_cons_zero, List.getD_cons_succ]
    refine OpGoal.plain ?_
    go_wp2_with fail
    exact ⟨rfl, Ext.refl _, rfl⟩
  case o3 => -- Op.load 3 (Operand.tmp 7)
    intro xv W hE hp
    have r2 : xv 2 = _ := hp.1
    clear hp
    obtain ⟨c0, c1, c2, c3⟩ := HQ.out W hE
    simp only [putD, List.foldl_nil, List.foldl_cons, List.getD_cons_zero, List.getD_cons_succ, Act.put, List.setIfInBounds_toArray, List.set_cons_zero, List.set_cons_succ]
    refine OpGoal.plain ?_
    go_wp2_with fail
    exact ⟨rfl, Ext.refl _, rfl⟩
  case o4 => -- Op.indexAddr 36 (Operand.tmp 6) (Operand.tmp 8)
    intro xv W hE hp
    have r1 : xv 1 = _ := hp.1
    have r3 : xv 3 = _ := hp.2.1
    clear hp
    simp only [putD, List.foldl_nil, List.foldl_cons, List.getD_cons_zero, List.getD_cons_succ, Act.put, List.setIfInBounds_toArray, List.set_cons_zero, List.set_cons_succ]
    refine OpGoal.plain ?_
    go_wp2_with fail
    exact ⟨rfl, Ext.refl _, rfl⟩
  case o5 => -- Op.fieldAddr 77 (Operand.tmp 9) 1
    intro xv W hE hp
    have r4 : xv 4 = _ := hp.1
    clear hp
    simp only [putD, List.foldl_nil, List.foldl_cons, List.getD_cons_zero, List.getD_cons_succ, Act.put, List.setIfInBounds_toArray, List.set_cons_zero, List.set_cons_succ]
    refine OpGoal.plain ?_
    go_wp2_with fail
    exact ⟨rfl, Ext.refl _, rfl⟩
  case o6 => -- Op.load 75 (Operand.tmp 10)
    intro xv W hE hp
    have r5 : xv 5 = _ := hp.1
    clear hp
    obtain ⟨c0, c1, c2, c3⟩ := HQ.out W hE
    simp only [putD, List.foldl_nil, List.foldl_cons, List.getD_cons_zero, List.getD_cons_succ, Act.put, List.setIfInBounds_toArray, List.set_cons_zero, List.set_cons_succ]
    refine OpGoal.plain ?_
    go_wp2_with fail
    exact ⟨rfl, Ext.refl _, rfl⟩
  case o7 => -- Op.call { callee := Callee.value (Operand.func 78), args := #[Operand.tmp 11], a
    intro xv W hE hp
    have r6 : xv 6 = _ := hp.1
    clear hp
    simp only [putD, List.foldl_nil, List.foldl_cons, List.getD_cons_zero, List.getD_cons_succ, Act.put, List.setIfInBounds_toArray, List.set_cons_zero, List.set_cons_succ]
    refine OpGoal.plain ?_
    go_wp2_with fail
    refine (HC.out W hE).mono ?_
    rintro e w' ⟨g, c', rfl, hg, ho, h1, h2, hE'⟩
    go_wp2_with fail
    exact ⟨rfl, hE', g, c', rfl, Nat.le_trans HSZ.out (Nat.le_trans (Ext.trans (Ext.drew V) hE).sz hg), ho, h1, h2⟩
  case o8 => -- Op.fieldAddr 101 (Operand.tmp 2) 1
    intro xv W hE _
    simp only [putD, List.foldl_nil, List.getD_cons_zero, List.getD_cons_succ]
    refine OpGoal.plain ?_
    go_wp2_with fail
    exact ⟨rfl, Ext.refl _, rfl⟩
  case o9 => -- Op.load 3 (Operand.tmp 13)
    intro xv W hE hp
    have r8 : xv 8 = _ := hp.1
    clear hp
    obtain ⟨c0, c1, c2, c3⟩ := HQ.out W hE
    simp only [putD, List.foldl_nil, List.foldl_cons, List.getD_cons_zero, List.getD_cons_succ, Act.put, List.setIfInBounds_toArray, List.set_cons_zero, List.set_cons_succ]
    refine OpGoal.plain ?_
    go_wp2_with fail
    exact ⟨rfl, Ext.refl _, rfl⟩
  case o10 => -- Op.fieldAddr 101 (Operand.tmp 2) 1
    intro xv W hE _
    simp only [putD, List.foldl_nil, List.getD_cons_zero, List.getD_cons_succ]
    refine OpGoal.plain ?_
    go_wp2_with fail
    exact ⟨rfl, Ext.refl _, rfl⟩
  case o11 => -- Op.load 3 (Operand.tmp 15)
    intro xv W hE hp
    have r10 : xv 10 = _ := hp.1
    clear hp
    obtain ⟨c0, c1, c2, c3⟩ := HQ.out W hE
    simp only [putD, List.foldl_nil, List.foldl_cons, List.getD_cons_zero, List.getD_cons_succ, Act.put, List.setIfInBounds_toArray, List.set_cons_zero, List.set_cons_succ]
    refine OpGoal.plain ?_
    go_wp2_with fail
    exact ⟨rfl, Ext.refl _, rfl⟩
  case o12 => -- Op.binOp BinOp.add 3 (Operand.tmp 16) (Operand.const (Value.int IntKind.i64 1)) 
    intro xv W hE hp
    have r11 : xv 11 = _ := hp.1
    clear hp
    simp only [putD, List.foldl_nil, List.foldl_cons, List.getD_cons_zero, List.getD_cons_succ, Act.put, List.setIfInBounds_toArray, List.set_cons_zero, List.set_cons_succ]
    refine OpGoal.plain ?_
    go_wp2_with fail
    exact ⟨rfl, Ext.refl _, rfl⟩
  case last =>
    intro xv W hE hp
    have r0 : xv 0 = _ := hp.1
    have r1 : xv 1 = _ := hp.2.1
    have r2 : xv 2 = _ := hp.2.2.1
    have r3 : xv 3 = _ := hp.2.2.2.1
    have r4 : xv 4 = _ := hp.2.2.2.2.1
    have r5 : xv 5 = _ := hp.2.2.2.2.2.1
    have r6 : xv 6 = _ := hp.2.2.2.2.2.2.1
    obtain ⟨g7, d7, r7, lo7, own7, le7, mx7⟩ := hp.2.2.2.2.2.2.2.1
    have r8 : xv 8 = _ := hp.2.2.2.2.2.2.2.2.1
    have r9 : xv 9 = _ := hp.2.2.2.2.2.2.2.2.2.1
    have r10 : xv 10 = _ := hp.2.2.2.2.2.2.2.2.2.2.1
    have r11 : xv 11 = _ := hp.2.2.2.2.2.2.2.2.2.2.2.1
    have r12 : xv 12 = _ := hp.2.2.2.2.2.2.2.2.2.2.2.2.1
    clear hp
    simp only [putD, List.foldl_nil, List.foldl_cons, List.getD_cons_zero, List.getD_cons_succ, Act.put, List.length_cons, List.length_nil, List.range_succ, List.range_zero, List.nil_append, List.cons_append, List.setIfInBounds_toArray, List.set_cons_zero, List.set_cons_succ]
    simp only [r7, r9, r12]
    go_wp2_with fail
    refine (HD.out g7 d7 W le7 mx7 own7).mono ?_
    rintro e w' ⟨rfl, hcell, hbl⟩
    have hE2 : Ext w w' := by
      have h1 : Ext w W := Ext.trans HE.out (Ext.trans (Ext.drew V) hE)
      have h2 := hbl sz lo7
      rw [← hsz] at h2
      exact Below.trans h1 h2
    have hp : Pts w' (some ⟨g7, 0, none⟩) (l.eraseIdx n) := Pts.of_cells (Nat.lt_of_lt_of_le own7.1 (hbl sz lo7).size) (fun i hi => by
      rw [List.length_eraseIdx_of_lt (by have := HN.out; omega)] at hi
      rw [hcell i hi, cellv_erase])
    go_wp2_with fail
    go_ret
    exact ⟨g7, d7, rfl, hp, Nat.le_trans (Nat.sub_le _ _) le7, hE2⟩
end Go.Proofs.YtompfgofaplffaaGreatDoor

namespace Go.Proofs.YtompfgofaplffaaGreatDoor
open Go.RowKit Hach

def corV (l : List Pt) (k n : Nat) : Array Value := #[.int .i64 k, .int .i64 n, .int .i64 (gp l (n - 1)).x, .int .i64 (gp l (n - 1)).y, .int .i64 (gp l n).x, .int .i64 (gp l n).y, .int .i64 (gp l (n + 1)).x, .int .i64 (gp l (n + 1)).y]
theorem Ma.box {a : Ma} {m : Mp} {W : World} {B : Nat} {T : TypeId} (h : W.heap[B]? = some (.cells (a.cells m).toArray T (0, 0))) :
    W.cell? ⟨B, 0, none⟩ = some (.slice a.ea m.edges.length a.ec) ∧ W.cell? ⟨B, 1, none⟩ = some (.slice a.fa m.faces.length a.fc) ∧ W.cell? ⟨B, 2, none⟩ = some (.slice a.wa m.ways.length a.wc) ∧ W.cell? ⟨B, 3, none⟩ = some (.slice a.pa m.places.length a.pc) :=
  ⟨cells_of h 0 _ rfl, cells_of h 1 _ rfl, cells_of h 2 _ rfl, cells_of h 3 _ rfl⟩
def zCor : Array Value := #[.int .i64 0, .int .i64 0, .int .i64 0, .int .i64 0, .int .i64 0, .int .i64 0, .int .i64 0, .int .i64 0]
theorem cor_info : (Tryz.prog.info? 101).map (·.size) = some 8 := by kernel_rfl
set_option maxHeartbeats 1000000 in
theorem at_any (m : Mp) (a : Ma) (id : Int) (k n : Nat) (w : World) (hm : MpAt w a m) (hk : k < m.edges.length) (hid : edAt m.edges id = k) (h1 : 1 ≤ n) (hn : n + 1 < (ed m.edges k).line.length) :
    Calls Tryz.prog 66 #[.agg (a.cells m).toArray, .int .i64 id, .int .i64 n] w fun e w' => e = .returned (.tuple #[.agg (corV (ed m.edges k).line k n), .int .i64 0]) ∧ Ext w w' := by
  have HF : Hid (∀ W, MpAt W a m → Calls Tryz.prog 79 #[.agg #[.slice a.ea m.edges.length a.ec, .slice a.fa m.faces.length a.fc, .slice a.wa m.ways.length a.wc, .slice a.pa m.places.length a.pc], .int .i64 id] W fun e w' => e = .returned (.int .i64 k) ∧ Ext W w') := Lib.hid (fun W h => by have := find_any m a id W h; rw [hid] at this; exact this)
  obtain ⟨V, hV, hEV, hBV⟩ := boxes w [.cells (a.cells m).toArray 41, .cells zCor 101]
  have HV : Hid ((w.alloc (.cells (a.cells m).toArray 41)).alloc (.cells #[.int .i64 0, .int .i64 0, .int .i64 0, .int .i64 0, .int .i64 0, .int .i64 0, .int .i64 0, .int .i64 0] 101) = V) := Lib.hid hV
  have HQ := Lib.hid (fun W (h : Ext V W) => by
    have b0 : W.heap[w.heap.size]? = _ := hBV W h 0 _ rfl
    have b1 : W.heap[w.heap.size + 1]? = _ := hBV W h 1 _ rfl
    exact And.intro (Ma.box b0) b1)
  have HM := Lib.hid (fun W (h : Ext V W) => hm.keep (Ext.trans hEV h))
  have hll := (hm.edges.2 k hk).2.1
  have HE := Lib.hid hEV
  obtain ⟨b, o, hA, hb⟩ : ∃ b o, a.ea = some ⟨b, o, none⟩ ∧ b < V.heap.size := ((hm.keep hEV).edges.1).some_ (by omega)
  have HR := Lib.hid (fun W (h : Ext V W) => (hm.keep (Ext.trans hEV h)).edges.1)
  rw [hA] at HR
  have HP := Lib.hid (fun W (h : Ext V W) => ((hm.keep (Ext.trans hEV h)).edges.2 k hk).1)
  have HK := Lib.hid hk
  have HX := Lib.hid hA
  have hZ := (HQ.out V (Ext.refl _)).1
  clear hm hV hEV hBV hid hA
  obtain ⟨z0, z1, z2, z3⟩ := hZ
  generalize hsz : w.heap.size = sz at *
  rw [← HV.out] at z0 z1 z2 z3
  obtain ⟨b2, o2, hB2, _⟩ := (HP.out V (Ext.refl _)).some_ (by omega)
  have HB2 := Lib.hid hB2
  rw [hB2] at HP
  have HQ8 := Lib.hid (fun W (h : Ext V W) => And.intro (RowAt.cell (HP.out W h) (j := n - 1) (i := 0) (by omega) rfl) (And.intro (RowAt.cell (HP.out W h) (j := n - 1) (i := 1) (by omega) rfl) (And.intro (RowAt.cell (HP.out W h) (j := n) (i := 0) (by omega) rfl) (And.intro (RowAt.cell (HP.out W h) (j := n) (i := 1) (by omega) rfl)
    (And.intro (RowAt.cell (HP.out W h) (j := n + 1) (i := 0) (by omega) rfl) (RowAt.cell (HP.out W h) (j := n + 1) (i := 1) (by omega) rfl))))))
  have HQ1 := Lib.hid (fun W (h : Ext V W) => RowAt.cell (HR.out W h) (j := k) (i := 1) (v := .slice (some ⟨b2, o2, none⟩) (ed m.edges k).line.length (a.el.c k)) HK.out (by rw [← hB2]; rfl))
  clear HP HR hB2
  unfold corV
  generalize (ed m.edges k).line = l at *
  generalize gp l (n - 1) = p1 at *
  generalize gp l n = p2 at *
  generalize gp l (n + 1) = p3 at *
  have e1 : IntKind.i64.wrap ((n : Int) - 1) = ((n - 1 : Nat) : Int) := by rw [IntWalk.i64_in _ (by omega)]; omega
  have e2 : IntKind.i64.wrap ((n : Int) + 1) = ((n + 1 : Nat) : Int) := by rw [IntWalk.i64_in _ (by omega)]; omega
  have hn1 : n - 1 < l.length := by omega
  have hn2 : n < l.length := by omega
  go_enter Tryz.func66, Tryz.ntmps66
  go_wp2_with fail
  rw [HV.out]
  refine (HF.out V (HM.out V (Ext.refl _))).mono ?_
  rintro e w' ⟨rfl, hE⟩
  have HEW := Lib.hid (Ext.trans HE.out hE)
  obtain ⟨⟨c0, c1, c2, c3⟩, bZ⟩ := HQ.out w' hE
  have q1 := HQ1.out w' hE
  rw [HX.out] at c0
  clear z0 z1 z2 z3
  have t1 : decide ((k : Int) < 0) = false := by simp
  have t2 : decide ((n : Int) < 1) = false := by simp; omega
  go_wp2_with fail
  have HZW := Lib.hid (fun W (h : Ext w'.drew W) => blk_ext bZ (Ext.trans (Ext.drew w') h))
  have HQ7 := Lib.hid (fun W (h : Ext w'.drew W) => HQ8.out W (Ext.trans hE (Ext.trans (Ext.drew w') h)))
  clear c0 c1 c2 c3 q1 bZ HQ8
  apply wp_region_seq (l := [_, _, _, _, _, _, _, _, _, _, _, _, _, _, _, _, _]) (t := [_, _]) [some 32, some 33, some 34, some 35, some 36, some 37, some 38, some 39, some 40, some 41, some 42, some 43, some 44, some 45, some 46, some 47, some 48, none, some 7] [[], [], [], [], [3], [2, 4], [5], [], [], [7, 8], [9], [], [], [12], [11, 13], [14], [0, 1, 6, 10, 15], [16], []] [17, 17, 17, 17, 17, 17, 17, 17, 17, 17, 17, 17, 17, 17, 17, 17, 17] [eqv _, eqv _, eqv _, eqv _, (eqv (.int .i64 ((n - 1 : Nat) : Int))), eqv _, eqv _, eqv _, eqv _, eqv _, eqv _, eqv _, eqv _, (eqv (.int .i64 ((n + 1 : Nat) : Int))), eqv _, eqv _, eqv _] (by kernel_rfl) (by kernel_rfl) ⟨?o0, ?o1, ?o2, ?o3, ?o4, ?o5, ?o6, ?o7, ?o8, ?o9, ?o10, ?o11, ?o12, ?o13, ?o14, ?o15, ?o16, trivial⟩ ?last
  case o0 => -- Op.move (Operand.tmp 8)
    intro xv W hE _
    simp only [putD, List.foldl_nil, List.getD_cons_zero]
    refine OpGoal.plain ?_
    go_wp2_with fail
    exact ⟨rfl, Ext.refl _, rfl⟩
  case o1 => -- Op.move (Operand.tmp 2)
    intro xv W hE _
    simp only [putD, List.foldl_nil, List.getD_cons_zero, List.getD_cons_succ]
    refine OpGoal.plain ?_
    go_wp2_with fail
    exact ⟨rfl, Ext.refl _, rfl⟩
  case o2 => -- Op.move (Operand.tmp 9)
    intro xv W hE _
    simp only [putD, List.foldl_nil, List.getD_cons_zero, List.getD_cons_succ]
    refine OpGoal.plain ?_
    go_wp2_with fail
    exact ⟨rfl, Ext.refl _, rfl⟩
  case o3 => -- Op.move (Operand.tmp 2)
    intro xv W hE _
    simp only [putD, List.foldl_nil, List.getD_cons_zero, List.getD_cons_succ]
    refine OpGoal.plain ?_
    go_wp2_with fail
    exact ⟨rfl, Ext.refl _, rfl⟩
  case o4 => -- Op.binOp BinOp.sub 3 (Operand.tmp 35) (Operand.const (Value.int IntKind.i64 1)) 
    intro xv W hE hp
    have r3 : xv 3 = _ := hp.1
    clear hp
    simp only [putD, List.foldl_nil, List.foldl_cons, List.getD_cons_zero, List.getD_cons_succ, Act.put, List.setIfInBounds_toArray, List.set_cons_zero, List.set_cons_succ]
    refine OpGoal.plain ?_
    go_wp2_with fail
    exact ⟨rfl, Ext.refl _, rfl⟩
  case o5 => -- Op.indexAddr 75 (Operand.tmp 34) (Operand.tmp 36)
    intro xv W hE hp
    have r2 : xv 2 = _ := hp.1
    have r4 : xv 4 = _ := hp.2.1
    clear hp
    simp only [putD, List.foldl_nil, List.foldl_cons, List.getD_cons_zero, List.getD_cons_succ, Act.put, List.setIfInBounds_toArray, List.set_cons_zero, List.set_cons_succ]
    refine OpGoal.plain ?_
    go_wp2_with fail
    exact ⟨rfl, Ext.refl _, rfl⟩
  case o6 => -- Op.load 73 (Operand.tmp 37)
    intro xv W hE hp
    have r5 : xv 5 = _ := hp.1
    clear hp
    obtain ⟨c0, c1, c2, c3, c4, c5⟩ := HQ7.out W hE
    simp only [Nat.add_zero] at c0 c1 c2 c3 c4 c5
    simp only [putD, List.foldl_nil, List.foldl_cons, List.getD_cons_zero, List.getD_cons_succ, Act.put, List.setIfInBounds_toArray, List.set_cons_zero, List.set_cons_succ]
    refine OpGoal.plain ?_
    go_wp2_with fail
    exact ⟨rfl, Ext.refl _, rfl⟩
  case o7 => -- Op.move (Operand.tmp 9)
    intro xv W hE _
    simp only [putD, List.foldl_nil, List.getD_cons_zero, List.getD_cons_succ]
    refine OpGoal.plain ?_
    go_wp2_with fail
    exact ⟨rfl, Ext.refl _, rfl⟩
  case o8 => -- Op.move (Operand.tmp 2)
    intro xv W hE _
    simp only [putD, List.foldl_nil, List.getD_cons_zero, List.getD_cons_succ]
    refine OpGoal.plain ?_
    go_wp2_with fail
    exact ⟨rfl, Ext.refl _, rfl⟩
  case o9 => -- Op.indexAddr 75 (Operand.tmp 39) (Operand.tmp 40)
    intro xv W hE hp
    have r7 : xv 7 = _ := hp.1
    have r8 : xv 8 = _ := hp.2.1
    clear hp
    simp only [putD, List.foldl_nil, List.foldl_cons, List.getD_cons_zero, List.getD_cons_succ, Act.put, List.setIfInBounds_toArray, List.set_cons_zero, List.set_cons_succ]
    refine OpGoal.plain ?_
    go_wp2_with fail
    exact ⟨rfl, Ext.refl _, rfl⟩
  case o10 => -- Op.load 73 (Operand.tmp 41)
    intro xv W hE hp
    have r9 : xv 9 = _ := hp.1
    clear hp
    obtain ⟨c0, c1, c2, c3, c4, c5⟩ := HQ7.out W hE
    simp only [Nat.add_zero] at c0 c1 c2 c3 c4 c5
    simp only [putD, List.foldl_nil, List.foldl_cons, List.getD_cons_zero, List.getD_cons_succ, Act.put, List.setIfInBounds_toArray, List.set_cons_zero, List.set_cons_succ]
    refine OpGoal.plain ?_
    go_wp2_with fail
    exact ⟨rfl, Ext.refl _, rfl⟩
  case o11 => -- Op.move (Operand.tmp 9)
    intro xv W hE _
    simp only [putD, List.foldl_nil, List.getD_cons_zero, List.getD_cons_succ]
    refine OpGoal.plain ?_
    go_wp2_with fail
    exact ⟨rfl, Ext.refl _, rfl⟩
  case o12 => -- Op.move (Operand.tmp 2)
    intro xv W hE _
    simp only [putD, List.foldl_nil, List.getD_cons_zero, List.getD_cons_succ]
    refine OpGoal.plain ?_
    go_wp2_with fail
    exact ⟨rfl, Ext.refl _, rfl⟩
  case o13 => -- Op.binOp BinOp.add 3 (Operand.tmp 44) (Operand.const (Value.int IntKind.i64 1)) 
    intro xv W hE hp
    have r12 : xv 12 = _ := hp.1
    clear hp
    simp only [putD, List.foldl_nil, List.foldl_cons, List.getD_cons_zero, List.getD_cons_succ, Act.put, List.setIfInBounds_toArray, List.set_cons_zero, List.set_cons_succ]
    refine OpGoal.plain ?_
    go_wp2_with fail
    exact ⟨rfl, Ext.refl _, rfl⟩
  case o14 => -- Op.indexAddr 75 (Operand.tmp 43) (Operand.tmp 45)
    intro xv W hE hp
    have r11 : xv 11 = _ := hp.1
    have r13 : xv 13 = _ := hp.2.1
    clear hp
    simp only [putD, List.foldl_nil, List.foldl_cons, List.getD_cons_zero, List.getD_cons_succ, Act.put, List.setIfInBounds_toArray, List.set_cons_zero, List.set_cons_succ]
    refine OpGoal.plain ?_
    go_wp2_with fail
    exact ⟨rfl, Ext.refl _, rfl⟩
  case o15 => -- Op.load 73 (Operand.tmp 46)
    intro xv W hE hp
    have r14 : xv 14 = _ := hp.1
    clear hp
    obtain ⟨c0, c1, c2, c3, c4, c5⟩ := HQ7.out W hE
    simp only [Nat.add_zero] at c0 c1 c2 c3 c4 c5
    simp only [putD, List.foldl_nil, List.foldl_cons, List.getD_cons_zero, List.getD_cons_succ, Act.put, List.setIfInBounds_toArray, List.set_cons_zero, List.set_cons_succ]
    refine OpGoal.plain ?_
    go_wp2_with fail
    exact ⟨rfl, Ext.refl _, rfl⟩
  case o16 => -- Op.build 101 #[(0, Operand.tmp 32), (1, Operand.tmp 33), (2, Operand.tmp 38), (3
    intro xv W hE hp
    have r0 : xv 0 = _ := hp.1
    have r1 : xv 1 = _ := hp.2.1
    have r6 : xv 6 = _ := hp.2.2.1
    have r10 : xv 10 = _ := hp.2.2.2.1
    have r15 : xv 15 = _ := hp.2.2.2.2.1
    clear hp
    simp only [putD, List.foldl_nil, List.foldl_cons, List.getD_cons_zero, List.getD_cons_succ, Act.put, List.setIfInBounds_toArray, List.set_cons_zero, List.set_cons_succ]
    refine OpGoal.plain ?_
    go_wp2_with fail
    exact ⟨rfl, Ext.refl _, rfl⟩
  case last =>
    intro xv W hE hp
    have r0 : xv 0 = _ := hp.1
    have r1 : xv 1 = _ := hp.2.1
    have r2 : xv 2 = _ := hp.2.2.1
    have r3 : xv 3 = _ := hp.2.2.2.1
    have r4 : xv 4 = _ := hp.2.2.2.2.1
    have r5 : xv 5 = _ := hp.2.2.2.2.2.1
    have r6 : xv 6 = _ := hp.2.2.2.2.2.2.1
    have r7 : xv 7 = _ := hp.2.2.2.2.2.2.2.1
    have r8 : xv 8 = _ := hp.2.2.2.2.2.2.2.2.1
    have r9 : xv 9 = _ := hp.2.2.2.2.2.2.2.2.2.1
    have r10 : xv 10 = _ := hp.2.2.2.2.2.2.2.2.2.2.1
    have r11 : xv 11 = _ := hp.2.2.2.2.2.2.2.2.2.2.2.1
    have r12 : xv 12 = _ := hp.2.2.2.2.2.2.2.2.2.2.2.2.1
    have r13 : xv 13 = _ := hp.2.2.2.2.2.2.2.2.2.2.2.2.2.1
    have r14 : xv 14 = _ := hp.2.2.2.2.2.2.2.2.2.2.2.2.2.2.1
    have r15 : xv 15 = _ := hp.2.2.2.2.2.2.2.2.2.2.2.2.2.2.2.1
    have r16 : xv 16 = _ := hp.2.2.2.2.2.2.2.2.2.2.2.2.2.2.2.2.1
    clear hp
    simp only [putD, List.foldl_nil, List.foldl_cons, List.getD_cons_zero, List.getD_cons_succ, Act.put, List.length_cons, List.length_nil, List.range_succ, List.range_zero, List.nil_append, List.cons_append, List.setIfInBounds_toArray, List.set_cons_zero, List.set_cons_succ]
    simp only [r16]
    have bz : W.heap[sz + 1]? = some (.cells zCor.toList.toArray 101 (0, 0)) := HZW.out W hE
    refine store_TE 101 101 (sz + 1) zCor.toList [.int .i64 k, .int .i64 n, .int .i64 p1.x, .int .i64 p1.y, .int .i64 p2.x, .int .i64 p2.y, .int .i64 p3.x, .int .i64 p3.y] bz rfl cor_info ?one rfl _ _ rfl rfl rfl ?_
    case one =>
      intro v hv
      simp only [List.mem_cons, List.not_mem_nil, or_false] at hv
      rcases hv with rfl | rfl | rfl | rfl | rfl | rfl | rfl | rfl <;> rfl
    intro W2 hx2 hg2
    have y0 := cells_of hx2 0 _ rfl
    have y1 := cells_of hx2 1 _ rfl
    have y2 := cells_of hx2 2 _ rfl
    have y3 := cells_of hx2 3 _ rfl
    have y4 := cells_of hx2 4 _ rfl
    have y5 := cells_of hx2 5 _ rfl
    have y6 := cells_of hx2 6 _ rfl
    have y7 := cells_of hx2 7 _ rfl
    go_wp2_with fail
    refine bodyPost_ret (v := .tuple #[.agg #[.int .i64 k, .int .i64 n, .int .i64 p1.x, .int .i64 p1.y, .int .i64 p2.x, .int .i64 p2.y, .int .i64 p3.x, .int .i64 p3.y], .int .i64 0]) (by simp [results, Tryz.f66, go_sem, y0, y1, y2, y3, y4, y5, y6, y7]) rfl ⟨rfl, ?_⟩
    have h1 : Ext w W := Ext.trans HEW.out (Ext.trans (Ext.drew w') hE)
    exact Below.trans h1 (below_rowE hg2 h1.sz (fun g e => by simp only [Option.some.injEq] at e; omega))
end Go.Proofs.YtompfgofaplffaaGreatDoor

namespace Go.Proofs.YtompfgofaplffaaGreatDoor
open Go.RowKit Hach

set_option maxHeartbeats 2000000 in
theorem dcan_any (m : Mp) (a : Ma) (id : Int) (k n : Nat) (w : World) (hm : MpAt w a m) (hk : k < m.edges.length) (hid : edAt m.edges id = k) (h1 : 1 ≤ n) (hn : n + 1 < (ed m.edges k).line.length) (hl : (ed m.edges k).line.length ≤ 1000000000)
    (hd : disE m.faces (ed m.edges k).left (ed m.edges k).right ≠ 0) (hch : chkLn ((ed m.edges k).line.eraseIdx n) ≠ 0) :
    Calls Tryz.prog 35 #[.agg (a.cells m).toArray, .int .i64 id, .int .i64 n] w fun e w' => e = .returned (.int .i64 11) ∧ Ext w w' := by
  have HAT : Hid (∀ W, MpAt W a m → Calls Tryz.prog 66 #[.agg #[.slice a.ea m.edges.length a.ec, .slice a.fa m.faces.length a.fc, .slice a.wa m.ways.length a.wc, .slice a.pa m.places.length a.pc], .int .i64 id, .int .i64 n] W fun e w' => e = .returned (.tuple #[.agg (corV (ed m.edges k).line k n), .int .i64 0]) ∧ Ext W w') := Lib.hid (fun W h => at_any m a id k n W h hk hid h1 hn)
  have HDI : Hid (∀ W, MpAt W a m → Calls Tryz.prog 67 #[.agg #[.slice a.ea m.edges.length a.ec, .slice a.fa m.faces.length a.fc, .slice a.wa m.ways.length a.wc, .slice a.pa m.places.length a.pc], .agg #[.int .i64 (ed m.edges k).id, .slice (a.el.a k) (ed m.edges k).line.length (a.el.c k), .int .i64 (ed m.edges k).left, .int .i64 (ed m.edges k).right]] W fun e w' => e = .returned (.int .i64 (disE m.faces (ed m.edges k).left (ed m.edges k).right)) ∧ Ext W w') := Lib.hid (fun W h => dis_any m a _ _ _ _ W h)
  have HRE : Hid (∀ W v2 v3 v4 v5 v6 v7, MpAt W a m → Calls Tryz.prog 69 #[.agg #[.int .i64 k, .int .i64 n, v2, v3, v4, v5, v6, v7], .agg #[.slice a.ea m.edges.length a.ec, .slice a.fa m.faces.length a.fc, .slice a.wa m.ways.length a.wc, .slice a.pa m.places.length a.pc]] W fun e w' => ∃ g c', e = .returned (.slice (some ⟨g, 0, none⟩) ((ed m.edges k).line.eraseIdx n).length c') ∧
      Pts w' (some ⟨g, 0, none⟩) ((ed m.edges k).line.eraseIdx n) ∧ ((ed m.edges k).line.eraseIdx n).length ≤ c' ∧ Ext W w') := Lib.hid (fun W v2 v3 v4 v5 v6 v7 h => rest_any m a k n v2 v3 v4 v5 v6 v7 W h hk hn hl)
  have hel : ((ed m.edges k).line.eraseIdx n).length ≤ 1000000000 := Nat.le_trans (List.length_eraseIdx_le ..) hl
  have HCK := Lib.hid (fun A c W (h : ((ed m.edges k).line.eraseIdx n).length ≤ c) (hp : Pts W A ((ed m.edges k).line.eraseIdx n)) => check_any A c ((ed m.edges k).line.eraseIdx n) (by omega) h W hp)
  have hM1 := hm.keep (Ext.alloc w (.cells (a.cells m).toArray 41))
  have HB := Lib.hid (fun W (h : Ext (w.alloc (.cells (a.cells m).toArray 41)) W) => Ma.box (blk_ext (Go.heap_alloc_new w (.cells (a.cells m).toArray 41)) h))
  obtain ⟨b, o, hA, _⟩ : ∃ b o, a.ea = some ⟨b, o, none⟩ ∧ b < w.heap.size := (hm.edges.1).some_ (by omega)
  have HX := Lib.hid hA
  have HM := Lib.hid (fun W (h : Ext (w.alloc (.cells (a.cells m).toArray 41)) W) => hM1.keep h)
  have HR := Lib.hid (fun W (h : Ext (w.alloc (.cells (a.cells m).toArray 41)) W) => by
    have := (hM1.keep h).edges.1
    rw [hA] at this
    exact And.intro (this.cell (j := k) (i := 0) hk rfl) (And.intro (this.cell (j := k) (i := 1) hk rfl) (And.intro (this.cell (j := k) (i := 2) hk rfl) (this.cell (j := k) (i := 3) hk rfl))))
  rw [hA] at HAT HDI HRE HB
  obtain ⟨z0, z1, z2, z3⟩ := HB.out _ (Ext.refl _)
  generalize disE m.faces (ed m.edges k).left (ed m.edges k).right = dd at *
  generalize chkLn ((ed m.edges k).line.eraseIdx n) = ck at *
  clear hm hM1 hA hel
  unfold corV at HAT
  go_enter Tryz.func35, Tryz.ntmps35
  go_wp2_with fail
  refine (HAT.out _ (HM.out _ (Ext.refl _))).mono ?_
  rintro e w' ⟨rfl, hE⟩
  clear z0 z1 z2 z3
  go_wp2_with fail
  have bC := Go.heap_alloc_new w' (.cells #[.int .i64 k, .int .i64 n, .int .i64 (gp (ed m.edges k).line (n - 1)).x, .int .i64 (gp (ed m.edges k).line (n - 1)).y, .int .i64 (gp (ed m.edges k).line n).x, .int .i64 (gp (ed m.edges k).line n).y, .int .i64 (gp (ed m.edges k).line (n + 1)).x, .int .i64 (gp (ed m.edges k).line (n + 1)).y] 101)
  have hE2 := Ext.trans hE (Ext.alloc w' (.cells #[.int .i64 k, .int .i64 n, .int .i64 (gp (ed m.edges k).line (n - 1)).x, .int .i64 (gp (ed m.edges k).line (n - 1)).y, .int .i64 (gp (ed m.edges k).line n).x, .int .i64 (gp (ed m.edges k).line n).y, .int .i64 (gp (ed m.edges k).line (n + 1)).x, .int .i64 (gp (ed m.edges k).line (n + 1)).y] 101))
  have HE0 := Lib.hid (Ext.trans (Ext.alloc w (.cells (a.cells m).toArray 41)) hE2)
  generalize w'.alloc (.cells #[.int .i64 k, .int .i64 n, .int .i64 (gp (ed m.edges k).line (n - 1)).x, .int .i64 (gp (ed m.edges k).line (n - 1)).y, .int .i64 (gp (ed m.edges k).line n).x, .int .i64 (gp (ed m.edges k).line n).y, .int .i64 (gp (ed m.edges k).line (n + 1)).x, .int .i64 (gp (ed m.edges k).line (n + 1)).y] 101) = V at *
  generalize w'.heap.size = cb at *
  generalize (gp (ed m.edges k).line (n - 1)).x = v2 at *
  generalize (gp (ed m.edges k).line (n - 1)).y = v3 at *
  generalize (gp (ed m.edges k).line n).x = v4 at *
  generalize (gp (ed m.edges k).line n).y = v5 at *
  generalize (gp (ed m.edges k).line (n + 1)).x = v6 at *
  generalize (gp (ed m.edges k).line (n + 1)).y = v7 at *
  generalize hsz : w.heap.size = sz at *
  have HQ := Lib.hid (fun W (h : Ext V.drew W) => And.intro (HB.out W (Ext.trans hE2 (Ext.trans (Ext.drew V) h))) (And.intro (cells_of (blk_ext bC (Ext.trans (Ext.drew V) h)) 0 _ rfl) (HR.out W (Ext.trans hE2 (Ext.trans (Ext.drew V) h)))))
  have HCo := Lib.hid (fun W (h : Ext V W) => blk_ext bC h)
  have HEV := Lib.hid hE2
  clear hE hE2 bC w'
  apply wp_region_seq (l := [_, _, _, _, _, _, _]) (t := [_, _, _]) [some 21, some 22, some 23, some 24, some 25, some 26, some 27, some 28, some 29, some 20] [[], [], [1], [], [3], [2, 4], [5], [0, 6], [7], [8]] [7, 2, 5, 4, 5, 6, 7] [eqv _, eqv _, eqv _, eqv _, eqv _, eqv _, eqv _] (by kernel_rfl) (by kernel_rfl) ⟨?o0, ?o1, ?o2, ?o3, ?o4, ?o5, ?o6, trivial⟩ ?last
  case o0 => -- Op.load 41 (Operand.tmp 3)
    intro xv W hE _
    obtain ⟨⟨c0, c1, c2, c3⟩, k0, q0, q1, q2, q3⟩ := HQ.out W hE
    simp only [Nat.add_zero] at q0
    simp only [putD, List.foldl_nil, List.getD_cons_zero]
    refine OpGoal.plain ?_
    go_wp2_with fail
    exact ⟨rfl, Ext.refl _, rfl⟩
  case o1 => -- Op.fieldAddr 41 (Operand.tmp 3) 0
    intro xv W hE _
    simp only [putD, List.foldl_nil, List.getD_cons_zero, List.getD_cons_succ]
    refine OpGoal.plain ?_
    go_wp2_with fail
    exact ⟨rfl, Ext.refl _, rfl⟩
  case o2 => -- Op.load 36 (Operand.tmp 22)
    intro xv W hE hp
    have r1 : xv 1 = _ := hp.1
    clear hp
    obtain ⟨⟨c0, c1, c2, c3⟩, k0, q0, q1, q2, q3⟩ := HQ.out W hE
    simp only [Nat.add_zero] at q0
    simp only [putD, List.foldl_nil, List.foldl_cons, List.getD_cons_zero, List.getD_cons_succ, Act.put, List.setIfInBounds_toArray, List.set_cons_zero, List.set_cons_succ]
    refine OpGoal.plain ?_
    go_wp2_with fail
    exact ⟨rfl, Ext.refl _, rfl⟩
  case o3 => -- Op.fieldAddr 101 (Operand.tmp 7) 0
    intro xv W hE _
    simp only [putD, List.foldl_nil, List.getD_cons_zero, List.getD_cons_succ]
    refine OpGoal.plain ?_
    go_wp2_with fail
    exact ⟨rfl, Ext.refl _, rfl⟩
  case o4 => -- Op.load 3 (Operand.tmp 24)
    intro xv W hE hp
    have r3 : xv 3 = _ := hp.1
    clear hp
    obtain ⟨⟨c0, c1, c2, c3⟩, k0, q0, q1, q2, q3⟩ := HQ.out W hE
    simp only [Nat.add_zero] at q0
    simp only [putD, List.foldl_nil, List.foldl_cons, List.getD_cons_zero, List.getD_cons_succ, Act.put, List.setIfInBounds_toArray, List.set_cons_zero, List.set_cons_succ]
    refine OpGoal.plain ?_
    go_wp2_with fail
    exact ⟨rfl, Ext.refl _, rfl⟩
  case o5 => -- Op.indexAddr 36 (Operand.tmp 23) (Operand.tmp 25)
    intro xv W hE hp
    have r2 : xv 2 = _ := hp.1
    have r4 : xv 4 = _ := hp.2.1
    clear hp
    simp only [putD, List.foldl_nil, List.foldl_cons, List.getD_cons_zero, List.getD_cons_succ, Act.put, List.setIfInBounds_toArray, List.set_cons_zero, List.set_cons_succ]
    refine OpGoal.plain ?_
    go_wp2_with fail
    exact ⟨rfl, Ext.refl _, rfl⟩
  case o6 => -- Op.load 77 (Operand.tmp 26)
    intro xv W hE hp
    have r5 : xv 5 = _ := hp.1
    clear hp
    obtain ⟨⟨c0, c1, c2, c3⟩, k0, q0, q1, q2, q3⟩ := HQ.out W hE
    simp only [Nat.add_zero] at q0
    simp only [putD, List.foldl_nil, List.foldl_cons, List.getD_cons_zero, List.getD_cons_succ, Act.put, List.setIfInBounds_toArray, List.set_cons_zero, List.set_cons_succ]
    refine OpGoal.plain ?_
    go_wp2_with fail
    exact ⟨rfl, Ext.refl _, rfl⟩
  case last =>
    intro xv W hE hp
    have r0 : xv 0 = _ := hp.1
    have r1 : xv 1 = _ := hp.2.1
    have r2 : xv 2 = _ := hp.2.2.1
    have r3 : xv 3 = _ := hp.2.2.2.1
    have r4 : xv 4 = _ := hp.2.2.2.2.1
    have r5 : xv 5 = _ := hp.2.2.2.2.2.1
    have r6 : xv 6 = _ := hp.2.2.2.2.2.2.1
    clear hp
    simp only [putD, List.foldl_nil, List.foldl_cons, List.getD_cons_zero, List.getD_cons_succ, Act.put, List.length_cons, List.length_nil, List.range_succ, List.range_zero, List.nil_append, List.cons_append, List.setIfInBounds_toArray, List.set_cons_zero, List.set_cons_succ]
    simp only [r0, r6]
    go_wp2_with fail
    have hEW := Ext.trans HEV.out (Ext.trans (Ext.drew V) hE)
    refine (HDI.out W (HM.out W hEW)).mono ?_
    rintro e w2 ⟨rfl, hE3⟩
    have t : (dd == 0) = false := by simpa using hd
    obtain ⟨c0, c1, c2, c3⟩ := HB.out w2 (Ext.trans hEW hE3)
    have bc := HCo.out w2 (Ext.trans (Ext.trans (Ext.drew V) hE) hE3)
    have y0 := cells_of bc 0 _ rfl
    have y1 := cells_of bc 1 _ rfl
    have y2 := cells_of bc 2 _ rfl
    have y3 := cells_of bc 3 _ rfl
    have y4 := cells_of bc 4 _ rfl
    have y5 := cells_of bc 5 _ rfl
    have y6 := cells_of bc 6 _ rfl
    have y7 := cells_of bc 7 _ rfl
    go_wp2_with fail
    refine (HRE.out w2 _ _ _ _ _ _ (HM.out w2 (Ext.trans hEW hE3))).mono ?_
    rintro e w3 ⟨g, c', rfl, hp, hc', hE4⟩
    clear c0 c1 c2 c3 y0 y1 y2 y3 y4 y5 y6 y7
    go_wp2_with fail
    refine (HCK.out _ _ w3 hc' hp).mono ?_
    rintro e w4 ⟨rfl, hE5⟩
    have t' : (ck != 0) = true := by simpa using hch
    go_wp2_with fail
    go_ret
    exact ⟨rfl, Ext.trans HE0.out (Ext.trans (Ext.trans (Ext.drew V) hE) (Ext.trans hE3 (Ext.trans hE4 hE5)))⟩
end Go.Proofs.YtompfgofaplffaaGreatDoor

namespace Go.Proofs.YtompfgofaplffaaGreatDoor
open Go.RowKit Hach
set_option maxHeartbeats 2000000 in
theorem ins0Ha (p : Option Addr) (cap : Nat) (fv : Value) (w : World) : Calls Tryz.prog 183 #[.slice p 0 cap, .int .i64 0, .int .i64 0, fv] w fun e w' => e = .returned (.tuple #[]) ∧ w' = w := by
  go_enter Tryz.func183, Tryz.ntmps183
  go_wp2
  refine wp_loop_rounds 1 ?_
  rw [rounds_succ]
  go_wp2
  go_end0
  exact ⟨rfl, rfl⟩
set_option maxHeartbeats 2000000 in
theorem pdq0Ha (p : Option Addr) (cap : Nat) (lim : Int) (fv : Value) (w : World) : Calls Tryz.prog 141 #[.slice p 0 cap, .int .i64 0, .int .i64 0, .int .i64 lim, fv] w fun e w' => e = .returned (.tuple #[]) ∧ w' = w := by
  have hi := Lib.hid (ins0Ha p cap fv w)
  go_enter Tryz.func141, Tryz.ntmps141
  go_wp2_with fail
  refine wp_loop_rounds 1 ?_
  rw [rounds_succ]
  go_wp2_with fail
  refine hi.out.mono ?_
  rintro e w' ⟨rfl, rfl⟩
  go_wp2_with fail
  (try simp only [Exit.inBlock, Exit.then]); refine bodyPost_ret (results_none rfl _ _ _) rfl ?_
  exact ⟨rfl, rfl⟩
set_option maxHeartbeats 2000000 in
theorem sort0Ha (p : Option Addr) (cap : Nat) (fv : Value) (w : World) : Calls Tryz.prog 80 #[.slice p 0 cap, fv] w fun e w' => e = .returned (.tuple #[]) ∧ w' = w := by
  have hp := Lib.hid (fun lim => pdq0Ha p cap lim fv w)
  have hl : Hid (Calls Tryz.prog 142 #[.int .u64 0] w fun e w' => e = .returned (.int .i64 (Lib.bitLen 0 : Nat)) ∧ w' = w) := Lib.hid (Tryz.bits_Len 0 w (by omega) (by omega))
  go_enter Tryz.func80, Tryz.ntmps80
  go_wp2_with fail
  refine hl.out.mono ?_
  rintro e w' ⟨rfl, rfl⟩
  go_wp2_with fail
  refine (hp.out _).mono ?_
  rintro e w' ⟨rfl, rfl⟩
  go_wp2_with fail
  go_end0
  exact ⟨rfl, rfl⟩
set_option maxHeartbeats 2000000 in
theorem ins0Ev (p : Option Addr) (cap : Nat) (fv : Value) (w : World) : Calls Tryz.prog 122 #[.slice p 0 cap, .int .i64 0, .int .i64 0, fv] w fun e w' => e = .returned (.tuple #[]) ∧ w' = w := by
  go_enter Tryz.func122, Tryz.ntmps122
  go_wp2
  refine wp_loop_rounds 1 ?_
  rw [rounds_succ]
  go_wp2
  go_end0
  exact ⟨rfl, rfl⟩
set_option maxHeartbeats 2000000 in
theorem pdq0Ev (p : Option Addr) (cap : Nat) (lim : Int) (fv : Value) (w : World) : Calls Tryz.prog 158 #[.slice p 0 cap, .int .i64 0, .int .i64 0, .int .i64 lim, fv] w fun e w' => e = .returned (.tuple #[]) ∧ w' = w := by
  have hi := Lib.hid (ins0Ev p cap fv w)
  go_enter Tryz.func158, Tryz.ntmps158
  go_wp2_with fail
  refine wp_loop_rounds 1 ?_
  rw [rounds_succ]
  go_wp2_with fail
  refine hi.out.mono ?_
  rintro e w' ⟨rfl, rfl⟩
  go_wp2_with fail
  (try simp only [Exit.inBlock, Exit.then]); refine bodyPost_ret (results_none rfl _ _ _) rfl ?_
  exact ⟨rfl, rfl⟩
set_option maxHeartbeats 2000000 in
theorem sort0Ev (p : Option Addr) (cap : Nat) (fv : Value) (w : World) : Calls Tryz.prog 109 #[.slice p 0 cap, fv] w fun e w' => e = .returned (.tuple #[]) ∧ w' = w := by
  have hp := Lib.hid (fun lim => pdq0Ev p cap lim fv w)
  have hl : Hid (Calls Tryz.prog 142 #[.int .u64 0] w fun e w' => e = .returned (.int .i64 (Lib.bitLen 0 : Nat)) ∧ w' = w) := Lib.hid (Tryz.bits_Len 0 w (by omega) (by omega))
  go_enter Tryz.func109, Tryz.ntmps109
  go_wp2_with fail
  refine hl.out.mono ?_
  rintro e w' ⟨rfl, rfl⟩
  go_wp2_with fail
  refine (hp.out _).mono ?_
  rintro e w' ⟨rfl, rfl⟩
  go_wp2_with fail
  go_end0
  exact ⟨rfl, rfl⟩
end Go.Proofs.YtompfgofaplffaaGreatDoor

namespace Go.Proofs.YtompfgofaplffaaGreatDoor
open Go.RowKit Hach

/-- No point of a line can be dropped, since the line without it is wrong. -/
def NoDrop (m : Mp) (d : Int) : Prop := ∀ k, k < m.edges.length → edAt m.edges (ed m.edges k).id = k → disE m.faces (ed m.edges k).left (ed m.edges k).right = d → ∀ n, 1 ≤ n → n + 1 < (ed m.edges k).line.length → chkLn ((ed m.edges k).line.eraseIdx n) ≠ 0
set_option maxHeartbeats 4000000 in
theorem dall_any (m : Mp) (a : Ma) (d : Int) (w : World) (hm : MpAt w a m) (hd : 1 ≤ d) (h0 : 0 < m.edges.length) (hl : ∀ k, k < m.edges.length → (ed m.edges k).line.length ≤ 1000000000) (hno : NoDrop m d) :
    Calls Tryz.prog 38 #[.agg (a.cells m).toArray, .int .i64 d] w fun e w' => e = .returned (.slice none 0 0) ∧ Ext w w' := by
  have HFI : Hid (∀ W id, MpAt W a m → Calls Tryz.prog 79 #[.agg #[.slice a.ea m.edges.length a.ec, .slice a.fa m.faces.length a.fc, .slice a.wa m.ways.length a.wc, .slice a.pa m.places.length a.pc], .int .i64 id] W fun e w' => e = .returned (.int .i64 (edAt m.edges id)) ∧ Ext W w') := Lib.hid (fun W id h => find_any m a id W h)
  have HDI : Hid (∀ W x l r v, MpAt W a m → Calls Tryz.prog 67 #[.agg #[.slice a.ea m.edges.length a.ec, .slice a.fa m.faces.length a.fc, .slice a.wa m.ways.length a.wc, .slice a.pa m.places.length a.pc], .agg #[.int .i64 x, v, .int .i64 l, .int .i64 r]] W fun e w' => e = .returned (.int .i64 (disE m.faces l r)) ∧ Ext W w') := Lib.hid (fun W x l r v h => dis_any m a x l r v W h)
  have HCA : Hid (∀ W k n, MpAt W a m → k < m.edges.length → edAt m.edges (ed m.edges k).id = k → disE m.faces (ed m.edges k).left (ed m.edges k).right = d → 1 ≤ n → n + 1 < (ed m.edges k).line.length → Calls Tryz.prog 35 #[.agg #[.slice a.ea m.edges.length a.ec, .slice a.fa m.faces.length a.fc, .slice a.wa m.ways.length a.wc, .slice a.pa m.places.length a.pc], .int .i64 (ed m.edges k).id, .int .i64 n] W fun e w' => e = .returned (.int .i64 11) ∧ Ext W w') :=
    Lib.hid (fun W k n h hk h1 h2 h3 h4 => dcan_any m a _ k n W h hk h1 h3 h4 (hl k hk) (by omega) (hno k hk h1 h2 n h3 h4))
  have hM1 := hm.keep (Ext.alloc w (.cells (a.cells m).toArray 41))
  have HB := Lib.hid (fun W (h : Ext (w.alloc (.cells (a.cells m).toArray 41)) W) => Ma.box (blk_ext (Go.heap_alloc_new w (.cells (a.cells m).toArray 41)) h))
  have HM := Lib.hid (fun W (h : Ext (w.alloc (.cells (a.cells m).toArray 41)) W) => hM1.keep h)
  have HS := Lib.hid (fun W => sort0Ha none 0 (.func (.func 81) #[] #[]) W)
  obtain ⟨b, o, hA, _⟩ := (hm.edges.1).some_ h0
  have HR := Lib.hid (fun W k (h : Ext (w.alloc (.cells (a.cells m).toArray 41)) W) (hk : k < m.edges.length) => by
    have := (hM1.keep h).edges.1
    rw [hA] at this
    exact And.intro (this.cell (j := k) (i := 0) hk rfl) (And.intro (this.cell (j := k) (i := 1) hk rfl) (And.intro (this.cell (j := k) (i := 2) hk rfl) (this.cell (j := k) (i := 3) hk rfl))))
  rw [hA] at HFI HDI HCA HB
  obtain ⟨z0, z1, z2, z3⟩ := HB.out _ (Ext.refl _)
  have hsm := hm.small.1
  have hln := fun k hk => (hm.edges.2 k hk).2.1
  have HLN := Lib.hid hln
  clear hm hM1 hl hno hln hA h0
  have t0 : decide (d < 1) = false := by simp; omega
  go_enter Tryz.func38, Tryz.ntmps38
  go_wp2_with fail
  go_loopw [5, 15] (fun s5 s15 wr => s5 = .slice none 0 0 ∧ ∃ k : Nat, k ≤ m.edges.length ∧ s15 = .int .i64 k ∧ Ext (w.alloc (.cells (a.cells m).toArray 41)) wr) (fun _ s15 _ => m.edges.length - (intOf s15).toNat)
  case atStart => exact ⟨rfl, 0, Nat.zero_le _, rfl, Ext.refl _⟩
  case round =>
    obtain ⟨rfl, k, hk, rfl, hE⟩ := hrel
    by_cases hlt : k < m.edges.length
    · have t : decide (k < m.edges.length) = true := by simpa using hlt
      obtain ⟨q0, q1, q2, q3⟩ := HR.out wr k hE hlt
      rw [Nat.add_zero] at q0
      have bZ := Go.heap_alloc_new wr (.cells #[.int .i64 (ed m.edges k).id, .slice (a.el.a k) (ed m.edges k).line.length (a.el.c k), .int .i64 (ed m.edges k).left, .int .i64 (ed m.edges k).right] 77)
      have y0 := cells_of bZ 0 _ rfl
      have hE2 := Ext.trans hE (Ext.alloc wr (.cells #[.int .i64 (ed m.edges k).id, .slice (a.el.a k) (ed m.edges k).line.length (a.el.c k), .int .i64 (ed m.edges k).left, .int .i64 (ed m.edges k).right] 77))
      obtain ⟨c0, c1, c2, c3⟩ := HB.out _ hE2
      have hF := HFI.out _ (ed m.edges k).id (HM.out _ hE2)
      have HC2 := Lib.hid (fun W n h h1 h2 => HCA.out W k n h hlt h1 h2)
      have hDk := HDI.out
      have hlk := HLN.out k hlt
      generalize (ed m.edges k).id = xid at *
      generalize (ed m.edges k).line = ln at *
      generalize (ed m.edges k).left = lf at *
      generalize (ed m.edges k).right = rt at *
      generalize edAt m.edges xid = r at *
      have HDk := Lib.hid hDk
      clear hDk HCA HFI HDI HR
      by_cases hr : r = (k : Int)
      · have tf : (r != (k : Int)) = false := by simpa using hr
        go_wp2_with fail
        refine hF.mono ?_
        rintro e w' ⟨rfl, hE'⟩
        have hEw := Ext.trans hE2 hE'
        obtain ⟨c0, c1, c2, c3⟩ := HB.out w' hEw
        have bW := Lib.hid (fun W h => blk_ext bZ (Ext.trans hE' (show Ext w' W from h)))
        have y0 := cells_of (bW.out w' (Ext.refl _)) 0 _ rfl
        have y1 := cells_of (bW.out w' (Ext.refl _)) 1 _ rfl
        have y2 := cells_of (bW.out w' (Ext.refl _)) 2 _ rfl
        have y3 := cells_of (bW.out w' (Ext.refl _)) 3 _ rfl
        have hD := HDk.out w' xid lf rt (.slice (a.el.a k) ln.length (a.el.c k)) (HM.out w' hEw)
        have HC3 := Lib.hid (fun W n h h2 => HC2.out W n h hr h2)
        clear bZ hF HC2 HDk q0 q1 q2 q3 hr
        generalize disE m.faces lf rt = ds at *
        by_cases hds : ds = d
        · have td : (ds != d) = false := by simpa using hds
          go_wp2_with fail
          refine hD.mono ?_
          rintro e w2 ⟨rfl, hE3⟩
          have hEw2 := Ext.trans hEw hE3
          go_wp2_with fail
          have HC4 := Lib.hid (fun W n h => HC3.out W n h hds)
          have HEW := Lib.hid hEw2
          have HWW := Lib.hid (Ext.trans hE3 (Ext.refl w2))
          clear hD HC3 c0 c1 c2 c3 y0 y1 y2 y3 hEw hE2 hE' tf td hds z0 z1 z2 z3 hE hE3 hEw2
          go_loopw [5, 8] (fun s5 s8 ws => s5 = .slice none 0 0 ∧ ∃ n : Nat, 1 ≤ n ∧ s8 = .int .i64 n ∧ n ≤ ln.length + 1 ∧ Ext w2 ws) (fun _ s8 _ => ln.length + 1 - (intOf s8).toNat)
          case atStart => exact ⟨rfl, 1, Nat.le_refl _, rfl, by omega, Ext.refl _⟩
          case round =>
            obtain ⟨rfl, n, hn1, rfl, hn2, hEs⟩ := hrel
            have hEs2 := Ext.trans HEW.out hEs
            obtain ⟨c0, c1, c2, c3⟩ := HB.out _ hEs2
            have y0 := cells_of (bW.out _ (Ext.trans HWW.out hEs)) 0 _ rfl
            have y1 := cells_of (bW.out _ (Ext.trans HWW.out hEs)) 1 _ rfl
            have e1 : IntKind.i64.wrap ((n : Int) + 1) = ((n + 1 : Nat) : Int) := by rw [IntWalk.i64_in _ (by omega)]; omega
            by_cases hlt2 : n + 1 < ln.length
            · have t2 : decide (n + 1 < ln.length) = true := by simpa using hlt2
              have hC := HC4.out _ n (HM.out _ hEs2) hn1 hlt2
              go_wp2_with fail
              refine hC.mono ?_
              rintro e w3 ⟨rfl, hE4⟩
              go_wp2_with fail
              go_roundw
              case rel => exact ⟨rfl, n + 1, by omega, by go_num, by omega, Ext.trans hEs hE4⟩
              case measure => simp [intOf]; omega
            · have t2 : decide (n + 1 < ln.length) = false := by simpa using hlt2
              go_wp2_with fail
              go_roundw
              case rel => exact ⟨rfl, k + 1, by omega, by go_num, hEs2⟩
              case measure => simp [intOf]; omega
        · have td : (ds != d) = true := by simpa using hds
          go_wp2_with fail
          refine hD.mono ?_
          rintro e w2 ⟨rfl, hE3⟩
          go_wp2_with fail
          go_roundw
          case rel => exact ⟨rfl, k + 1, by omega, by go_num, Ext.trans hEw hE3⟩
          case measure => simp [intOf]; omega
      · have tf : (r != (k : Int)) = true := by simpa using hr
        go_wp2_with fail
        refine hF.mono ?_
        rintro e w' ⟨rfl, hE'⟩
        go_wp2_with fail
        go_roundw
        case rel => exact ⟨rfl, k + 1, by omega, by go_num, Ext.trans hE2 hE'⟩
        case measure => simp [intOf]; omega
    · have t : decide (k < m.edges.length) = false := by simpa using hlt
      have hF := HS.out wr
      go_wp2_with fail
      refine hF.mono ?_
      rintro e w' ⟨rfl, rfl⟩
      go_wp2_with fail
      refine wp_loop_rounds 1 ?_
      rw [rounds_succ]
      go_wp2_with fail
      go_ret
      exact ⟨rfl, Ext.trans (Ext.alloc _ _) hE⟩
end Go.Proofs.YtompfgofaplffaaGreatDoor

namespace Go.Proofs.YtompfgofaplffaaGreatDoor
open Go.RowKit Hach

set_option maxHeartbeats 2000000 in
theorem thinall0 (m : Mp) (a : Ma) (d : Int) (w : World) (h0 : m.ways.length = 0) : Calls Tryz.prog 51 #[.agg (a.cells m).toArray, .int .i64 d] w fun e w' => e = .returned (.slice none 0 0) ∧ Ext w w' := by
  have c2 := (Ma.box (Go.heap_alloc_new w (.cells (a.cells m).toArray 41))).2.2.1
  rw [h0] at c2
  clear h0
  go_enter Tryz.func51, Tryz.ntmps51
  go_wp2_with fail
  refine wp_loop_rounds 1 ?_
  rw [rounds_succ]
  go_wp2_with fail
  go_ret
  exact ⟨rfl, Ext.alloc _ _⟩
set_option maxHeartbeats 2000000 in
theorem gatherall0 (m : Mp) (a : Ma) (d : Int) (w : World) (h0 : m.places.length = 0) : Calls Tryz.prog 55 #[.agg (a.cells m).toArray, .int .i64 d] w fun e w' => e = .returned (.slice none 0 0) ∧ Ext w w' := by
  have c3 := (Ma.box (Go.heap_alloc_new w (.cells (a.cells m).toArray 41))).2.2.2
  rw [h0] at c3
  have HS := Lib.hid (fun fv W => sort0Ev none 0 fv W)
  clear h0
  go_enter Tryz.func55, Tryz.ntmps55
  go_wp2_with fail
  apply wp_scope_straight
  go_wp2_with fail
  apply wp_label
  go_wp2_with fail
  refine wp_loop_rounds 1 ?_
  rw [rounds_succ]
  go_wp2_with fail
  refine (HS.out _ _).mono ?_
  rintro e w' ⟨rfl, rfl⟩
  go_wp2_with fail
  simp only [Exit.noGoto_ret]
  go_ret
  exact ⟨rfl, Ext.alloc _ _⟩
end Go.Proofs.YtompfgofaplffaaGreatDoor
