/- event.Parse (printed by gen_gn.py). -/
import Derived.ScopeJumps
import Derived.WalkMore
import Derived.Test.YtompfgofaplffaaGreatDoorQGm
set_option linter.unusedSimpArgs false
set_option linter.unusedVariables false
namespace Go.Proofs.YtompfgofaplffaaGreatDoor
open Go.RowKit Hach Num

theorem OwnS.base_ {w : World} {base base' : Nat} {v : Value} {l : List (List UInt8)} (h : OwnS w base v l) (hb : base' ≤ base) : OwnS w base' v l := by
  refine ⟨h.1, ?_⟩
  rcases h.2 with hn | ⟨g, cap, cur, e, hg, r⟩
  · exact .inl hn
  · exact .inr ⟨g, cap, cur, e, Nat.le_trans hb hg, r⟩
theorem StrRow.grown {W W' : World} {g b : Nat} {l : List (List UInt8)} (h : StrRow W g l) (hg : W.grownBy W' (some b)) (hlt : g < W.heap.size) (hne : g ≠ b) : StrRow W' g l := fun j hj => (World.cell?_of_block (a := ⟨g, j, none⟩) (hg.block g hlt (by simpa using hne))).trans (h j hj)
theorem ev_cells_one (e : Ev) : ∀ v ∈ e.cells, v.oneCell' = true := fun v hv => ev_one [e] v (by simpa using hv)
theorem list_4 {l : List (List UInt8)} (h : l.length = 4) : ∃ a b c d, l = [a, b, c, d] := by
  match l, h with
  | [a, b, c, d], _ => exact ⟨a, b, c, d, rfl⟩
theorem list_5 {l : List (List UInt8)} (h : l.length = 5) : ∃ a b c d e, l = [a, b, c, d, e] := by
  match l, h with
  | [a, b, c, d, e], _ => exact ⟨a, b, c, d, e, rfl⟩
/-- What Parse has of its own: the numbers (at L), the event (behind it), the result (at R), the words' variable (at C). -/
structure St (w : World) (R L C : Nat) (cv : Value) (x y z : Int) (W : World) : Prop where
  l : W.heap[L]? = some (.cells #[.int .i64 x, .int .i64 y, .int .i64 z] 63 (0, 0))
  v : EvBlk W (L + 1) zeroEv
  res : EvBlk W R zeroEv
  ext : Ext w W
  sz : L + 2 ≤ W.heap.size
  c : W.cell? ⟨C, 0, none⟩ = some cv
  lo : w.heap.size ≤ L
  ne : R < L ∧ C < L
theorem St.start {w W : World} {R L C : Nat} {cv : Value} (h1 : W.heap[L]? = some (.cells #[.int .i64 0, .int .i64 0, .int .i64 0] 63 (0, 0))) (h2 : EvBlk W (L + 1) zeroEv) (h3 : EvBlk W R zeroEv) (h4 : Ext w W) (h5 : L + 2 ≤ W.heap.size) (h6 : W.cell? ⟨C, 0, none⟩ = some cv) (h7 : w.heap.size ≤ L) (h8 : R < L ∧ C < L) : St w R L C cv 0 0 0 W := ⟨h1, h2, h3, h4, h5, h6, h7, h8⟩
theorem St.keep {w : World} {R L C : Nat} {cv : Value} {x y z : Int} {W W' : World} (h : St w R L C cv x y z W) (hE : Ext W W') : St w R L C cv x y z W' :=
  ⟨blk_ext h.l hE, h.v.ext hE, h.res.ext hE, Ext.trans h.ext hE, Nat.le_trans h.sz hE.sz, cell_ext hE h.c, h.lo, h.ne⟩
theorem St.cells {w : World} {R L C : Nat} {cv : Value} {x y z : Int} {W : World} (h : St w R L C cv x y z W) : W.cell? ⟨L, 0, none⟩ = some (.int .i64 x) ∧ W.cell? ⟨L, 1, none⟩ = some (.int .i64 y) ∧ W.cell? ⟨L, 2, none⟩ = some (.int .i64 z) := ⟨cells_of h.l 0 _ rfl, cells_of h.l 1 _ rfl, cells_of h.l 2 _ rfl⟩
theorem St.fro {w : World} {R L C : Nat} {cv : Value} {x y z : Int} {W : World} (h : St w R L C cv x y z W) : W.frozen? ⟨L, 0, none⟩ = false ∧ W.frozen? ⟨L, 1, none⟩ = false ∧ W.frozen? ⟨L, 2, none⟩ = false := by
  have hl := h.l
  exact ⟨by simp [World.frozen?, hl], by simp [World.frozen?, hl], by simp [World.frozen?, hl]⟩
theorem St.set {w : World} {R L C : Nat} {cv : Value} {x y z x' y' z' u : Int} {W : World} (h : St w R L C cv x y z W) (i : Nat) (he : ([.int .i64 x', .int .i64 y', .int .i64 z'] : List Value) = [.int .i64 x, .int .i64 y, .int .i64 z].set i (.int .i64 u)) : St w R L C cv x' y' z' (W.setCell ⟨L, i, none⟩ (.int .i64 u)) := by
  have hg := grownE_set W L i (.int .i64 u)
  have hne := h.ne
  refine ⟨?_, h.v.over hg (by omega), h.res.over hg (by omega), Below.setCell (p := ⟨L, i, none⟩) h.ext h.lo _, Nat.le_trans h.sz hg.size, ?_, h.lo, h.ne⟩
  · have hl := h.l
    simp only [World.setCell, Array.getElem?_modify, if_pos, hl, Option.map_some]
    have : (#[.int .i64 x', .int .i64 y', .int .i64 z'] : Array Value) = ([.int .i64 x', .int .i64 y', .int .i64 z'] : List Value).toArray := rfl
    rw [this, he]
    simp
  · rw [← h.c]
    have hb := hg.block C (by have := h.sz; omega) (by simp; omega)
    exact World.cell?_of_block (a := ⟨C, 0, none⟩) hb
theorem St.set0 {w : World} {R L C : Nat} {cv : Value} {x y z : Int} {W : World} (h : St w R L C cv x y z W) (u : Int) : St w R L C cv u y z (W.setCell ⟨L, 0, none⟩ (.int .i64 u)) := h.set 0 rfl
theorem St.set1 {w : World} {R L C : Nat} {cv : Value} {x y z : Int} {W : World} (h : St w R L C cv x y z W) (u : Int) : St w R L C cv x u z (W.setCell ⟨L, 1, none⟩ (.int .i64 u)) := h.set 1 rfl
theorem St.set2 {w : World} {R L C : Nat} {cv : Value} {x y z : Int} {W : World} (h : St w R L C cv x y z W) (u : Int) : St w R L C cv x y u (W.setCell ⟨L, 2, none⟩ (.int .i64 u)) := h.set 2 rfl
theorem arr91 (A : Array Value) (h : A.size = 91) : A = ((List.range 91).map fun i => A.getD i undef).toArray := by
  apply Array.ext
  · simp [h]
  · intro i h1 h2
    simp [Array.getD_eq_getD_getElem?, h1]
set_option maxRecDepth 100000 in
theorem arr91f (A : Array Value) (h : A.size = 91) : ∃ f : Nat → Value, A = #[f 0, f 1, f 2, f 3, f 4, f 5, f 6, f 7, f 8, f 9, f 10, f 11, f 12, f 13, f 14, f 15, f 16, f 17, f 18, f 19, f 20, f 21, f 22, f 23, f 24, f 25, f 26, f 27, f 28, f 29, f 30, f 31, f 32, f 33, f 34, f 35, f 36, f 37, f 38, f 39, f 40, f 41, f 42, f 43, f 44, f 45, f 46, f 47, f 48, f 49, f 50, f 51, f 52, f 53, f 54, f 55, f 56, f 57, f 58, f 59, f 60, f 61, f 62, f 63, f 64, f 65, f 66, f 67, f 68, f 69, f 70, f 71, f 72, f 73, f 74, f 75, f 76, f 77, f 78, f 79, f 80, f 81, f 82, f 83, f 84, f 85, f 86, f 87, f 88, f 89, f 90] ∧ (∀ i, f i = A.getD i undef) := ⟨fun i => A.getD i undef, arr91 A h, fun _ => rfl⟩
set_option maxRecDepth 100000 in
set_option maxHeartbeats 8000000 in
theorem parse_any (s : ByteArray) (w : World) (hz : s.size < 4294967281) (ht : Tabs w) :
    Calls Tryz.prog 10 #[.string s] w fun r w' => (∃ o, Reads s.data.toList o ∧ r = .returned (resV o)) ∧ Ext w w' := by
  have HS := Lib.hid (fun W (h : Ext w W) => split_any s hz W (ht.ext h))
  have HK := Lib.hid (fun W => kinds_any W)
  have HA := Lib.hid (fun (d : ByteArray) (hd : d.size < 4294967296) W (h : Ext w W) => atoi_any d hd W (ht.ext h))
  have HT := Lib.hid (fun e he W (h : Ext w W) => text_any e he W (ht.ext h))
  have HWR := Lib.hid (fun h => wrong_words (s := s.data.toList) h)
  have HWN := Lib.hid (fun d hm hn => wrong_number (s := s.data.toList) (w := d) hm hn)
  have HRP := Lib.hid (fun k n0 n1 n2 h1 h2 h3 h4 h5 => reads_p (s := s.data.toList) (k := k) (n0 := n0) (n1 := n1) (n2 := n2) h1 h2 h3 h4 h5)
  have hR0 : EvBlk (w.alloc (.cells #[.int .i64 0, .int .i64 0, .int .i64 0, .int .i64 0, .int .i64 0] 23)) w.heap.size zeroEv := Go.heap_alloc_new w _
  have HR0 := Lib.hid hR0
  have HE0 := Lib.hid (Ext.alloc w (.cells #[.int .i64 0, .int .i64 0, .int .i64 0, .int .i64 0, .int .i64 0] 23))
  have HZ := Lib.hid hz
  clear hR0 ht hz
  go_enter Tryz.func10, Tryz.ntmps10
  go_wp2_with fail
  refine wp_scope_jumps 0 (fun a' w' => a'.defers = [] ∧ a'.tmps.size = 91 ∧ a'.tmps.getD 2 undef = .pointer (some ⟨w.heap.size, 0, none⟩) ∧ EvBlk w' w.heap.size zeroEv ∧ Ext w w' ∧ Reads s.data.toList none) (fun _ _ => 0) rfl ?first ?pass
  case pass =>
    rintro ⟨T, D⟩ wr ⟨h1, h2, h3, hR, hE, hrd⟩
    obtain ⟨f, h4, h5⟩ := arr91f T h2
    have h6 := h5 2
    rw [h3] at h6
    have h1' : D = [] := h1
    rw [h4, h1', h6]
    have HRD := Lib.hid hrd
    have HE := Lib.hid hE
    have HR := Lib.hid hR
    clear hrd hE hR h1 h2 h3 h4 h5 h6 h1'
    go_wp2_with (refine store_TE 23 23 w.heap.size [.int .i64 0, .int .i64 0, .int .i64 0, .int .i64 0, .int .i64 0] [.int .i64 0, .int .i64 0, .int .i64 0, .int .i64 0, .int .i64 0] HR.out rfl (by kernel_rfl) (by intro v hv; simp at hv; subst hv; rfl) rfl (.tmp 2) (.tmp 90) rfl rfl rfl ?_; intro w9 h9 hg9)
    simp only [Exit.jump]
    refine bodyPost_ret (results_Eb (e := zeroEv) rfl h9 _ (.bool false) rfl rfl) rfl ⟨⟨none, HRD.out, rfl⟩, Ext.grow_ge HE.out hg9 (fun b e => by simp only [Option.some.injEq] at e; omega)⟩
  case first =>
    go_wp2_with fail
    refine (HS.out _ HE0.out).mono ?_
    rintro r w1 ⟨rfl, hw1⟩
    have hE1 : Ext (w.alloc (.cells #[.int .i64 0, .int .i64 0, .int .i64 0, .int .i64 0, .int .i64 0] 23)) w1 := by rw [hw1]; exact Ext.alloc _ _
    have hrow1 : slRow w1 (w.heap.size + 1) (wds s.data.toList) := by
      unfold slRow
      rw [hw1]
      have := Go.heap_alloc_new (w.alloc (.cells #[.int .i64 0, .int .i64 0, .int .i64 0, .int .i64 0, .int .i64 0] 23)) (.cells ((wds s.data.toList).map strV).toArray 9)
      rw [World.size_alloc] at this
      exact this
    simp only [World.size_alloc]
    have hne := wds_ne s.data.toList
    have hlen := wds_len s.data.toList
    have hpart := wds_part s.data.toList
    have HNW : Hid (numW s.data.toList = ((wds s.data.toList).drop 1).take ((wds s.data.toList).length - 3) ++ [(wds s.data.toList).getD ((wds s.data.toList).length - 1) []]) := Lib.hid rfl
    obtain ⟨ws, hws⟩ : ∃ ws, wds s.data.toList = ws := ⟨_, rfl⟩
    have HEVO : Hid (∀ k n0 n1 n2, evOf k s.data.toList n0 n1 n2 = if ws.length = 4 then madeE k n1 n0 0 else madeE k n2 n0 n1) := Lib.hid (fun k n0 n1 n2 => by unfold evOf; rw [hws])
    rw [hws] at hrow1 hne hlen hpart HNW HWR HRP
    simp only [hws]
    have HR1 := Lib.hid (HR0.out.ext hE1)
    have HX1 := Lib.hid (Ext.trans HE0.out hE1)
    have hsz : s.data.toList.length = s.size := by simp
    have HPART : Hid (∀ a ∈ ws, (⟨a.toArray⟩ : ByteArray).size < 4294967296) := Lib.hid (fun a ha => by
      show a.toArray.size < _
      have := hpart a ha
      have := HZ.out
      simp only [List.size_toArray]; omega)
    have hpos : 0 < ws.length := List.length_pos_iff.2 hne
    have hwl : ws.length < 4611686018427387904 := by have := HZ.out; omega
    have hrow : StrRow w1 (w.heap.size + 1) ws := fun j hj => by
      have := cells_of hrow1 j (strV (ws.getD j [])) (by simp [List.getD_eq_getElem?_getD, hj])
      exact this
    have HROW := Lib.hid (fun W (h : Ext w1 W) => hrow.keep h)
    have hltw : w.heap.size + 1 < w1.heap.size := (Array.getElem?_eq_some_iff.1 hrow1).1
    clear hw1 hE1 hrow1 hne hlen hpart hsz hws hrow HE0 HR0 HZ HS
    have hC2 : (w1.alloc (.cells #[.slice (some ⟨w.heap.size + 1, 0, none⟩) ws.length ws.length] 31)).cell? ⟨w1.heap.size, 0, none⟩ = some (.slice (some ⟨w.heap.size + 1, 0, none⟩) ws.length ws.length) := cells_of (Go.heap_alloc_new _ _) 0 _ rfl
    have hE2 := Ext.alloc w1 (.cells #[.slice (some ⟨w.heap.size + 1, 0, none⟩) ws.length ws.length] 31)
    have HIX := Lib.hid (fun W Kb (h : Ext (w1.alloc (.cells #[.slice (some ⟨w.heap.size + 1, 0, none⟩) ws.length ws.length] 31)) W) hK => kind_idx w1.heap.size (w.heap.size + 1) ws.length ws.length Kb (ws.getD 0 []) W hpos (cell_ext h hC2) (HROW.out W (Ext.trans hE2 h) 0 hpos) hK)
    have HC2 := Lib.hid (fun W (h : Ext (w1.alloc (.cells #[.slice (some ⟨w.heap.size + 1, 0, none⟩) ws.length ws.length] 31)) W) => cell_ext h hC2)
    have HE2 := Lib.hid hE2
    clear hC2 hE2
    go_wp2_with fail
    refine (HK.out _).mono ?_
    rintro r w2 ⟨rfl, hw2⟩
    have hE3 : Ext (w1.alloc (.cells #[.slice (some ⟨w.heap.size + 1, 0, none⟩) ws.length ws.length] 31)) w2 := by rw [hw2]; exact Ext.alloc _ _
    have hk3 : w2.heap[(w1.alloc (.cells #[.slice (some ⟨w.heap.size + 1, 0, none⟩) ws.length ws.length] 31)).heap.size]? = some kindsO := by rw [hw2]; exact Go.heap_alloc_new _ _
    rw [World.size_alloc] at hk3
    have HI3 := Lib.hid (HIX.out w2 _ hE3 hk3)
    have HE3 := Lib.hid hE3
    clear hw2 hE3 hk3 HIX
    go_wp2_with fail
    refine HI3.out.mono ?_
    rintro r w3 ⟨rfl, hE4⟩
    have HE4 := Lib.hid (Ext.trans HE3.out hE4)
    clear hE4 HI3 HE3
    have hL : ((w3.alloc (.cells #[.int .i64 0, .int .i64 0, .int .i64 0] 63)).alloc (.cells #[.int .i64 0, .int .i64 0, .int .i64 0, .int .i64 0, .int .i64 0] 23)).heap[w3.heap.size]? = some (.cells #[.int .i64 0, .int .i64 0, .int .i64 0] 63 (0, 0)) := blk_ext (Go.heap_alloc_new w3 _) (Ext.alloc _ _)
    have hV : EvBlk ((w3.alloc (.cells #[.int .i64 0, .int .i64 0, .int .i64 0] 63)).alloc (.cells #[.int .i64 0, .int .i64 0, .int .i64 0, .int .i64 0, .int .i64 0] 23)) (w3.heap.size + 1) zeroEv := by
      have := Go.heap_alloc_new (w3.alloc (.cells #[.int .i64 0, .int .i64 0, .int .i64 0] 63)) (.cells #[.int .i64 0, .int .i64 0, .int .i64 0, .int .i64 0, .int .i64 0] 23)
      rw [World.size_alloc] at this
      exact this
    have hE5 : Ext w3 ((w3.alloc (.cells #[.int .i64 0, .int .i64 0, .int .i64 0] 63)).alloc (.cells #[.int .i64 0, .int .i64 0, .int .i64 0, .int .i64 0, .int .i64 0] 23)) := Ext.trans (Ext.alloc _ _) (Ext.alloc _ _)
    have hS5 : ((w3.alloc (.cells #[.int .i64 0, .int .i64 0, .int .i64 0] 63)).alloc (.cells #[.int .i64 0, .int .i64 0, .int .i64 0, .int .i64 0, .int .i64 0] 23)).heap.size = w3.heap.size + 2 := by rw [World.size_alloc, World.size_alloc]
    obtain ⟨V, hVV⟩ : ∃ V, (w3.alloc (.cells #[.int .i64 0, .int .i64 0, .int .i64 0] 63)).alloc (.cells #[.int .i64 0, .int .i64 0, .int .i64 0, .int .i64 0, .int .i64 0] 23) = V := ⟨_, rfl⟩
    rw [hVV] at hL hV hE5 hS5
    have hEC : Ext (w1.alloc (.cells #[.slice (some ⟨w.heap.size + 1, 0, none⟩) ws.length ws.length] 31)) V := Ext.trans HE4.out hE5
    have hE1V : Ext w1 V := Ext.trans HE2.out hEC
    have HXV := Lib.hid (Ext.trans HX1.out hE1V)
    have HRV := Lib.hid (HR1.out.ext hE1V)
    have HVV := Lib.hid hVV
    have HLV := Lib.hid hL
    have HBV := Lib.hid hV
    have HSV := Lib.hid hS5
    have HCV := Lib.hid (fun W (h : Ext V W) => HC2.out W (Ext.trans hEC h))
    have HRO := Lib.hid (fun W (h : Ext V W) => HROW.out W (Ext.trans hE1V h))
    have hW13 : w1.heap.size < w3.heap.size := by have := HE4.out.sz; rw [World.size_alloc] at this; omega
    have cV : w3.cell? ⟨w1.heap.size, 0, none⟩ = some (.slice (some ⟨w.heap.size + 1, 0, none⟩) ws.length ws.length) := HC2.out w3 HE4.out
    clear hL hV hE5 hS5 hVV hEC hE1V HE4 HE2 HROW HC2 HR1 HX1
    have hWB := Lib.hid hW13
    have hLW := Lib.hid hltw
    clear hltw
    rcases hki : idxK (ws.getD 0 []) with _ | k
    · have HJR := Lib.hid (HWR.out (.inl hki))
      simp only [hki]
      clear hki
      go_wp2_with fail
      go_step3
      exact ⟨rfl, rfl, rfl, rfl, (by rw [HVV.out]; exact HRV.out), (by rw [HVV.out]; exact HXV.out), HJR.out⟩
    · have hkr := (idxK_some hki).1
      have HKI := Lib.hid hki
      simp only [hki]
      obtain ⟨hk1, hk4⟩ := hkr
      clear hki
      have ta : decide (k - 1 < 0) = false := by simp; omega
      have ek : IntKind.i64.wrap (k - 1 + 1) = k := by rw [IntWalk.i64_in _ (by omega)]; omega
      by_cases n4 : ws.length < 4
      · have i4 : ((ws.length : Nat) : Int) < 4 := by omega
        have HJR := Lib.hid (HWR.out (.inr (.inl ⟨by omega, by omega⟩)))
        go_wp2_with fail
        go_step3
        exact ⟨rfl, rfl, rfl, rfl, (by rw [HVV.out]; exact HRV.out), (by rw [HVV.out]; exact HXV.out), HJR.out⟩
      by_cases n5 : 5 < ws.length
      · have i4 : ¬ ((ws.length : Nat) : Int) < 4 := by omega
        have i5 : 5 < ((ws.length : Nat) : Int) := by omega
        have HJR := Lib.hid (HWR.out (.inr (.inl ⟨by omega, by omega⟩)))
        go_wp2_with fail
        go_step3
        exact ⟨rfl, rfl, rfl, rfl, (by rw [HVV.out]; exact HRV.out), (by rw [HVV.out]; exact HXV.out), HJR.out⟩
      obtain hn | hn : ws.length = 4 ∨ ws.length = 5 := by omega
      · obtain ⟨wa, wb, wc, wd, rfl⟩ := list_4 hn
        have tl : ([wa, wb, wc, wd] : List (List UInt8)).length = 4 := rfl
        simp only [tl] at cV HCV HWR HNW HEVO HRP ⊢
        clear n4 n5 hn hwl hpos
        have q := HRO.out V (Ext.refl _) 2 (show 2 < 4 by decide)
        have q' : ((w3.alloc (.cells #[.int .i64 0, .int .i64 0, .int .i64 0] 63)).alloc (.cells #[.int .i64 0, .int .i64 0, .int .i64 0, .int .i64 0, .int .i64 0] 23)).cell? ⟨w.heap.size + 1, 2, none⟩ = some (strV wc) := by rw [HVV.out]; exact q
        clear q
        obtain ⟨Sa, hSa⟩ : ∃ S : ByteArray, ⟨wc.toArray⟩ = S := ⟨_, rfl⟩
        have hcmp : (Sa.toList == [97, 116]) = decide (wc = wAt) := by
          have h := bytes_beq wc wAt
          rw [show (⟨wAt.toArray⟩ : ByteArray).toList = [97, 116] by rw [ByteArray.toList_eq]; rfl] at h
          rw [← hSa]; exact h
        unfold strV at q'
        rw [hSa] at q'
        clear hSa
        have HWR2 := Lib.hid (fun (h : wc ≠ wAt) => HWR.out (.inr (.inr h)))
        have HN2 : Hid (numW s.data.toList = [wb, wd]) := Lib.hid HNW.out
        have HRP2 := Lib.hid (fun n0 n1 n2 h3 h4 h5 => HRP.out k n0 n1 n2 HKI.out (by simp) h3 h4 h5)
        clear HWR HNW HRP HKI
        by_cases ha : wc = wAt
        · rw [decide_eq_true ha] at hcmp
          clear ha
          go_wp2_with fail
          rw [HVV.out]
          have HCL := Lib.hid (fun W (h : Ext V W) => sclone_any (w.heap.size + 1) 1 [wa, wb, wc, wd] 3 W (HRO.out W h) (by simp) (by simp))
          have HQ := Lib.hid (fun W (h : ApS V.heap.size 1 [strV wb, strV wd] V.drew W) => And.intro (HCV.out W (Ext.trans (Ext.drew V) (show Ext V.drew W from h.1))) (And.intro (HRO.out W (Ext.trans (Ext.drew V) (show Ext V.drew W from h.1)) 3 (show 3 < 4 by decide)) (And.intro (show V.heap.size ≤ W.heap.size from h.1.size) (Ext.trans (Ext.drew V) (show Ext V.drew W from h.1)))))
          obtain ⟨Sl, hSl⟩ : ∃ S : ByteArray, ⟨wd.toArray⟩ = S := ⟨_, rfl⟩
          have HSL := Lib.hid hSl
          have HQ2 : Hid (∀ W, ApS V.heap.size 1 [strV wb, strV wd] V.drew W → W.cell? ⟨w1.heap.size, 0, none⟩ = some (.slice (some ⟨w.heap.size + 1, 0, none⟩) 4 4) ∧ W.cell? ⟨w.heap.size + 1, 3, none⟩ = some (.string Sl)) := Lib.hid (fun W h => ⟨(HQ.out W h).1, by rw [← hSl]; exact (HQ.out W h).2.1⟩)
          clear hSl hcmp
          apply wp_region_new (E := ApS V.heap.size 1 [strV wb, strV wd]) [] (fun h => ApS.sz h) (ApS.refl V.heap.size 1 [strV wb, strV wd]) (@ApS.trans V.heap.size 1 [strV wb, strV wd]) (l := [_, _, _, _, _, _, _, _, _, _, _, _, _, _, _, _]) (t := []) [some 38, some 39, some 40, some 41, some 42, some 43, some 44, some 45, some 46, some 47, some 48, some 49, some 50, some 51, some 52, some 53] [[], [], [1], [2], [0, 3], [4], [], [], [7], [8], [6, 9], [10], [11], [5, 12], [13], []] [] [(eql (.slice (some ⟨w.heap.size + 1, 0, none⟩) 4 4)), (eql (.slice (some ⟨w.heap.size + 1, 0, none⟩) 4 4)), (eql (.int .i64 4)), (eql (.int .i64 2)), (eql (.slice (some ⟨w.heap.size + 1, 1, none⟩) 1 3)), (ownZ V.heap.size 1 [strV wb, strV wd] [wb] (by simp) rfl), (eql (.slice (some ⟨w.heap.size + 1, 0, none⟩) 4 4)), (eql (.slice (some ⟨w.heap.size + 1, 0, none⟩) 4 4)), (eql (.int .i64 4)), (eql (.int .i64 3)), (eql (.pointer (some ⟨w.heap.size + 1, 3, none⟩))), (eql (.string Sl)), (oneZ V.heap.size 1 [strV wb, strV wd] (by decide) wd), (ownZ V.heap.size 1 [strV wb, strV wd] [wb, wd] (by simp) rfl), (eql (.int .i64 2)), (eql (.int .i64 0))] (by kernel_rfl) (by kernel_rfl) (by kernel_rfl) ⟨?o0, ?o1, ?o2, ?o3, ?o4, ?o5, ?o6, ?o7, ?o8, ?o9, ?o10, ?o11, ?o12, ?o13, ?o14, ?o15, trivial⟩ ?last
          case o0 => -- Op.load 31 (Operand.tmp 4)
            intro xv W6 hE _
            obtain ⟨c0, c1⟩ := HQ2.out W6 hE
            simp only [putD, List.foldl_nil, List.getD_cons_zero]
            refine OpGoal.plain ?_
            go_wp2_with fail
            exact ⟨rfl, ApS.refl V.heap.size 1 [strV wb, strV wd] _, rfl⟩
          case o1 => -- Op.load 31 (Operand.tmp 4)
            intro xv W6 hE _
            obtain ⟨c0, c1⟩ := HQ2.out W6 hE
            simp only [putD, List.foldl_nil, List.getD_cons_zero, List.getD_cons_succ]
            refine OpGoal.plain ?_
            go_wp2_with fail
            exact ⟨rfl, ApS.refl V.heap.size 1 [strV wb, strV wd] _, rfl⟩
          case o2 => -- Op.call { callee := Callee.builtin Builtin.len, args := #[Operand.tmp 39], argTy
            intro xv W6 hE hp
            have r1 : xv 1 = _ := hp.1
            clear hp
            simp only [putD, List.foldl_nil, List.foldl_cons, List.getD_cons_zero, List.getD_cons_succ, Act.put, List.setIfInBounds_toArray, List.set_cons_zero, List.set_cons_succ]
            refine OpGoal.plain ?_
            go_wp2_with fail
            exact ⟨rfl, ApS.refl V.heap.size 1 [strV wb, strV wd] _, rfl⟩
          case o3 => -- Op.binOp BinOp.sub 3 (Operand.tmp 40) (Operand.const (Value.int IntKind.i64 2)) 
            intro xv W6 hE hp
            have r2 : xv 2 = _ := hp.1
            clear hp
            simp only [putD, List.foldl_nil, List.foldl_cons, List.getD_cons_zero, List.getD_cons_succ, Act.put, List.setIfInBounds_toArray, List.set_cons_zero, List.set_cons_succ]
            refine OpGoal.plain ?_
            go_wp2_with fail
            exact ⟨rfl, ApS.refl V.heap.size 1 [strV wb, strV wd] _, rfl⟩
          case o4 => -- Op.slice 31 (Operand.tmp 38) (some (Operand.const (Value.int IntKind.i64 1))) (s
            intro xv W6 hE hp
            have r0 : xv 0 = _ := hp.1
            have r3 : xv 3 = _ := hp.2.1
            clear hp
            simp only [putD, List.foldl_nil, List.foldl_cons, List.getD_cons_zero, List.getD_cons_succ, Act.put, List.setIfInBounds_toArray, List.set_cons_zero, List.set_cons_succ]
            refine OpGoal.plain ?_
            go_wp2_with fail
            exact ⟨rfl, ApS.refl V.heap.size 1 [strV wb, strV wd] _, rfl⟩
          case o5 => -- Op.call { callee := Callee.value (Operand.func 24), args := #[Operand.tmp 42], a
            intro xv W6 hE hp
            have r4 : xv 4 = _ := hp.1
            clear hp
            simp only [putD, List.foldl_nil, List.foldl_cons, List.getD_cons_zero, List.getD_cons_succ, Act.put, List.setIfInBounds_toArray, List.set_cons_zero, List.set_cons_succ]
            refine OpGoal.plain ?_
            go_wp2_with fail
            refine (HCL.out W6 (HQ.out W6 hE).2.2.2).mono ?_
            rintro r W' ⟨⟨v, rfl, hO⟩, hE'⟩
            go_wp2_with fail
            exact ⟨rfl, ⟨ApS.ext hE' (HQ.out W6 hE).2.2.1, OwnS.base_ hO (HQ.out W6 hE).2.2.1⟩, fun h => by simp at h⟩
          case o6 => -- Op.load 31 (Operand.tmp 4)
            intro xv W6 hE _
            obtain ⟨c0, c1⟩ := HQ2.out W6 hE
            simp only [putD, List.foldl_nil, List.getD_cons_zero, List.getD_cons_succ]
            refine OpGoal.plain ?_
            go_wp2_with fail
            exact ⟨rfl, ApS.refl V.heap.size 1 [strV wb, strV wd] _, rfl⟩
          case o7 => -- Op.load 31 (Operand.tmp 4)
            intro xv W6 hE _
            obtain ⟨c0, c1⟩ := HQ2.out W6 hE
            simp only [putD, List.foldl_nil, List.getD_cons_zero, List.getD_cons_succ]
            refine OpGoal.plain ?_
            go_wp2_with fail
            exact ⟨rfl, ApS.refl V.heap.size 1 [strV wb, strV wd] _, rfl⟩
          case o8 => -- Op.call { callee := Callee.builtin Builtin.len, args := #[Operand.tmp 45], argTy
            intro xv W6 hE hp
            have r7 : xv 7 = _ := hp.1
            clear hp
            simp only [putD, List.foldl_nil, List.foldl_cons, List.getD_cons_zero, List.getD_cons_succ, Act.put, List.setIfInBounds_toArray, List.set_cons_zero, List.set_cons_succ]
            refine OpGoal.plain ?_
            go_wp2_with fail
            exact ⟨rfl, ApS.refl V.heap.size 1 [strV wb, strV wd] _, rfl⟩
          case o9 => -- Op.binOp BinOp.sub 3 (Operand.tmp 46) (Operand.const (Value.int IntKind.i64 1)) 
            intro xv W6 hE hp
            have r8 : xv 8 = _ := hp.1
            clear hp
            simp only [putD, List.foldl_nil, List.foldl_cons, List.getD_cons_zero, List.getD_cons_succ, Act.put, List.setIfInBounds_toArray, List.set_cons_zero, List.set_cons_succ]
            refine OpGoal.plain ?_
            go_wp2_with fail
            exact ⟨rfl, ApS.refl V.heap.size 1 [strV wb, strV wd] _, rfl⟩
          case o10 => -- Op.indexAddr 31 (Operand.tmp 44) (Operand.tmp 47)
            intro xv W6 hE hp
            have r6 : xv 6 = _ := hp.1
            have r9 : xv 9 = _ := hp.2.1
            clear hp
            simp only [putD, List.foldl_nil, List.foldl_cons, List.getD_cons_zero, List.getD_cons_succ, Act.put, List.setIfInBounds_toArray, List.set_cons_zero, List.set_cons_succ]
            refine OpGoal.plain ?_
            go_wp2_with fail
            exact ⟨rfl, ApS.refl V.heap.size 1 [strV wb, strV wd] _, rfl⟩
          case o11 => -- Op.load 9 (Operand.tmp 48)
            intro xv W6 hE hp
            have r10 : xv 10 = _ := hp.1
            clear hp
            obtain ⟨c0, c1⟩ := HQ2.out W6 hE
            simp only [putD, List.foldl_nil, List.foldl_cons, List.getD_cons_zero, List.getD_cons_succ, Act.put, List.setIfInBounds_toArray, List.set_cons_zero, List.set_cons_succ]
            refine OpGoal.plain ?_
            go_wp2_with fail
            exact ⟨rfl, ApS.refl V.heap.size 1 [strV wb, strV wd] _, rfl⟩
          case o12 => -- Op.buildSlice 31 1 #[(0, Operand.tmp 49)]
            intro xv W6 hE hp
            have r11 : xv 11 = _ := hp.1
            clear hp
            simp only [putD, List.foldl_nil, List.foldl_cons, List.getD_cons_zero, List.getD_cons_succ, Act.put, List.setIfInBounds_toArray, List.set_cons_zero, List.set_cons_succ]
            refine OpGoal.plain ?_
            go_wp2_with fail
            exact ⟨rfl, ApS.ext (Ext.alloc _ _) (HQ.out W6 hE).2.2.1, W6.heap.size, rfl, (HQ.out W6 hE).2.2.1, by rw [show strV wd = .string Sl by unfold strV; rw [HSL.out]]; exact Go.heap_alloc_new _ _⟩
          case o13 => -- Op.call { callee := Callee.builtin Builtin.append, args := #[Operand.tmp 43, Ope
            intro xv W6 hE hp
            have r5 := hp.1
            obtain ⟨g12, r12, lo12, h12⟩ := hp.2.1
            clear hp
            simp only [putD, List.foldl_nil, List.foldl_cons, List.getD_cons_zero, List.getD_cons_succ, Act.put, List.setIfInBounds_toArray, List.set_cons_zero, List.set_cons_succ]
            refine OpGoal.plain ?_
            simp only [r12]
            refine appZ rfl 43 50 rfl V.heap.size (xv 5) [wb] (by simp) rfl r5 (HQ.out W6 hE).2.2.1 (by simp) g12 wd rfl h12 ?_
            intro v' w' ho hA
            exact ⟨rfl, ⟨hA, ho⟩, fun h => by simp at h⟩
          case o14 => -- Op.call { callee := Callee.builtin Builtin.len, args := #[Operand.tmp 51], argTy
            intro xv W6 hE hp
            have r13 := hp.1
            clear hp
            simp only [putD, List.foldl_nil, List.foldl_cons, List.getD_cons_zero, List.getD_cons_succ, Act.put, List.setIfInBounds_toArray, List.set_cons_zero, List.set_cons_succ]
            refine OpGoal.plain ?_
            rcases (show OwnS W6 V.heap.size (xv 13) [wb, wd] from r13).form with ⟨h0, _⟩ | ⟨g13, c13, e13, _⟩
            · cases h0
            simp only [e13]
            go_wp2_with fail
            exact ⟨rfl, ⟨ApS.refl V.heap.size 1 [strV wb, strV wd] _, rfl⟩, fun h => by simp at h⟩
          case o15 => -- Op.move (Operand.const (Value.int IntKind.i64 0))
            intro xv W6 hE _
            simp only [putD, List.foldl_nil, List.getD_cons_zero, List.getD_cons_succ]
            refine OpGoal.plain ?_
            go_wp2_with fail
            exact ⟨rfl, ApS.refl V.heap.size 1 [strV wb, strV wd] _, rfl⟩
          case last =>
            intro xv W6 hE hp hpr
            have r0 : xv 0 = _ := hp.1
            have r1 : xv 1 = _ := hp.2.1
            have r2 : xv 2 = _ := hp.2.2.1
            have r3 : xv 3 = _ := hp.2.2.2.1
            have r4 : xv 4 = _ := hp.2.2.2.2.1
            have r5 := hp.2.2.2.2.2.1
            have r6 : xv 6 = _ := hp.2.2.2.2.2.2.1
            have r7 : xv 7 = _ := hp.2.2.2.2.2.2.2.1
            have r8 : xv 8 = _ := hp.2.2.2.2.2.2.2.2.1
            have r9 : xv 9 = _ := hp.2.2.2.2.2.2.2.2.2.1
            have r10 : xv 10 = _ := hp.2.2.2.2.2.2.2.2.2.2.1
            have r11 : xv 11 = _ := hp.2.2.2.2.2.2.2.2.2.2.2.1
            obtain ⟨g12, r12, lo12, h12⟩ := hp.2.2.2.2.2.2.2.2.2.2.2.2.1
            have r13 := hp.2.2.2.2.2.2.2.2.2.2.2.2.2.1
            have r14 : xv 14 = _ := hp.2.2.2.2.2.2.2.2.2.2.2.2.2.2.1
            have r15 : xv 15 = _ := hp.2.2.2.2.2.2.2.2.2.2.2.2.2.2.2.1
            clear hp
            simp only [putD, List.foldl_nil, List.foldl_cons, List.getD_cons_zero, List.getD_cons_succ, Act.put, List.length_cons, List.length_nil, List.range_succ, List.range_zero, List.nil_append, List.cons_append, List.setIfInBounds_toArray, List.set_cons_zero, List.set_cons_succ]
            rcases (show OwnS W6 V.heap.size (xv 13) [wb, wd] from r13).form with ⟨h0, _⟩ | ⟨g13, c13, e13, lo13, lt13, _, _, hr13, _⟩
            · cases h0
            simp only [e13, r14, r15]
            have hX6 := (HQ.out W6 hE).2.2.2
            have HX6 := Lib.hid hX6
            have HR13 := Lib.hid (fun W (h : W6.grownBy W (some w3.heap.size)) => hr13.grown h lt13 (by have := HSV.out; omega))
            clear hr13 e13 lo13 lt13 hE hW13 r0 r1 r2 r3 r4 r5 r6 r7 r8 r9 r10 r11 r12 r13 r14 r15 lo12 h12 hpr HQ HQ2 HCL q' cV HSL
            have hL := blk_ext HLV.out hX6
            have hV := HBV.out.ext hX6
            have hR := HRV.out.ext hX6
            have hWX := Ext.trans HXV.out hX6
            have hs6 : w3.heap.size + 2 ≤ W6.heap.size := by have := HSV.out; have := hX6.sz; omega
            have HST := Lib.hid (St.start hL hV hR hWX hs6 (HCV.out W6 hX6) (by have := hWB.out; have := hLW.out; omega) (by have := hWB.out; have := hLW.out; omega))
            clear hL hV hR hWX hs6 hX6
            go_wp2_with fail
            refine wp_loop_rounds 3 ?_
            rw [rounds_succ]
            have x0 := HR13.out W6 (grownE (Ext.refl W6) _) 0 (show 0 < 2 by decide)
            have y0 : W6.cell? ⟨g13, 0, none⟩ = some (.string ⟨wb.toArray⟩) := x0
            clear x0
            have HA0 := Lib.hid (HA.out ⟨wb.toArray⟩ (HPART.out wb (by simp)) W6 HST.out.ext)
            rw [show (⟨wb.toArray⟩ : ByteArray).data.toList = wb by simp] at HA0
            go_wp2_with fail
            refine HA0.out.mono ?_
            rintro r Z0 ⟨hres, hEZ⟩
            have HSZ0 := Lib.hid (HST.out.keep hEZ)
            have HXZ0 := Lib.hid (grownE_trans (grownE (Ext.refl W6) _) (grownE hEZ (some w3.heap.size)))
            clear hEZ y0 HA0
            rcases hres with ⟨v0, hv0, rfl⟩ | ⟨v0, te, pe, hv0, rfl⟩
            case inr =>
              have HJR := Lib.hid (HWN.out wb (by rw [HN2.out]; simp) (atoiV_none hv0))
              clear hv0
              go_wp2_with fail
              go_step3
              exact ⟨rfl, rfl, rfl, rfl, HSZ0.out.res, HSZ0.out.ext, HJR.out⟩
            have HV0 := Lib.hid hv0
            clear hv0
            obtain ⟨l0, l1, l2⟩ := HSZ0.out.cells
            obtain ⟨f0, f1, f2⟩ := HSZ0.out.fro
            have HSU0 := Lib.hid (HSZ0.out.set0 v0)
            have HXU0 := Lib.hid (grownE_trans HXZ0.out (grownE_set Z0 w3.heap.size 0 (.int .i64 v0)))
            go_wp2_with fail
            clear l0 l1 l2 f0 f1 f2
            rw [rounds_succ]
            have x1 := HR13.out (Z0.setCell ⟨w3.heap.size, 0, none⟩ (.int .i64 v0)) HXU0.out 1 (show 1 < 2 by decide)
            have y1 : (Z0.setCell ⟨w3.heap.size, 0, none⟩ (.int .i64 v0)).cell? ⟨g13, 1, none⟩ = some (.string ⟨wd.toArray⟩) := x1
            clear x1
            have HA1 := Lib.hid (HA.out ⟨wd.toArray⟩ (HPART.out wd (by simp)) (Z0.setCell ⟨w3.heap.size, 0, none⟩ (.int .i64 v0)) HSU0.out.ext)
            rw [show (⟨wd.toArray⟩ : ByteArray).data.toList = wd by simp] at HA1
            go_wp2_with fail
            refine HA1.out.mono ?_
            rintro r Z1 ⟨hres, hEZ⟩
            have HSZ1 := Lib.hid (HSU0.out.keep hEZ)
            have HXZ1 := Lib.hid (grownE_trans HXU0.out (grownE hEZ (some w3.heap.size)))
            clear hEZ y1 HA1
            rcases hres with ⟨v1, hv1, rfl⟩ | ⟨v1, te, pe, hv1, rfl⟩
            case inr =>
              have HJR := Lib.hid (HWN.out wd (by rw [HN2.out]; simp) (atoiV_none hv1))
              clear hv1
              go_wp2_with fail
              go_step3
              exact ⟨rfl, rfl, rfl, rfl, HSZ1.out.res, HSZ1.out.ext, HJR.out⟩
            have HV1 := Lib.hid hv1
            clear hv1
            obtain ⟨l0, l1, l2⟩ := HSZ1.out.cells
            obtain ⟨f0, f1, f2⟩ := HSZ1.out.fro
            have HSU1 := Lib.hid (HSZ1.out.set1 v1)
            have HXU1 := Lib.hid (grownE_trans HXZ1.out (grownE_set Z1 w3.heap.size 1 (.int .i64 v1)))
            go_wp2_with fail
            clear l0 l1 l2 f0 f1 f2
            rw [rounds_succ]
            obtain ⟨l0, l1, l2⟩ := HSU1.out.cells
            obtain ⟨f0, f1, f2⟩ := HSU1.out.fro
            have cc := HSU1.out.c
            have HSF := Lib.hid ((HSU1.out.set1 0).set2 v1)
            obtain ⟨ev, hev⟩ : ∃ ev, madeE k v1 v0 0 = ev := ⟨_, rfl⟩
            have HM := Lib.hid (fun W => made_any k v1 v0 0 W)
            rw [hev] at HM
            have hin : InEv ev := by rw [← hev]; exact (madeE_any ⟨hk1, hk4⟩ (atoiV_in HV1.out) (atoiV_in HV0.out) ⟨by decide, by decide⟩).2.1
            have HTX := Lib.hid (fun W h => HT.out ev hin W h)
            have hrd := HRP2.out v0 v1 0 (by rw [HN2.out]; exact HV0.out) (by rw [HN2.out]; exact HV1.out) (fun h => by cases h)
            rw [HEVO.out] at hrd
            have hrd2 : Reads s.data.toList (if textE ev = s.data.toList then some ev else none) := by
              rw [← hev]
              simpa using hrd
            have HRD := Lib.hid hrd2
            clear hrd hrd2 hin hev
            go_wp2_with fail
            refine (HM.out _).mono ?_
            rintro r Wm ⟨rfl, hEm⟩
            have hSm := HSF.out.keep hEm
            have HSM := Lib.hid hSm
            clear hEm l0 l1 l2 f0 f1 f2 cc hSm
            go_wp2_with (refine store_TE 23 23 (w3.heap.size + 1) [.int .i64 0, .int .i64 0, .int .i64 0, .int .i64 0, .int .i64 0] ev.cells HSM.out.v rfl (by kernel_rfl) (ev_cells_one ev) rfl (.tmp 7) (.tmp 84) rfl rfl rfl ?_; intro Ws hs hgs; obtain ⟨d0, d1, d2, d3, d4⟩ := EvBlk.get (show EvBlk Ws (w3.heap.size + 1) ev from hs))
            have hXs : Ext w Ws := Ext.grow_ge HSM.out.ext hgs (fun b e => by simp only [Option.some.injEq] at e; have := HSM.out.lo; omega)
            have HXS := Lib.hid hXs
            have HRS := Lib.hid (HSM.out.res.over hgs (by have := HSM.out.ne; omega))
            refine (HTX.out Ws hXs).mono ?_
            rintro r Wt ⟨rfl, hEt⟩
            have hET := (show EvBlk Ws (w3.heap.size + 1) ev from hs).ext hEt
            have HRT := Lib.hid (HRS.out.ext hEt)
            have HXT := Lib.hid (Ext.trans hXs hEt)
            clear d0 d1 d2 d3 d4 hXs hs hgs hEt
            obtain ⟨d0, d1, d2, d3, d4⟩ := hET.get
            clear hET
            have HCM := Lib.hid (ba_beq (textE ev) s)
            by_cases hT : textE ev = s.data.toList
            · have tq : ((⟨(textE ev).toArray⟩ : ByteArray).toList == s.toList) = true := by rw [HCM.out]; exact decide_eq_true hT
              have hrd := HRD.out
              rw [if_pos hT] at hrd
              have HR2 := Lib.hid hrd
              clear hrd hT
              generalize (⟨(textE ev).toArray⟩ : ByteArray) = TB at *
              go_wp2_with (refine store_TE 23 23 w.heap.size [.int .i64 0, .int .i64 0, .int .i64 0, .int .i64 0, .int .i64 0] ev.cells HRT.out rfl (by kernel_rfl) (ev_cells_one ev) rfl (.tmp 2) (.tmp 89) rfl rfl rfl ?_; intro w9 h9 hg9)
              simp only [Exit.jump]
              refine bodyPost_ret (results_Eb (e := ev) rfl h9 _ (.bool true) rfl rfl) rfl ⟨⟨some ev, HR2.out, rfl⟩, Ext.grow_ge HXT.out hg9 (fun b e => by simp only [Option.some.injEq] at e; omega)⟩
            · have tq : ((⟨(textE ev).toArray⟩ : ByteArray).toList == s.toList) = false := by rw [HCM.out]; exact decide_eq_false hT
              have hrd := HRD.out
              rw [if_neg hT] at hrd
              have HR2 := Lib.hid hrd
              clear hrd hT
              generalize (⟨(textE ev).toArray⟩ : ByteArray) = TB at *
              go_wp2_with fail
              apply wp_label
              go_wp2_with (refine store_TE 23 23 w.heap.size [.int .i64 0, .int .i64 0, .int .i64 0, .int .i64 0, .int .i64 0] [.int .i64 0, .int .i64 0, .int .i64 0, .int .i64 0, .int .i64 0] HRT.out rfl (by kernel_rfl) (by intro v hv; simp at hv; subst hv; rfl) rfl (.tmp 2) (.tmp 90) rfl rfl rfl ?_; intro w9 h9 hg9)
              simp only [Exit.jump]
              refine bodyPost_ret (results_Eb (e := zeroEv) rfl h9 _ (.bool false) rfl rfl) rfl ⟨⟨none, HR2.out, rfl⟩, Ext.grow_ge HXT.out hg9 (fun b e => by simp only [Option.some.injEq] at e; omega)⟩
        · rw [decide_eq_false ha] at hcmp
          have HJR := Lib.hid (HWR2.out ha)
          clear ha
          go_wp2_with fail
          go_step3
          exact ⟨rfl, rfl, rfl, rfl, (by rw [HVV.out]; exact HRV.out), (by rw [HVV.out]; exact HXV.out), HJR.out⟩
      · obtain ⟨wa, wb, wc, wd, we, rfl⟩ := list_5 hn
        have tl : ([wa, wb, wc, wd, we] : List (List UInt8)).length = 5 := rfl
        simp only [tl] at cV HCV HWR HNW HEVO HRP ⊢
        clear n4 n5 hn hwl hpos
        have q := HRO.out V (Ext.refl _) 3 (show 3 < 5 by decide)
        have q' : ((w3.alloc (.cells #[.int .i64 0, .int .i64 0, .int .i64 0] 63)).alloc (.cells #[.int .i64 0, .int .i64 0, .int .i64 0, .int .i64 0, .int .i64 0] 23)).cell? ⟨w.heap.size + 1, 3, none⟩ = some (strV wd) := by rw [HVV.out]; exact q
        clear q
        obtain ⟨Sa, hSa⟩ : ∃ S : ByteArray, ⟨wd.toArray⟩ = S := ⟨_, rfl⟩
        have hcmp : (Sa.toList == [97, 116]) = decide (wd = wAt) := by
          have h := bytes_beq wd wAt
          rw [show (⟨wAt.toArray⟩ : ByteArray).toList = [97, 116] by rw [ByteArray.toList_eq]; rfl] at h
          rw [← hSa]; exact h
        unfold strV at q'
        rw [hSa] at q'
        clear hSa
        have HWR2 := Lib.hid (fun (h : wd ≠ wAt) => HWR.out (.inr (.inr h)))
        have HN2 : Hid (numW s.data.toList = [wb, wc, we]) := Lib.hid HNW.out
        have HRP2 := Lib.hid (fun n0 n1 n2 h3 h4 h5 => HRP.out k n0 n1 n2 HKI.out (by simp) h3 h4 h5)
        clear HWR HNW HRP HKI
        by_cases ha : wd = wAt
        · rw [decide_eq_true ha] at hcmp
          clear ha
          go_wp2_with fail
          rw [HVV.out]
          have HCL := Lib.hid (fun W (h : Ext V W) => sclone_any (w.heap.size + 1) 2 [wa, wb, wc, wd, we] 4 W (HRO.out W h) (by simp) (by simp))
          have HQ := Lib.hid (fun W (h : ApS V.heap.size 2 [strV wb, strV wc, strV we] V.drew W) => And.intro (HCV.out W (Ext.trans (Ext.drew V) (show Ext V.drew W from h.1))) (And.intro (HRO.out W (Ext.trans (Ext.drew V) (show Ext V.drew W from h.1)) 4 (show 4 < 5 by decide)) (And.intro (show V.heap.size ≤ W.heap.size from h.1.size) (Ext.trans (Ext.drew V) (show Ext V.drew W from h.1)))))
          obtain ⟨Sl, hSl⟩ : ∃ S : ByteArray, ⟨we.toArray⟩ = S := ⟨_, rfl⟩
          have HSL := Lib.hid hSl
          have HQ2 : Hid (∀ W, ApS V.heap.size 2 [strV wb, strV wc, strV we] V.drew W → W.cell? ⟨w1.heap.size, 0, none⟩ = some (.slice (some ⟨w.heap.size + 1, 0, none⟩) 5 5) ∧ W.cell? ⟨w.heap.size + 1, 4, none⟩ = some (.string Sl)) := Lib.hid (fun W h => ⟨(HQ.out W h).1, by rw [← hSl]; exact (HQ.out W h).2.1⟩)
          clear hSl hcmp
          apply wp_region_new (E := ApS V.heap.size 2 [strV wb, strV wc, strV we]) [] (fun h => ApS.sz h) (ApS.refl V.heap.size 2 [strV wb, strV wc, strV we]) (@ApS.trans V.heap.size 2 [strV wb, strV wc, strV we]) (l := [_, _, _, _, _, _, _, _, _, _, _, _, _, _, _, _]) (t := []) [some 38, some 39, some 40, some 41, some 42, some 43, some 44, some 45, some 46, some 47, some 48, some 49, some 50, some 51, some 52, some 53] [[], [], [1], [2], [0, 3], [4], [], [], [7], [8], [6, 9], [10], [11], [5, 12], [13], []] [] [(eql (.slice (some ⟨w.heap.size + 1, 0, none⟩) 5 5)), (eql (.slice (some ⟨w.heap.size + 1, 0, none⟩) 5 5)), (eql (.int .i64 5)), (eql (.int .i64 3)), (eql (.slice (some ⟨w.heap.size + 1, 1, none⟩) 2 4)), (ownZ V.heap.size 2 [strV wb, strV wc, strV we] [wb, wc] (by simp) rfl), (eql (.slice (some ⟨w.heap.size + 1, 0, none⟩) 5 5)), (eql (.slice (some ⟨w.heap.size + 1, 0, none⟩) 5 5)), (eql (.int .i64 5)), (eql (.int .i64 4)), (eql (.pointer (some ⟨w.heap.size + 1, 4, none⟩))), (eql (.string Sl)), (oneZ V.heap.size 2 [strV wb, strV wc, strV we] (by decide) we), (ownZ V.heap.size 2 [strV wb, strV wc, strV we] [wb, wc, we] (by simp) rfl), (eql (.int .i64 3)), (eql (.int .i64 0))] (by kernel_rfl) (by kernel_rfl) (by kernel_rfl) ⟨?o0, ?o1, ?o2, ?o3, ?o4, ?o5, ?o6, ?o7, ?o8, ?o9, ?o10, ?o11, ?o12, ?o13, ?o14, ?o15, trivial⟩ ?last
          case o0 => -- Op.load 31 (Operand.tmp 4)
            intro xv W6 hE _
            obtain ⟨c0, c1⟩ := HQ2.out W6 hE
            simp only [putD, List.foldl_nil, List.getD_cons_zero]
            refine OpGoal.plain ?_
            go_wp2_with fail
            exact ⟨rfl, ApS.refl V.heap.size 2 [strV wb, strV wc, strV we] _, rfl⟩
          case o1 => -- Op.load 31 (Operand.tmp 4)
            intro xv W6 hE _
            obtain ⟨c0, c1⟩ := HQ2.out W6 hE
            simp only [putD, List.foldl_nil, List.getD_cons_zero, List.getD_cons_succ]
            refine OpGoal.plain ?_
            go_wp2_with fail
            exact ⟨rfl, ApS.refl V.heap.size 2 [strV wb, strV wc, strV we] _, rfl⟩
          case o2 => -- Op.call { callee := Callee.builtin Builtin.len, args := #[Operand.tmp 39], argTy
            intro xv W6 hE hp
            have r1 : xv 1 = _ := hp.1
            clear hp
            simp only [putD, List.foldl_nil, List.foldl_cons, List.getD_cons_zero, List.getD_cons_succ, Act.put, List.setIfInBounds_toArray, List.set_cons_zero, List.set_cons_succ]
            refine OpGoal.plain ?_
            go_wp2_with fail
            exact ⟨rfl, ApS.refl V.heap.size 2 [strV wb, strV wc, strV we] _, rfl⟩
          case o3 => -- Op.binOp BinOp.sub 3 (Operand.tmp 40) (Operand.const (Value.int IntKind.i64 2)) 
            intro xv W6 hE hp
            have r2 : xv 2 = _ := hp.1
            clear hp
            simp only [putD, List.foldl_nil, List.foldl_cons, List.getD_cons_zero, List.getD_cons_succ, Act.put, List.setIfInBounds_toArray, List.set_cons_zero, List.set_cons_succ]
            refine OpGoal.plain ?_
            go_wp2_with fail
            exact ⟨rfl, ApS.refl V.heap.size 2 [strV wb, strV wc, strV we] _, rfl⟩
          case o4 => -- Op.slice 31 (Operand.tmp 38) (some (Operand.const (Value.int IntKind.i64 1))) (s
            intro xv W6 hE hp
            have r0 : xv 0 = _ := hp.1
            have r3 : xv 3 = _ := hp.2.1
            clear hp
            simp only [putD, List.foldl_nil, List.foldl_cons, List.getD_cons_zero, List.getD_cons_succ, Act.put, List.setIfInBounds_toArray, List.set_cons_zero, List.set_cons_succ]
            refine OpGoal.plain ?_
            go_wp2_with fail
            exact ⟨rfl, ApS.refl V.heap.size 2 [strV wb, strV wc, strV we] _, rfl⟩
          case o5 => -- Op.call { callee := Callee.value (Operand.func 24), args := #[Operand.tmp 42], a
            intro xv W6 hE hp
            have r4 : xv 4 = _ := hp.1
            clear hp
            simp only [putD, List.foldl_nil, List.foldl_cons, List.getD_cons_zero, List.getD_cons_succ, Act.put, List.setIfInBounds_toArray, List.set_cons_zero, List.set_cons_succ]
            refine OpGoal.plain ?_
            go_wp2_with fail
            refine (HCL.out W6 (HQ.out W6 hE).2.2.2).mono ?_
            rintro r W' ⟨⟨v, rfl, hO⟩, hE'⟩
            go_wp2_with fail
            exact ⟨rfl, ⟨ApS.ext hE' (HQ.out W6 hE).2.2.1, OwnS.base_ hO (HQ.out W6 hE).2.2.1⟩, fun h => by simp at h⟩
          case o6 => -- Op.load 31 (Operand.tmp 4)
            intro xv W6 hE _
            obtain ⟨c0, c1⟩ := HQ2.out W6 hE
            simp only [putD, List.foldl_nil, List.getD_cons_zero, List.getD_cons_succ]
            refine OpGoal.plain ?_
            go_wp2_with fail
            exact ⟨rfl, ApS.refl V.heap.size 2 [strV wb, strV wc, strV we] _, rfl⟩
          case o7 => -- Op.load 31 (Operand.tmp 4)
            intro xv W6 hE _
            obtain ⟨c0, c1⟩ := HQ2.out W6 hE
            simp only [putD, List.foldl_nil, List.getD_cons_zero, List.getD_cons_succ]
            refine OpGoal.plain ?_
            go_wp2_with fail
            exact ⟨rfl, ApS.refl V.heap.size 2 [strV wb, strV wc, strV we] _, rfl⟩
          case o8 => -- Op.call { callee := Callee.builtin Builtin.len, args := #[Operand.tmp 45], argTy
            intro xv W6 hE hp
            have r7 : xv 7 = _ := hp.1
            clear hp
            simp only [putD, List.foldl_nil, List.foldl_cons, List.getD_cons_zero, List.getD_cons_succ, Act.put, List.setIfInBounds_toArray, List.set_cons_zero, List.set_cons_succ]
            refine OpGoal.plain ?_
            go_wp2_with fail
            exact ⟨rfl, ApS.refl V.heap.size 2 [strV wb, strV wc, strV we] _, rfl⟩
          case o9 => -- Op.binOp BinOp.sub 3 (Operand.tmp 46) (Operand.const (Value.int IntKind.i64 1)) 
            intro xv W6 hE hp
            have r8 : xv 8 = _ := hp.1
            clear hp
            simp only [putD, List.foldl_nil, List.foldl_cons, List.getD_cons_zero, List.getD_cons_succ, Act.put, List.setIfInBounds_toArray, List.set_cons_zero, List.set_cons_succ]
            refine OpGoal.plain ?_
            go_wp2_with fail
            exact ⟨rfl, ApS.refl V.heap.size 2 [strV wb, strV wc, strV we] _, rfl⟩
          case o10 => -- Op.indexAddr 31 (Operand.tmp 44) (Operand.tmp 47)
            intro xv W6 hE hp
            have r6 : xv 6 = _ := hp.1
            have r9 : xv 9 = _ := hp.2.1
            clear hp
            simp only [putD, List.foldl_nil, List.foldl_cons, List.getD_cons_zero, List.getD_cons_succ, Act.put, List.setIfInBounds_toArray, List.set_cons_zero, List.set_cons_succ]
            refine OpGoal.plain ?_
            go_wp2_with fail
            exact ⟨rfl, ApS.refl V.heap.size 2 [strV wb, strV wc, strV we] _, rfl⟩
          case o11 => -- Op.load 9 (Operand.tmp 48)
            intro xv W6 hE hp
            have r10 : xv 10 = _ := hp.1
            clear hp
            obtain ⟨c0, c1⟩ := HQ2.out W6 hE
            simp only [putD, List.foldl_nil, List.foldl_cons, List.getD_cons_zero, List.getD_cons_succ, Act.put, List.setIfInBounds_toArray, List.set_cons_zero, List.set_cons_succ]
            refine OpGoal.plain ?_
            go_wp2_with fail
            exact ⟨rfl, ApS.refl V.heap.size 2 [strV wb, strV wc, strV we] _, rfl⟩
          case o12 => -- Op.buildSlice 31 1 #[(0, Operand.tmp 49)]
            intro xv W6 hE hp
            have r11 : xv 11 = _ := hp.1
            clear hp
            simp only [putD, List.foldl_nil, List.foldl_cons, List.getD_cons_zero, List.getD_cons_succ, Act.put, List.setIfInBounds_toArray, List.set_cons_zero, List.set_cons_succ]
            refine OpGoal.plain ?_
            go_wp2_with fail
            exact ⟨rfl, ApS.ext (Ext.alloc _ _) (HQ.out W6 hE).2.2.1, W6.heap.size, rfl, (HQ.out W6 hE).2.2.1, by rw [show strV we = .string Sl by unfold strV; rw [HSL.out]]; exact Go.heap_alloc_new _ _⟩
          case o13 => -- Op.call { callee := Callee.builtin Builtin.append, args := #[Operand.tmp 43, Ope
            intro xv W6 hE hp
            have r5 := hp.1
            obtain ⟨g12, r12, lo12, h12⟩ := hp.2.1
            clear hp
            simp only [putD, List.foldl_nil, List.foldl_cons, List.getD_cons_zero, List.getD_cons_succ, Act.put, List.setIfInBounds_toArray, List.set_cons_zero, List.set_cons_succ]
            refine OpGoal.plain ?_
            simp only [r12]
            refine appZ rfl 43 50 rfl V.heap.size (xv 5) [wb, wc] (by simp) rfl r5 (HQ.out W6 hE).2.2.1 (by simp) g12 we rfl h12 ?_
            intro v' w' ho hA
            exact ⟨rfl, ⟨hA, ho⟩, fun h => by simp at h⟩
          case o14 => -- Op.call { callee := Callee.builtin Builtin.len, args := #[Operand.tmp 51], argTy
            intro xv W6 hE hp
            have r13 := hp.1
            clear hp
            simp only [putD, List.foldl_nil, List.foldl_cons, List.getD_cons_zero, List.getD_cons_succ, Act.put, List.setIfInBounds_toArray, List.set_cons_zero, List.set_cons_succ]
            refine OpGoal.plain ?_
            rcases (show OwnS W6 V.heap.size (xv 13) [wb, wc, we] from r13).form with ⟨h0, _⟩ | ⟨g13, c13, e13, _⟩
            · cases h0
            simp only [e13]
            go_wp2_with fail
            exact ⟨rfl, ⟨ApS.refl V.heap.size 2 [strV wb, strV wc, strV we] _, rfl⟩, fun h => by simp at h⟩
          case o15 => -- Op.move (Operand.const (Value.int IntKind.i64 0))
            intro xv W6 hE _
            simp only [putD, List.foldl_nil, List.getD_cons_zero, List.getD_cons_succ]
            refine OpGoal.plain ?_
            go_wp2_with fail
            exact ⟨rfl, ApS.refl V.heap.size 2 [strV wb, strV wc, strV we] _, rfl⟩
          case last =>
            intro xv W6 hE hp hpr
            have r0 : xv 0 = _ := hp.1
            have r1 : xv 1 = _ := hp.2.1
            have r2 : xv 2 = _ := hp.2.2.1
            have r3 : xv 3 = _ := hp.2.2.2.1
            have r4 : xv 4 = _ := hp.2.2.2.2.1
            have r5 := hp.2.2.2.2.2.1
            have r6 : xv 6 = _ := hp.2.2.2.2.2.2.1
            have r7 : xv 7 = _ := hp.2.2.2.2.2.2.2.1
            have r8 : xv 8 = _ := hp.2.2.2.2.2.2.2.2.1
            have r9 : xv 9 = _ := hp.2.2.2.2.2.2.2.2.2.1
            have r10 : xv 10 = _ := hp.2.2.2.2.2.2.2.2.2.2.1
            have r11 : xv 11 = _ := hp.2.2.2.2.2.2.2.2.2.2.2.1
            obtain ⟨g12, r12, lo12, h12⟩ := hp.2.2.2.2.2.2.2.2.2.2.2.2.1
            have r13 := hp.2.2.2.2.2.2.2.2.2.2.2.2.2.1
            have r14 : xv 14 = _ := hp.2.2.2.2.2.2.2.2.2.2.2.2.2.2.1
            have r15 : xv 15 = _ := hp.2.2.2.2.2.2.2.2.2.2.2.2.2.2.2.1
            clear hp
            simp only [putD, List.foldl_nil, List.foldl_cons, List.getD_cons_zero, List.getD_cons_succ, Act.put, List.length_cons, List.length_nil, List.range_succ, List.range_zero, List.nil_append, List.cons_append, List.setIfInBounds_toArray, List.set_cons_zero, List.set_cons_succ]
            rcases (show OwnS W6 V.heap.size (xv 13) [wb, wc, we] from r13).form with ⟨h0, _⟩ | ⟨g13, c13, e13, lo13, lt13, _, _, hr13, _⟩
            · cases h0
            simp only [e13, r14, r15]
            have hX6 := (HQ.out W6 hE).2.2.2
            have HX6 := Lib.hid hX6
            have HR13 := Lib.hid (fun W (h : W6.grownBy W (some w3.heap.size)) => hr13.grown h lt13 (by have := HSV.out; omega))
            clear hr13 e13 lo13 lt13 hE hW13 r0 r1 r2 r3 r4 r5 r6 r7 r8 r9 r10 r11 r12 r13 r14 r15 lo12 h12 hpr HQ HQ2 HCL q' cV HSL
            have hL := blk_ext HLV.out hX6
            have hV := HBV.out.ext hX6
            have hR := HRV.out.ext hX6
            have hWX := Ext.trans HXV.out hX6
            have hs6 : w3.heap.size + 2 ≤ W6.heap.size := by have := HSV.out; have := hX6.sz; omega
            have HST := Lib.hid (St.start hL hV hR hWX hs6 (HCV.out W6 hX6) (by have := hWB.out; have := hLW.out; omega) (by have := hWB.out; have := hLW.out; omega))
            clear hL hV hR hWX hs6 hX6
            go_wp2_with fail
            refine wp_loop_rounds 4 ?_
            rw [rounds_succ]
            have x0 := HR13.out W6 (grownE (Ext.refl W6) _) 0 (show 0 < 3 by decide)
            have y0 : W6.cell? ⟨g13, 0, none⟩ = some (.string ⟨wb.toArray⟩) := x0
            clear x0
            have HA0 := Lib.hid (HA.out ⟨wb.toArray⟩ (HPART.out wb (by simp)) W6 HST.out.ext)
            rw [show (⟨wb.toArray⟩ : ByteArray).data.toList = wb by simp] at HA0
            go_wp2_with fail
            refine HA0.out.mono ?_
            rintro r Z0 ⟨hres, hEZ⟩
            have HSZ0 := Lib.hid (HST.out.keep hEZ)
            have HXZ0 := Lib.hid (grownE_trans (grownE (Ext.refl W6) _) (grownE hEZ (some w3.heap.size)))
            clear hEZ y0 HA0
            rcases hres with ⟨v0, hv0, rfl⟩ | ⟨v0, te, pe, hv0, rfl⟩
            case inr =>
              have HJR := Lib.hid (HWN.out wb (by rw [HN2.out]; simp) (atoiV_none hv0))
              clear hv0
              go_wp2_with fail
              go_step3
              exact ⟨rfl, rfl, rfl, rfl, HSZ0.out.res, HSZ0.out.ext, HJR.out⟩
            have HV0 := Lib.hid hv0
            clear hv0
            obtain ⟨l0, l1, l2⟩ := HSZ0.out.cells
            obtain ⟨f0, f1, f2⟩ := HSZ0.out.fro
            have HSU0 := Lib.hid (HSZ0.out.set0 v0)
            have HXU0 := Lib.hid (grownE_trans HXZ0.out (grownE_set Z0 w3.heap.size 0 (.int .i64 v0)))
            go_wp2_with fail
            clear l0 l1 l2 f0 f1 f2
            rw [rounds_succ]
            have x1 := HR13.out (Z0.setCell ⟨w3.heap.size, 0, none⟩ (.int .i64 v0)) HXU0.out 1 (show 1 < 3 by decide)
            have y1 : (Z0.setCell ⟨w3.heap.size, 0, none⟩ (.int .i64 v0)).cell? ⟨g13, 1, none⟩ = some (.string ⟨wc.toArray⟩) := x1
            clear x1
            have HA1 := Lib.hid (HA.out ⟨wc.toArray⟩ (HPART.out wc (by simp)) (Z0.setCell ⟨w3.heap.size, 0, none⟩ (.int .i64 v0)) HSU0.out.ext)
            rw [show (⟨wc.toArray⟩ : ByteArray).data.toList = wc by simp] at HA1
            go_wp2_with fail
            refine HA1.out.mono ?_
            rintro r Z1 ⟨hres, hEZ⟩
            have HSZ1 := Lib.hid (HSU0.out.keep hEZ)
            have HXZ1 := Lib.hid (grownE_trans HXU0.out (grownE hEZ (some w3.heap.size)))
            clear hEZ y1 HA1
            rcases hres with ⟨v1, hv1, rfl⟩ | ⟨v1, te, pe, hv1, rfl⟩
            case inr =>
              have HJR := Lib.hid (HWN.out wc (by rw [HN2.out]; simp) (atoiV_none hv1))
              clear hv1
              go_wp2_with fail
              go_step3
              exact ⟨rfl, rfl, rfl, rfl, HSZ1.out.res, HSZ1.out.ext, HJR.out⟩
            have HV1 := Lib.hid hv1
            clear hv1
            obtain ⟨l0, l1, l2⟩ := HSZ1.out.cells
            obtain ⟨f0, f1, f2⟩ := HSZ1.out.fro
            have HSU1 := Lib.hid (HSZ1.out.set1 v1)
            have HXU1 := Lib.hid (grownE_trans HXZ1.out (grownE_set Z1 w3.heap.size 1 (.int .i64 v1)))
            go_wp2_with fail
            clear l0 l1 l2 f0 f1 f2
            rw [rounds_succ]
            have x2 := HR13.out (Z1.setCell ⟨w3.heap.size, 1, none⟩ (.int .i64 v1)) HXU1.out 2 (show 2 < 3 by decide)
            have y2 : (Z1.setCell ⟨w3.heap.size, 1, none⟩ (.int .i64 v1)).cell? ⟨g13, 2, none⟩ = some (.string ⟨we.toArray⟩) := x2
            clear x2
            have HA2 := Lib.hid (HA.out ⟨we.toArray⟩ (HPART.out we (by simp)) (Z1.setCell ⟨w3.heap.size, 1, none⟩ (.int .i64 v1)) HSU1.out.ext)
            rw [show (⟨we.toArray⟩ : ByteArray).data.toList = we by simp] at HA2
            go_wp2_with fail
            refine HA2.out.mono ?_
            rintro r Z2 ⟨hres, hEZ⟩
            have HSZ2 := Lib.hid (HSU1.out.keep hEZ)
            have HXZ2 := Lib.hid (grownE_trans HXU1.out (grownE hEZ (some w3.heap.size)))
            clear hEZ y2 HA2
            rcases hres with ⟨v2, hv2, rfl⟩ | ⟨v2, te, pe, hv2, rfl⟩
            case inr =>
              have HJR := Lib.hid (HWN.out we (by rw [HN2.out]; simp) (atoiV_none hv2))
              clear hv2
              go_wp2_with fail
              go_step3
              exact ⟨rfl, rfl, rfl, rfl, HSZ2.out.res, HSZ2.out.ext, HJR.out⟩
            have HV2 := Lib.hid hv2
            clear hv2
            obtain ⟨l0, l1, l2⟩ := HSZ2.out.cells
            obtain ⟨f0, f1, f2⟩ := HSZ2.out.fro
            have HSU2 := Lib.hid (HSZ2.out.set2 v2)
            have HXU2 := Lib.hid (grownE_trans HXZ2.out (grownE_set Z2 w3.heap.size 2 (.int .i64 v2)))
            go_wp2_with fail
            clear l0 l1 l2 f0 f1 f2
            rw [rounds_succ]
            obtain ⟨l0, l1, l2⟩ := HSU2.out.cells
            obtain ⟨f0, f1, f2⟩ := HSU2.out.fro
            have cc := HSU2.out.c
            have HSF := Lib.hid HSU2.out
            obtain ⟨ev, hev⟩ : ∃ ev, madeE k v2 v0 v1 = ev := ⟨_, rfl⟩
            have HM := Lib.hid (fun W => made_any k v2 v0 v1 W)
            rw [hev] at HM
            have hin : InEv ev := by rw [← hev]; exact (madeE_any ⟨hk1, hk4⟩ (atoiV_in HV2.out) (atoiV_in HV0.out) (atoiV_in HV1.out)).2.1
            have HTX := Lib.hid (fun W h => HT.out ev hin W h)
            have hrd := HRP2.out v0 v1 v2 (by rw [HN2.out]; exact HV0.out) (by rw [HN2.out]; exact HV1.out) (fun h => by rw [HN2.out]; exact HV2.out)
            rw [HEVO.out] at hrd
            have hrd2 : Reads s.data.toList (if textE ev = s.data.toList then some ev else none) := by
              rw [← hev]
              simpa using hrd
            have HRD := Lib.hid hrd2
            clear hrd hrd2 hin hev
            go_wp2_with fail
            refine (HM.out _).mono ?_
            rintro r Wm ⟨rfl, hEm⟩
            have hSm := HSF.out.keep hEm
            have HSM := Lib.hid hSm
            clear hEm l0 l1 l2 f0 f1 f2 cc hSm
            go_wp2_with (refine store_TE 23 23 (w3.heap.size + 1) [.int .i64 0, .int .i64 0, .int .i64 0, .int .i64 0, .int .i64 0] ev.cells HSM.out.v rfl (by kernel_rfl) (ev_cells_one ev) rfl (.tmp 7) (.tmp 84) rfl rfl rfl ?_; intro Ws hs hgs; obtain ⟨d0, d1, d2, d3, d4⟩ := EvBlk.get (show EvBlk Ws (w3.heap.size + 1) ev from hs))
            have hXs : Ext w Ws := Ext.grow_ge HSM.out.ext hgs (fun b e => by simp only [Option.some.injEq] at e; have := HSM.out.lo; omega)
            have HXS := Lib.hid hXs
            have HRS := Lib.hid (HSM.out.res.over hgs (by have := HSM.out.ne; omega))
            refine (HTX.out Ws hXs).mono ?_
            rintro r Wt ⟨rfl, hEt⟩
            have hET := (show EvBlk Ws (w3.heap.size + 1) ev from hs).ext hEt
            have HRT := Lib.hid (HRS.out.ext hEt)
            have HXT := Lib.hid (Ext.trans hXs hEt)
            clear d0 d1 d2 d3 d4 hXs hs hgs hEt
            obtain ⟨d0, d1, d2, d3, d4⟩ := hET.get
            clear hET
            have HCM := Lib.hid (ba_beq (textE ev) s)
            by_cases hT : textE ev = s.data.toList
            · have tq : ((⟨(textE ev).toArray⟩ : ByteArray).toList == s.toList) = true := by rw [HCM.out]; exact decide_eq_true hT
              have hrd := HRD.out
              rw [if_pos hT] at hrd
              have HR2 := Lib.hid hrd
              clear hrd hT
              generalize (⟨(textE ev).toArray⟩ : ByteArray) = TB at *
              go_wp2_with (refine store_TE 23 23 w.heap.size [.int .i64 0, .int .i64 0, .int .i64 0, .int .i64 0, .int .i64 0] ev.cells HRT.out rfl (by kernel_rfl) (ev_cells_one ev) rfl (.tmp 2) (.tmp 89) rfl rfl rfl ?_; intro w9 h9 hg9)
              simp only [Exit.jump]
              refine bodyPost_ret (results_Eb (e := ev) rfl h9 _ (.bool true) rfl rfl) rfl ⟨⟨some ev, HR2.out, rfl⟩, Ext.grow_ge HXT.out hg9 (fun b e => by simp only [Option.some.injEq] at e; omega)⟩
            · have tq : ((⟨(textE ev).toArray⟩ : ByteArray).toList == s.toList) = false := by rw [HCM.out]; exact decide_eq_false hT
              have hrd := HRD.out
              rw [if_neg hT] at hrd
              have HR2 := Lib.hid hrd
              clear hrd hT
              generalize (⟨(textE ev).toArray⟩ : ByteArray) = TB at *
              go_wp2_with fail
              apply wp_label
              go_wp2_with (refine store_TE 23 23 w.heap.size [.int .i64 0, .int .i64 0, .int .i64 0, .int .i64 0, .int .i64 0] [.int .i64 0, .int .i64 0, .int .i64 0, .int .i64 0, .int .i64 0] HRT.out rfl (by kernel_rfl) (by intro v hv; simp at hv; subst hv; rfl) rfl (.tmp 2) (.tmp 90) rfl rfl rfl ?_; intro w9 h9 hg9)
              simp only [Exit.jump]
              refine bodyPost_ret (results_Eb (e := zeroEv) rfl h9 _ (.bool false) rfl rfl) rfl ⟨⟨none, HR2.out, rfl⟩, Ext.grow_ge HXT.out hg9 (fun b e => by simp only [Option.some.injEq] at e; omega)⟩
        · rw [decide_eq_false ha] at hcmp
          have HJR := Lib.hid (HWR2.out ha)
          clear ha
          go_wp2_with fail
          go_step3
          exact ⟨rfl, rfl, rfl, rfl, (by rw [HVV.out]; exact HRV.out), (by rw [HVV.out]; exact HXV.out), HJR.out⟩
end Go.Proofs.YtompfgofaplffaaGreatDoor
