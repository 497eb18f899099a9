/- The contract of the reference's piece, by that of its whole. -/
import Derived.Test.YtggkkjnfonbpkaaGreatDoorQHf
import Derived.Test.YtggkkjnfonbpkaaGreatDoorQXj

set_option linter.unusedSimpArgs false
set_option linter.unusedVariables false
namespace Go.Proofs.YtggkkjnfonbpkaaGreatDoor
open Go.RowKit Hach

/- how far a reading has come: what is known where nothing was wrong before -/
def RPl (ts : List Tok) (k : Bool) (res : Option (Ex × List Tok)) (x : Ex) (r : List Tok) (k' : Bool) : Prop := r.length ≤ ts.length ∧ (k = true → k' = true) ∧ (k = false → match res with
  | some p => k' = false ∧ x = p.1 ∧ r = p.2
  | none => k' = true)
def RRead (b : Nat) (w : World) (ts : List Tok) (k : Bool) (res : Option (Ex × List Tok)) (e : Ending) (w' : World) : Prop := w.grownBy w' (some b) ∧ ∃ x r k', ExpR w x e w' ∧ RL w' b r k' ∧ RPl ts k res x r k'
def RPieceC (n : Nat) : Prop := ∀ (b : Nat) (ts : List Tok) (k : Bool) (w : World), RL w b ts k → 2 * ts.length + 1 ≤ n → Calls Tryz.prog 70 #[rp b] w (RRead b w ts k (pieceF n false ts))
def RWholeC (n : Nat) : Prop := ∀ (b : Nat) (ts : List Tok) (k : Bool) (w : World), RL w b ts k → 2 * ts.length + 2 ≤ n → Calls Tryz.prog 47 #[rp b] w (RRead b w ts k (wholeF n false ts))
theorem rfin {fn : Func} {t : Tmp} (hr : fn.results = #[.cell t 29]) {b blk : Nat} {w wr : World} {ts : List Tok} {k : Bool} {res : Option (Ex × List Tok)} (x : Ex) (r : List Tok) (k' : Bool) (hz : Zero7 wr blk) (hblk : w.heap.size ≤ blk) (hb : b < w.heap.size) (hg : w.grownBy wr (some b)) (hrl : RL wr b r k')
    (A : Option Addr) (n c d : Nat) (hn : n = x.l.length) (hk : ExL wr (fun k => w.heap.size ≤ k ∧ k < wr.heap.size ∧ k ≠ blk) d A x.l) {tmps : Array Value} (ht : tmps.getD t undef = .pointer (some ⟨blk, 0, none⟩)) (hpl : RPl ts k res x r k') :
    bodyPost Tryz.prog fn (RRead b w ts k res) Exit.ret ⟨tmps, []⟩ (set7 wr blk x (.slice A n c)) := by
  have hG := set7_grown wr blk x (.slice A n c)
  have hS := set7_size wr blk x (.slice A n c)
  refine bodyPost_ret (results_blk hr (set7_in hz x _) tmps ht) rfl ⟨grown_new hg hblk hG, x, r, k', ⟨A, c, d, by subst hn; rfl, ?_⟩, hrl.own hG (fun y e => by simp only [Option.some.injEq] at e; omega), hpl⟩
  exact (hk.keep fun k hk o => grown_cell hG hk.2.1 (by simp; exact fun e => hk.2.2 e.symm) o).more fun k hk => ⟨hk.1, by rw [hS]; exact hk.2.1⟩
theorem takeT_some' {u : Tok} {ts r : List Tok} (h : takeT u ts = some r) : ts = u :: r := by
  cases ts with
  | nil => cases h
  | cons t q =>
    by_cases ht : t = u
    · rw [show takeT u (t :: q) = some q from if_pos ht] at h
      rw [Option.some.inj h, ht]
    · rw [show takeT u (t :: q) = none from if_neg ht] at h
      cases h
/- what take leaves -/
theorem TakeR.left {b : Nat} {w w' : World} {ts : List Tok} {k : Bool} {u : Tok} {e : Ending} (h : TakeR b w ts k u e w') : e = .returned (.tuple #[]) ∧ w.grownBy w' (some b) ∧ ∃ r k', RL w' b r k' ∧ r.length ≤ ts.length ∧ ((takeT u ts = some r ∧ k' = k) ∨ (takeT u ts = none ∧ r = ts ∧ k' = true)) := by
  obtain ⟨he, hg, h⟩ := h
  refine ⟨he, hg, ?_⟩
  cases hq : takeT u ts with
  | none => rw [hq] at h; exact ⟨ts, true, h, Nat.le_refl _, .inr ⟨rfl, rfl, rfl⟩⟩
  | some r =>
    rw [hq] at h
    refine ⟨r, k, h, ?_, .inl ⟨rfl, rfl⟩⟩
    rw [takeT_some' hq]; simp
theorem Zero7.lt' {w : World} {blk : Nat} (h : Zero7 w blk) : blk < w.heap.size := (Array.getElem?_eq_some_iff.1 h).1
abbrev InBlkC (W : World) (b : Nat) (op var ty n : Int) (bb : Bool) (s : List UInt8) : Prop := W.cell? ⟨b, 0, none⟩ = some (.int .i64 op) ∧ W.cell? ⟨b, 1, none⟩ = some (.int .i64 var) ∧ W.cell? ⟨b, 2, none⟩ = some (.int .i64 ty) ∧ W.cell? ⟨b, 3, none⟩ = some (.int .i64 n) ∧ W.cell? ⟨b, 4, none⟩ = some (.bool bb) ∧ W.cell? ⟨b, 5, none⟩ = some (.string ⟨s.toArray⟩) ∧ W.cell? ⟨b, 6, none⟩ = some (.slice none 0 0)
set_option maxRecDepth 100000 in
set_option maxHeartbeats 8000000 in
theorem rpiece_step (n : Nat) (hw : RWholeC n) : RPieceC (n + 1) := by
  intro b ts k w hrs hn
  have hbl := hrs.lt
  have HTK := Lib.hid hrs.toks
  have hz := Zero7.new w
  obtain ⟨w0, hw0⟩ : ∃ w0, w.alloc (.cells zero7 29) = w0 := ⟨_, rfl⟩
  have hE0 : Ext w w0 := by rw [← hw0]; exact Ext.alloc _ _
  have hs0 : w0.heap.size = w.heap.size + 1 := by rw [← hw0]; simp
  rw [hw0] at hz
  have hrs0 := hrs.ext hE0
  have HW := Lib.hid hw0
  have hs0' : w.heap.size + 1 ≤ w0.heap.size := by omega
  have hG0 : w.grownBy w0 (some b) := grown_of hE0 _
  have HBK := Lib.hid (show some w.heap.size ≠ some b by simp; omega)
  have HN := Lib.hid (rnext_any hrs0)
  unfold zero7 at HW
  clear hw0 hs0 hrs
  cases ts with
  | nil =>
    unfold hd bs at HN
    simp only [List.headD_nil] at HN
    unfold rp at *
    go_enter Tryz.func70, Tryz.ntmps70
    go_upto_region 1 with fail
    rw [HW.out]
    go_wp2_with fail
    refine HN.out.mono ?_
    rintro e w1 ⟨rfl, hE1⟩
    have hz1 := hz.own (grown_of hE1 none) (by simp)
    obtain ⟨A, c, h1, h2⟩ := hrs0.ext hE1
    obtain ⟨c0, c1, g0, g1⟩ := h1.cells
    have hG1 := grown_trans (grown_trans hG0 (grown_of hE1 (some b))) (grown_set w1 b 1 (.bool true))
    have hrl2 : RL (w1.setCell ⟨b, 1, none⟩ (.bool true)) b [] true := ⟨A, c, h1.set1 true, h2.own h1.lt (grown_set _ _ _ _) (fun x e => by simp only [Option.some.injEq] at e; omega)⟩
    have hz2 := hz1.own (grown_set w1 b 1 (.bool true)) HBK.out
    clear h1 h2
    obtain ⟨u0, u1, u2, u3, u4, u5, u6⟩ := hz2.cells
    obtain ⟨f0, f1, f2, f3, f4, f5, f6⟩ := hz2.free
    go_wp2_with fail
    exact rfin rfl zeroE [] true hz2 (Nat.le_refl _) hbl hG1 hrl2 none 0 0 0 rfl (ExL.nil _ _ _ _) rfl ⟨Nat.le_refl _, fun _ => rfl, fun _ => rfl⟩
  | cons t r =>
    have hit := HTK.out.1 t (by simp)
    obtain ⟨D, hD⟩ : ∃ D : ByteArray, ⟨t.toArray⟩ = D := ⟨_, rfl⟩
    have HD := Lib.hid hD
    have hDz := bs_list t [] D hD
    rw [decide_eq_false hit.1.ne] at hDz
    have hDz2 : D.toList.isEmpty = false := by
      have : D.toList = t := by rw [← hD, ByteArray.toList_eq]
      rw [this]; exact str_ne hit.1.ne
    have hq40 := bs_list t [40] D hD
    have HIT := Lib.hid hit
    have hlr : 2 * r.length + 2 ≤ n := by simp only [List.length_cons] at hn; omega
    have TK := Lib.hid (fun (W : World) (h : RL W b (t :: r) k) => rtake_any h t hit.1.ne)
    unfold hd at HN
    simp only [List.headD_cons] at HN
    unfold rp bs at *
    rw [hD] at HN
    simp only [hD] at TK
    clear hit hD
    by_cases h40 : t = [40]
    · rw [decide_eq_true h40] at hq40
      obtain ⟨res, hres⟩ : ∃ res, wholeF n false r = res := ⟨_, rfl⟩
      have HP := Lib.hid (show pieceF (n + 1) false (t :: r) = res.bind fun p => (takeT [41] p.2).bind fun r1 => some (p.1, r1) by rw [pieceF, if_pos h40, hres])
      have HWH := Lib.hid (fun (W : World) (h : RL W b r k) => hw b r k W h hlr)
      rw [hres] at HWH
      clear h40 hres hw
      go_enter Tryz.func70, Tryz.ntmps70
      go_upto_region 1 with fail
      rw [HW.out]
      go_wp2_with fail
      refine HN.out.mono ?_
      rintro e w1 ⟨rfl, hE1⟩
      go_wp2_with fail
      refine (TK.out _ (hrs0.ext hE1)).mono ?_
      rintro e w2 ⟨rfl, hg2, hr2⟩
      rw [takeT_hit'] at hr2
      go_wp2_with fail
      refine (HWH.out _ hr2).mono ?_
      rintro e w3 ⟨hg3, x, r3, k3, ⟨A, c, d, rfl, hX⟩, hr3, hpl⟩
      have hG3 := grown_trans (grown_trans (grown_trans hG0 (grown_of hE1 (some b))) hg2) hg3
      have hz3 := ((hz.own (grown_of hE1 none) (by simp)).own hg2 HBK.out).own hg3 HBK.out
      have hE4 : Ext w3 (w3.alloc (.cells (x.cells A c).toArray 29)) := Ext.alloc _ _
      have hin4 := InBlk.new2 w3 x A c
      have hr4 := hr3.ext hE4
      have TK4 := Lib.hid (rtake_any hr4 [41] (by simp))
      have hz4 := hz3.own (grown_of hE4 none) (by simp)
      have hG4 := grown_trans hG3 (grown_of hE4 (some b))
      have hw23 : w0.heap.size ≤ w2.heap.size ∧ w2.heap.size ≤ w3.heap.size := by have h1 := hE1.sz; have h2 := hg2.size; have h3 := hg3.size; omega
      have hb3 : b < w3.heap.size := hr3.lt
      obtain ⟨i0, i1, i2, i3, i4, i5, i6⟩ := hin4.cells
      have HPL := Lib.hid hpl
      unfold rp bs at TK4
      unfold Ex.cells at *
      clear hr3 hr4 hz3 hG3 hE1 hg2 hg3 hr2 hpl
      go_wp2_with fail
      refine TK4.out.mono ?_
      rintro e w5 hTR
      obtain ⟨rfl, hg5, r5, k5, hr5, hl5, hk5⟩ := hTR.left
      have HK5 := Lib.hid hk5
      have hin5 := hin4.own hg5 (by simp; omega)
      obtain ⟨y0, y1, y2, y3, y4, y5, y6⟩ := hin5.cells
      have hz5 := hz4.own hg5 HBK.out
      have hG5 := grown_trans hG4 hg5
      obtain ⟨u0, u1, u2, u3, u4, u5, u6⟩ := hz5.cells
      obtain ⟨f0, f1, f2, f3, f4, f5, f6⟩ := hz5.free
      have hX5 : ExL w5 (fun k => w.heap.size ≤ k ∧ k < w5.heap.size ∧ k ≠ w.heap.size) d A x.l := by
        have h5 := hg5.size
        have h4 := hE4.sz
        exact (((hX.keep fun k hk o => hE4.old (p := ⟨k, o, none⟩) hk.2).keep fun k hk o => grown_cell hg5 (by omega) (by simp; omega) o)).more fun k hk => ⟨by omega, by omega, by omega⟩
      have HX5 := Lib.hid hX5
      clear hX hX5 hk5 hTR i0 i1 i2 i3 i4 i5 i6
      go_wp2_with fail
      refine rfin rfl x r5 k5 hz5 (Nat.le_refl _) hbl hG5 hr5 A _ c d rfl HX5.out rfl ?_
      obtain ⟨p1, p2, p3⟩ := HPL.out
      refine ⟨by rw [List.length_cons]; omega, fun hk => ?_, fun hk => ?_⟩
      · rcases HK5.out with ⟨_, e⟩ | ⟨_, _, e⟩
        · rw [e]; exact p2 hk
        · exact e
      · rw [HP.out]
        have p4 := p3 hk
        cases res with
        | none =>
          simp only at p4
          rcases HK5.out with ⟨_, e⟩ | ⟨_, _, e⟩
          · show k5 = true; rw [e]; exact p4
          · exact e
        | some p =>
          obtain ⟨y, q⟩ := p
          simp only at p4
          obtain ⟨e1, e2, e3⟩ := p4
          subst e2; subst e3
          simp only [Option.bind_some]
          rcases HK5.out with ⟨h, e⟩ | ⟨h, _, e⟩
          · rw [h]; exact ⟨by rw [e]; exact e1, rfl, rfl⟩
          · rw [h]; exact e
    · rw [decide_eq_false h40] at hq40
      have HP0 := Lib.hid (show pieceF (n + 1) false (t :: r) = pieceR t r from pieceF_rest n false t r h40)
      have htl := (HTK.out.1 t (by simp)).2
      have IX := Lib.hid (show ∀ (g : Nat) W, RowS W g nmL → Calls Tryz.prog 71 #[.slice (some ⟨g, 0, none⟩) 9 9, .string D] W fun e w' => e = .returned (.int .i64 (ixI nmL t)) ∧ w' = W from fun g W hR => by
        have h := rindex_any nmL t g W hR (by decide)
        unfold bs at h
        rw [HD.out] at h
        exact h)
      have CN := Lib.hid (fun (W : World) => const_any t HIT.out.1 htl W)
      unfold bs at CN
      rw [HD.out] at CN
      clear h40 hw htl
      cases hix : ix nmL t with
      | some j =>
        have HP := Lib.hid (show pieceF (n + 1) false (t :: r) = some (exVar j, r) by rw [HP0.out]; unfold pieceR; rw [hix])
        have hi : ixI nmL t = (j : Int) := by unfold ixI; rw [hix]
        have hk9 : j < 9 := ix_lt hix
        rw [hi] at IX
        clear hix hi CN
        go_enter Tryz.func70, Tryz.ntmps70
        go_upto_region 1 with fail
        rw [HW.out]
        go_wp2_with fail
        refine HN.out.mono ?_
        rintro e w1 ⟨rfl, hE1⟩
        go_wp2_with fail
        refine (TK.out _ (hrs0.ext hE1)).mono ?_
        rintro e w2 ⟨rfl, hg2, hr2⟩
        rw [takeT_hit'] at hr2
        go_wp2_with fail
        refine (rNames_any _).mono ?_
        rintro e w3 ⟨rfl, hrow, hE3⟩
        have h9 : nmL.length = 9 := rfl
        simp only [h9]
        have hG3 := grown_trans (grown_trans (grown_trans hG0 (grown_of hE1 (some b))) hg2) (grown_of hE3 (some b))
        have hz3 := ((hz.own (grown_of hE1 none) (by simp)).own hg2 HBK.out).own (grown_of hE3 none) (by simp)
        have hr3 := hr2.ext hE3
        obtain ⟨u0, u1, u2, u3, u4, u5, u6⟩ := hz3.cells
        obtain ⟨f0, f1, f2, f3, f4, f5, f6⟩ := hz3.free
        clear h9 hg2 hE1 hr2
        go_wp2_with fail
        refine (IX.out _ _ hrow).mono ?_
        rintro e w' ⟨rfl, rfl⟩
        go_wp2_with fail
        exact rfin rfl (exVar j) r k hz3 (Nat.le_refl _) hbl hG3 hr3 none 0 0 0 rfl (ExL.nil _ _ _ _) rfl ⟨by simp, fun h => h, fun h => by rw [HP.out]; exact ⟨h, rfl, rfl⟩⟩
      | none =>
        have hi : ixI nmL t = -1 := by unfold ixI; rw [hix]
        have HP := Lib.hid (show pieceF (n + 1) false (t :: r) = (constOf t).bind fun v => some (exCon v, r) by rw [HP0.out]; unfold pieceR; rw [hix])
        rw [hi] at IX
        clear hix hi
        go_enter Tryz.func70, Tryz.ntmps70
        go_upto_region 1 with fail
        rw [HW.out]
        go_wp2_with fail
        refine HN.out.mono ?_
        rintro e w1 ⟨rfl, hE1⟩
        go_wp2_with fail
        refine (TK.out _ (hrs0.ext hE1)).mono ?_
        rintro e w2 ⟨rfl, hg2, hr2⟩
        rw [takeT_hit'] at hr2
        go_wp2_with fail
        refine (rNames_any _).mono ?_
        rintro e w3 ⟨rfl, hrow, hE3⟩
        have h9 : nmL.length = 9 := rfl
        simp only [h9]
        have hG3 := grown_trans (grown_trans (grown_trans hG0 (grown_of hE1 (some b))) hg2) (grown_of hE3 (some b))
        have hz3 := ((hz.own (grown_of hE1 none) (by simp)).own hg2 HBK.out).own (grown_of hE3 none) (by simp)
        have hr3 := hr2.ext hE3
        clear h9
        go_wp2_with fail
        refine (IX.out _ _ hrow).mono ?_
        rintro e w' ⟨rfl, rfl⟩
        go_wp2_with fail
        refine (CN.out _).mono ?_
        rintro e w4 ⟨⟨x, hxl, rfl, hxv⟩, hE4⟩
        obtain ⟨op, var, ty, nn, bb, ss, l⟩ := x
        obtain rfl : l = [] := hxl
        have hE5 : Ext w4 (w4.alloc (.cells #[.int .i64 op, .int .i64 var, .int .i64 ty, .int .i64 nn, .bool bb, .string ⟨ss.toArray⟩, .slice none 0 0] 29)) := Ext.alloc _ _
        have hin5 : InBlk (w4.alloc (.cells #[.int .i64 op, .int .i64 var, .int .i64 ty, .int .i64 nn, .bool bb, .string ⟨ss.toArray⟩, .slice none 0 0] 29)) w4.heap.size (.mk op var ty nn bb ss []) (.slice none 0 0) := InBlk.new2 w4 (.mk op var ty nn bb ss []) none 0
        have hz5 := (hz3.own (grown_of hE4 none) (by simp)).own (grown_of hE5 none) (by simp)
        have hG5 := grown_trans (grown_trans hG3 (grown_of hE4 (some b))) (grown_of hE5 (some b))
        have hr5 := (hr3.ext hE4).ext hE5
        have HXV := Lib.hid hxv
        have hsz5 : w.heap.size < w4.heap.size ∧ b < w4.heap.size := by have h1 := hz5.lt'; have h2 := (hr3.ext hE4).lt; have h3 := hE1.sz; have h4 := hg2.size; have h5 := hE3.sz; have h6 := hE4.sz; omega
        obtain ⟨i0, i1, i2, i3, i4, i5, i6⟩ := (show InBlkC _ w4.heap.size op var ty nn bb ss from hin5.cells)
        have HSZ5 := Lib.hid hsz5
        clear hg2 hE1 hr2 hr3 hG3 hz3 hxv hsz5
        cases hct : constOf t with
        | some v =>
          rw [hct] at HP
          have HX := Lib.hid (HXV.out v hct)
          obtain ⟨u0, u1, u2, u3, u4, u5, u6⟩ := hz5.cells
          obtain ⟨f0, f1, f2, f3, f4, f5, f6⟩ := hz5.free
          rw [show (Ex.mk op var ty nn bb ss []).cells none 0 = [.int .i64 op, .int .i64 var, .int .i64 ty, .int .i64 nn, .bool bb, .string ⟨ss.toArray⟩, .slice none 0 0] from rfl]
          simp only [Option.isSome]
          clear hct
          go_wp2_with fail
          exact rfin rfl (.mk op var ty nn bb ss []) r k hz5 (Nat.le_refl _) hbl hG5 hr5 none 0 0 0 rfl (ExL.nil _ _ _ _) rfl ⟨by simp, fun h => h, fun h => by rw [HP.out]; exact ⟨h, HX.out, rfl⟩⟩
        | none =>
          rw [hct] at HP
          obtain ⟨A, c, h1, h2⟩ := hr5
          obtain ⟨c0, c1, g0, g1⟩ := h1.cells
          have hgs := grown_set (w4.alloc (.cells #[.int .i64 op, .int .i64 var, .int .i64 ty, .int .i64 nn, .bool bb, .string ⟨ss.toArray⟩, .slice none 0 0] 29)) b 1 (.bool true)
          have hG6 := grown_trans hG5 hgs
          have hz6 := hz5.own hgs HBK.out
          have hin6 := hin5.own hgs (by simp; have := HSZ5.out; omega)
          have hr6 : RL _ b r true := ⟨A, c, h1.set1 true, h2.own h1.lt hgs (fun x e => by simp only [Option.some.injEq] at e; omega)⟩
          obtain ⟨u0, u1, u2, u3, u4, u5, u6⟩ := hz6.cells
          obtain ⟨f0, f1, f2, f3, f4, f5, f6⟩ := hz6.free
          obtain ⟨j0, j1, j2, j3, j4, j5, j6⟩ := (show InBlkC _ w4.heap.size op var ty nn bb ss from hin6.cells)
          rw [show (Ex.mk op var ty nn bb ss []).cells none 0 = [.int .i64 op, .int .i64 var, .int .i64 ty, .int .i64 nn, .bool bb, .string ⟨ss.toArray⟩, .slice none 0 0] from rfl]
          simp only [Option.isSome]
          clear hct h1 h2 i0 i1 i2 i3 i4 i5 i6
          go_wp2_with fail
          exact rfin rfl (.mk op var ty nn bb ss []) r true hz6 (Nat.le_refl _) hbl hG6 hr6 none 0 0 0 rfl (ExL.nil _ _ _ _) rfl ⟨by simp, fun h => rfl, fun h => by rw [HP.out]; rfl⟩
end Go.Proofs.YtggkkjnfonbpkaaGreatDoor
