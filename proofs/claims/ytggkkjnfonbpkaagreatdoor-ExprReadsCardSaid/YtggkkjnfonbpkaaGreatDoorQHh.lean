/- The contract of the reference's whole, by that of its piece; both; its Parse (printed by gen_hh.py). -/
import Derived.Test.YtggkkjnfonbpkaaGreatDoorQHg
import Derived.Deep.RegionWith
import Derived.IntWalk

set_option linter.unusedSimpArgs false
set_option linter.unusedVariables false
namespace Go.Proofs.YtggkkjnfonbpkaaGreatDoor
open Go.RowKit Hach

theorem RPl.not {n : Nat} {r r' : List Tok} {x : Ex} {k' : Bool} (h : RPl r false (pieceF n false r) x r' k') : RPl ([110, 111, 116] :: r) false (wholeF (n + 1) false ([110, 111, 116] :: r)) (exOp 3 [x]) r' k' := by
  obtain ⟨h1, h2, h3⟩ := h
  have h4 := h3 rfl
  refine ⟨by rw [List.length_cons]; omega, fun h => (by cases h), fun _ => ?_⟩
  rw [whole_not]
  cases hp : pieceF n false r with
  | none => rw [hp] at h4; exact h4
  | some p =>
    rw [hp] at h4
    obtain ⟨a, b, c⟩ := h4
    subst b; subst c
    exact ⟨a, rfl, rfl⟩
/- a step of take: hit, or wrong from now on -/
def Tk (u : Tok) (ts r : List Tok) (k k' : Bool) : Prop := (takeT u ts = some r ∧ k' = k) ∨ (takeT u ts = none ∧ r = ts ∧ k' = true)
theorem Tk.bad {u : Tok} {ts r : List Tok} {k k' : Bool} (h : Tk u ts r k k') (hk : k = true) : k' = true := by
  rcases h with ⟨_, e⟩ | ⟨_, _, e⟩
  · rw [e]; exact hk
  · exact e
theorem RPl.ite {n : Nat} {r r0 r1 r2 r3 r4 : List Tok} {x0 x1 x2 : Ex} {k0 k1 k2 k3 k4 : Bool} (h0 : RPl r false (pieceF n false r) x0 r0 k0) (t1 : Tk [116, 104, 101, 110] r0 r1 k0 k1) (l1 : r1.length ≤ r0.length) (h1 : RPl r1 k1 (pieceF n false r1) x1 r2 k2) (t2 : Tk [101, 108, 115, 101] r2 r3 k2 k3) (l2 : r3.length ≤ r2.length) (h2 : RPl r3 k3 (pieceF n false r3) x2 r4 k4) :
    RPl ([105, 102] :: r) false (wholeF (n + 1) false ([105, 102] :: r)) (exOp 13 [x0, x1, x2]) r4 k4 := by
  obtain ⟨a1, a2, a3⟩ := h0
  obtain ⟨b1, b2, b3⟩ := h1
  obtain ⟨c1, c2, c3⟩ := h2
  refine ⟨by rw [List.length_cons]; omega, fun h => (by cases h), fun _ => ?_⟩
  have a4 := a3 rfl
  rw [whole_if]
  cases hp : pieceF n false r with
  | none => rw [hp] at a4; exact c2 (t2.bad (b2 (t1.bad a4)))
  | some p =>
    rw [hp] at a4
    obtain ⟨e1, e2, e3⟩ := a4
    subst e2; subst e3
    simp only [Option.bind_some]
    rcases t1 with ⟨q1, q2⟩ | ⟨q1, q2, q3⟩
    · rw [show takeT tThen p.2 = some r1 from q1, Option.bind_some]
      rw [q2] at b2 b3
      have b4 := b3 e1
      cases hp1 : pieceF n false r1 with
      | none => rw [hp1] at b4; exact c2 (t2.bad b4)
      | some p1 =>
        rw [hp1] at b4
        obtain ⟨f1, f2, f3⟩ := b4
        subst f2; subst f3
        simp only [Option.bind_some]
        rcases t2 with ⟨s1, s2⟩ | ⟨s1, s2, s3⟩
        · rw [show takeT tElse p1.2 = some r3 from s1, Option.bind_some]
          rw [s2] at c2 c3
          have c4 := c3 f1
          cases hp2 : pieceF n false r3 with
          | none => rw [hp2] at c4; exact c4
          | some p2 =>
            rw [hp2] at c4
            obtain ⟨g1, g2, g3⟩ := c4
            subst g2; subst g3
            exact ⟨g1, rfl, rfl⟩
        · rw [show takeT tElse p1.2 = none from s1]; exact c2 s3
    · rw [show takeT tThen p.2 = none from q1]; exact c2 (t2.bad (b2 q3))
theorem whole_tail (n : Nat) (ts : List Tok) (h1 : hd ts ≠ [110, 111, 116]) (h2 : hd ts ≠ [105, 102]) : wholeF (n + 1) false ts = (pieceF n false ts).bind fun p => tailF n false p.1 p.2 := by
  cases ts with
  | nil => rw [piece_nil]; rfl
  | cons t r => exact whole_two n false t r h1 h2
theorem RPl.one {n : Nat} {ts r0 : List Tok} {x0 : Ex} {k0 : Bool} (hn1 : hd ts ≠ [110, 111, 116]) (hn2 : hd ts ≠ [105, 102]) (h0 : RPl ts false (pieceF n false ts) x0 r0 k0) (hi : ix wdL (hd r0) = none) : RPl ts false (wholeF (n + 1) false ts) x0 r0 k0 := by
  obtain ⟨a1, a2, a3⟩ := h0
  refine ⟨a1, a2, fun _ => ?_⟩
  have a4 := a3 rfl
  rw [whole_tail n ts hn1 hn2]
  cases hp : pieceF n false ts with
  | none => rw [hp] at a4; exact a4
  | some p =>
    rw [hp] at a4
    obtain ⟨e1, e2, e3⟩ := a4
    subst e2; subst e3
    simp only [Option.bind_some]
    have : tailF n false p.1 p.2 = some (p.1, p.2) := by
      cases hq : p.2 with
      | nil => rw [tailF_nil, if_neg (by simp)]
      | cons o l => rw [hq] at hi; exact tailF_none hi
    rw [this]
    exact ⟨e1, rfl, rfl⟩
theorem RPl.two {n j : Nat} {ts r' r1 : List Tok} {o : Tok} {x0 x1 : Ex} {k0 k1 : Bool} (hn1 : hd ts ≠ [110, 111, 116]) (hn2 : hd ts ≠ [105, 102]) (h0 : RPl ts false (pieceF n false ts) x0 (o :: r') k0) (hi : ix wdL o = some j) (h1 : RPl r' k0 (pieceF n false r') x1 r1 k1) : RPl ts false (wholeF (n + 1) false ts) (exOp (4 + (j : Int)) [x0, x1]) r1 k1 := by
  obtain ⟨a1, a2, a3⟩ := h0
  obtain ⟨b1, b2, b3⟩ := h1
  refine ⟨by rw [List.length_cons] at a1; omega, fun h => (by cases h), fun _ => ?_⟩
  have a4 := a3 rfl
  rw [whole_tail n ts hn1 hn2]
  cases hp : pieceF n false ts with
  | none => rw [hp] at a4; exact b2 a4
  | some p =>
    rw [hp] at a4
    obtain ⟨e1, e2, e3⟩ := a4
    obtain ⟨p1, p2⟩ := p
    simp only at e2 e3
    subst e2; subst e3
    simp only [Option.bind_some]
    rw [tailF_some hi]
    have b4 := b3 e1
    cases hp1 : pieceF n false r' with
    | none => rw [hp1] at b4; exact b4
    | some p1 =>
      rw [hp1] at b4
      obtain ⟨f1, f2, f3⟩ := b4
      subst f2; subst f3
      exact ⟨f1, rfl, rfl⟩
set_option maxRecDepth 100000 in
set_option maxHeartbeats 8000000 in
theorem rwhole_step (n : Nat) (hpc : RPieceC n) : RWholeC (n + 1) := by
  intro b ts k w hrs hn
  have hbl := hrs.lt
  have hz := Zero7.new w
  obtain ⟨w0, hw0⟩ : ∃ w0, w.alloc (.cells zero7 29) = w0 := ⟨_, rfl⟩
  have hE0 : Ext w w0 := by rw [← hw0]; exact Ext.alloc _ _
  have hs0 : w0.heap.size = w.heap.size + 1 := by rw [← hw0]; simp
  rw [hw0] at hz
  have hrs0 := hrs.ext hE0
  have HW := Lib.hid hw0
  have hs0' : w.heap.size + 1 ≤ w0.heap.size := by omega
  have hG0 : w.grownBy w0 (some b) := grown_of hE0 _
  have HBK := Lib.hid (show some w.heap.size ≠ some b by simp; omega)
  have NX := Lib.hid (fun (ts : List Tok) (k : Bool) (W : World) (h : RL W b ts k) => rnext_any h)
  have TK := Lib.hid (fun (u : Tok) (hu : u ≠ []) (ts : List Tok) (k : Bool) (W : World) (h : RL W b ts k) => rtake_any h u hu)
  have PC := Lib.hid (fun (ts : List Tok) (k : Bool) (W : World) (h : RL W b ts k) (hl : 2 * ts.length + 1 ≤ n) => hpc b ts k W h hl)
  unfold zero7 at HW
  clear hw0 hs0 hrs hpc
  obtain ⟨A0, cc0, h1, h2⟩ := id hrs0
  obtain ⟨q0, q1, g0, g1⟩ := h1.cells
  clear h1 h2
  cases k with
  | true =>
    obtain ⟨u0, u1, u2, u3, u4, u5, u6⟩ := hz.cells
    obtain ⟨f0, f1, f2, f3, f4, f5, f6⟩ := hz.free
    unfold rp
    go_enter Tryz.func47, Tryz.ntmps47
    go_upto_region 1 with fail
    rw [HW.out]
    go_wp2_with fail
    exact rfin rfl zeroE ts true hz (Nat.le_refl _) hbl hG0 hrs0 none 0 0 0 rfl (ExL.nil _ _ _ _) rfl ⟨Nat.le_refl _, fun _ => rfl, fun h => by cases h⟩
  | false =>
    obtain ⟨D, hD⟩ : ∃ D : ByteArray, ⟨(hd ts).toArray⟩ = D := ⟨_, rfl⟩
    have HD := Lib.hid hD
    have hqN := bs_list (hd ts) [110, 111, 116] D hD
    have hqI := bs_list (hd ts) [105, 102] D hD
    have NX0 := Lib.hid (fun (W : World) (h : RL W b ts false) => NX.out ts false W h)
    unfold rp bs at *
    rw [hD] at NX0
    clear hD
    by_cases hN : hd ts = [110, 111, 116]
    · rw [decide_eq_true hN] at hqN
      obtain ⟨r, rfl⟩ : ∃ r, ts = [110, 111, 116] :: r := by
        cases ts with
        | nil => cases hN
        | cons t r => exact ⟨r, by rw [show t = [110, 111, 116] from hN]⟩
      have hlr : 2 * r.length + 1 ≤ n := by simp only [List.length_cons] at hn; omega
      clear hN hqI
      go_enter Tryz.func47, Tryz.ntmps47
      go_upto_region 1 with fail
      rw [HW.out]
      go_wp2_with fail
      refine (NX0.out _ hrs0).mono ?_
      rintro e w1 ⟨rfl, hE1⟩
      go_wp2_with fail
      refine (TK.out [110, 111, 116] (by simp) _ _ _ (hrs0.ext hE1)).mono ?_
      rintro e w2 ⟨rfl, hg2, hr2⟩
      rw [takeT_hit'] at hr2
      go_wp2_with fail
      refine (PC.out r false _ hr2 hlr).mono ?_
      rintro e w3 ⟨hg3, x, r3, k3, ⟨A, c, d, rfl, hX⟩, hr3, hpl⟩
      have hG3 := grown_trans (grown_trans (grown_trans hG0 (grown_of hE1 (some b))) hg2) hg3
      have hz3 := ((hz.own (grown_of hE1 none) (by simp)).own hg2 HBK.out).own hg3 HBK.out
      have hw23 : w0.heap.size ≤ w2.heap.size := by have h1 := hE1.sz; have h2 := hg2.size; omega
      have hE4 : Ext w3 (w3.alloc (.cells #[.int .i64 x.op, .int .i64 x.var, .int .i64 x.ty, .int .i64 x.n, .bool x.b, .string ⟨x.s.toArray⟩, .slice A x.l.length c] 29)) := Ext.alloc _ _
      have hz4 := hz3.own (grown_of hE4 none) (by simp)
      have hr4 := hr3.ext hE4
      have hG4 := grown_trans hG3 (grown_of hE4 (some b))
      have hs3 := hg3.size
      have HX := Lib.hid hX
      have HPL := Lib.hid hpl
      obtain ⟨u0, u1, u2, u3, u4, u5, u6⟩ := hz4.cells
      obtain ⟨f0, f1, f2, f3, f4, f5, f6⟩ := hz4.free
      unfold Ex.cells
      clear hX hpl hr3 hz3 hG3
      go_wp2_with fail
      refine rfin rfl (exOp 3 [x]) r3 k3 hz4 (Nat.le_refl _) hbl hG4 hr4 (some ⟨w3.heap.size, 0, none⟩) 1 1 (d + 1) rfl ?_ rfl HPL.out.not
      refine ExL.row (us := [⟨x, A, c⟩]) ⟨by omega, by simp, by omega⟩ ?_ ?_
      · intro u hu
        simp only [List.mem_singleton] at hu
        subst hu
        exact (HX.out.keep fun k hk o => hE4.old (p := ⟨k, o, none⟩) hk.2).more fun k hk => ⟨by omega, Nat.lt_of_lt_of_le hk.2 hE4.sz, by omega⟩
      · intro i v hi
        rw [World.cell?_alloc_new]
        simpa [Nd.cells, Ex.cells] using hi
    · rw [decide_eq_false hN] at hqN
      by_cases hI : hd ts = [105, 102]
      · rw [decide_eq_true hI] at hqI
        obtain ⟨r, rfl⟩ : ∃ r, ts = [105, 102] :: r := by
          cases ts with
          | nil => cases hI
          | cons t r => exact ⟨r, by rw [show t = [105, 102] from hI]⟩
        have hlr : 2 * r.length + 3 ≤ n := by simp only [List.length_cons] at hn; omega
        clear hN hI
        go_enter Tryz.func47, Tryz.ntmps47
        go_upto_region 1 with fail
        rw [HW.out]
        go_wp2_with fail
        refine (NX0.out _ hrs0).mono ?_
        rintro e w1 ⟨rfl, hE1⟩
        have hrA := hrs0.ext hE1
        go_wp2_with fail
        refine (NX0.out _ hrA).mono ?_
        rintro e w2 ⟨rfl, hE2⟩
        have hrB := hrA.ext hE2
        go_wp2_with fail
        refine (TK.out [105, 102] (by simp) _ _ _ hrB).mono ?_
        rintro e w3 ⟨rfl, hg3, hr3⟩
        rw [takeT_hit'] at hr3
        have hG3 := grown_trans (grown_trans (grown_trans hG0 (grown_of hE1 (some b))) (grown_of hE2 (some b))) hg3
        have hz3 := ((hz.own (grown_of hE1 none) (by simp)).own (grown_of hE2 none) (by simp)).own hg3 HBK.out
        have hs03 : w0.heap.size ≤ w3.heap.size := by have h1 := hE1.sz; have h2 := hE2.sz; have h3 := hg3.size; omega
        clear hrA hrB hE1 hE2 hg3 q0 q1 g0 g1
        go_wp2_with fail
        refine (PC.out r false _ hr3 (by omega)).mono ?_
        rintro e w4 ⟨hg4, x0, r0, k0, ⟨A0, c0, d0, rfl, hX0⟩, hr4, hpl0⟩
        have hlen0 := hpl0.1
        have HPL0 := Lib.hid hpl0
        have hEa : Ext w4 (w4.alloc (.cells (x0.cells A0 c0).toArray 29)) := Ext.alloc _ _
        have hina := InBlk.new2 w4 x0 A0 c0
        have hGa := grown_trans (grown_trans hG3 hg4) (grown_of hEa (some b))
        have hza := (hz3.own hg4 HBK.out).own (grown_of hEa none) (by simp)
        have hra := hr4.ext hEa
        have hs34 := hg4.size
        have hXa : ExL _ (fun k => w.heap.size < k ∧ k < w4.heap.size) d0 A0 x0.l := (hX0.keep fun k hk o => hEa.old (p := ⟨k, o, none⟩) hk.2).more fun k hk => ⟨by omega, hk.2⟩
        have hb4 := hr4.lt
        obtain ⟨wa, hwa⟩ : ∃ wa, w4.alloc (.cells (x0.cells A0 c0).toArray 29) = wa := ⟨_, rfl⟩
        have hsa : w4.heap.size < wa.heap.size := by rw [← hwa]; simp
        rw [hwa] at hina hGa hza hra hXa
        have HWA := Lib.hid hwa
        unfold Ex.cells at HWA ⊢
        clear hwa hEa hG3 hz3 hr3 hr4 hX0 hpl0 hg4
        go_upto_region 9 with fail
        rw [HWA.out]
        go_wp2_with fail
        refine (TK.out [116, 104, 101, 110] (by simp) _ _ _ hra).mono ?_
        rintro e w5 hTR
        obtain ⟨rfl, hg5, r1, k1, hr5, hl5, hk5⟩ := hTR.left
        have HT5 := Lib.hid (show Tk [116, 104, 101, 110] r0 r1 k0 k1 from hk5)
        have hG5 := grown_trans hGa hg5
        have hz5 := hza.own hg5 HBK.out
        have hin5 := hina.own hg5 (by simp; omega)
        have hX5 : ExL w5 (fun k => w.heap.size < k ∧ k < w4.heap.size) d0 A0 x0.l := hXa.keep fun k hk o => grown_cell hg5 (by omega) (by have := hk.1; simp; omega) o
        have hs5 := hg5.size
        clear hk5 hTR hGa hza hina hra hXa hg5
        go_wp2_with fail
        refine (PC.out r1 k1 _ hr5 (by omega)).mono ?_
        rintro e w6 ⟨hg6, x1, r2, k2, ⟨A1, c1, d1, rfl, hX1⟩, hr6, hpl1⟩
        have hlen1 := hpl1.1
        have HPL1 := Lib.hid hpl1
        have hEb : Ext w6 (w6.alloc (.cells (x1.cells A1 c1).toArray 29)) := Ext.alloc _ _
        have hinb := InBlk.new2 w6 x1 A1 c1
        have hGb := grown_trans (grown_trans hG5 hg6) (grown_of hEb (some b))
        have hzb := (hz5.own hg6 HBK.out).own (grown_of hEb none) (by simp)
        have hrb := hr6.ext hEb
        have hs6 := hg6.size
        have hina6 := (hin5.own hg6 (by simp; omega)).ext hEb
        have hX06 : ExL _ (fun k => w.heap.size < k ∧ k < w4.heap.size) d0 A0 x0.l := (hX5.keep fun k hk o => grown_cell hg6 (by omega) (by have := hk.1; simp; omega) o).keep fun k hk o => hEb.old (p := ⟨k, o, none⟩) (by show k < _; omega)
        have hXb : ExL _ (fun k => w.heap.size < k ∧ k < w6.heap.size) d1 A1 x1.l := (hX1.keep fun k hk o => hEb.old (p := ⟨k, o, none⟩) hk.2).more fun k hk => ⟨by omega, hk.2⟩
        obtain ⟨wb, hwb⟩ : ∃ wb, w6.alloc (.cells (x1.cells A1 c1).toArray 29) = wb := ⟨_, rfl⟩
        have hsb : w6.heap.size < wb.heap.size := by rw [← hwb]; simp
        rw [hwb] at hinb hGb hzb hrb hina6 hX06 hXb
        have HWB := Lib.hid hwb
        unfold Ex.cells at HWB ⊢
        clear hwb hEb hG5 hz5 hr5 hr6 hX1 hpl1 hg6 hin5 hX5
        go_upto_region 11 with fail
        rw [HWB.out]
        go_wp2_with fail
        refine (TK.out [101, 108, 115, 101] (by simp) _ _ _ hrb).mono ?_
        rintro e w7 hTR
        obtain ⟨rfl, hg7, r3, k3, hr7, hl7, hk7⟩ := hTR.left
        have HT7 := Lib.hid (show Tk [101, 108, 115, 101] r2 r3 k2 k3 from hk7)
        have hG7 := grown_trans hGb hg7
        have hz7 := hzb.own hg7 HBK.out
        have hina7 := hina6.own hg7 (by simp; omega)
        have hinb7 := hinb.own hg7 (by simp; omega)
        have hX07 : ExL w7 (fun k => w.heap.size < k ∧ k < w4.heap.size) d0 A0 x0.l := hX06.keep fun k hk o => grown_cell hg7 (by omega) (by have := hk.1; simp; omega) o
        have hX17 : ExL w7 (fun k => w.heap.size < k ∧ k < w6.heap.size) d1 A1 x1.l := hXb.keep fun k hk o => grown_cell hg7 (by omega) (by have := hk.1; simp; omega) o
        have hs7 := hg7.size
        have HX07 := Lib.hid hX07
        have HX17 := Lib.hid hX17
        have hl3 : 2 * r3.length + 1 ≤ n := by omega
        obtain ⟨a0, a1, a2, a3, a4, a5, a6⟩ := hina7.cells
        obtain ⟨b0, b1, b2, b3, b4, b5, b6⟩ := hinb7.cells
        clear hk7 hTR hGb hzb hina6 hinb hrb hX06 hXb hX07 hX17 hg7
        go_wp2_with fail
        go_region_with (go_at_call 70; refine (PC.out r3 k3 _ (by first | exact hr7.ext (Ext.drew _) | exact hr7) hl3).mono ?_; rintro e w8 ⟨hg8, x2, r4, k4, ⟨A2, c2, d2, rfl, hX2⟩, hr8, hpl2⟩; unfold Ex.cells; have hg78 : w7.grownBy w8 (some b) := (by first | exact hg8 | exact grown_trans (grown_of (Ext.drew _) _) hg8); have hz8 := hz7.own hg78 HBK.out; have hina8 := hina7.own hg78 (by simp; omega); have hinb8 := hinb7.own hg78 (by simp; omega); obtain ⟨j0, j1, j2, j3, j4, j5, j6⟩ := hina8.cells; obtain ⟨k0', k1', k2', k3', k4', k5', k6'⟩ := hinb8.cells; have hE9 : Ext w8 (w8.alloc (.cells #[.int .i64 x0.op, .int .i64 x0.var, .int .i64 x0.ty, .int .i64 x0.n, .bool x0.b, .string ⟨x0.s.toArray⟩, .slice A0 x0.l.length c0, .int .i64 x1.op, .int .i64 x1.var, .int .i64 x1.ty, .int .i64 x1.n, .bool x1.b, .string ⟨x1.s.toArray⟩, .slice A1 x1.l.length c1, .int .i64 x2.op, .int .i64 x2.var, .int .i64 x2.ty, .int .i64 x2.n, .bool x2.b, .string ⟨x2.s.toArray⟩, .slice A2 x2.l.length c2] 29)) := Ext.alloc _ _; have hz9 := hz8.own (grown_of hE9 none) (by simp); obtain ⟨u0, u1, u2, u3, u4, u5, u6⟩ := hz9.cells; obtain ⟨f0, f1, f2, f3, f4, f5, f6⟩ := hz9.free)
        all_goals
          go_wp2_with fail
          have hs8 := hg78.size
          have hr9 := hr8.ext hE9
          have hG9 := grown_trans (grown_trans hG7 hg78) (grown_of hE9 (some b))
          have hX08 := HX07.out.keep fun k hk o => grown_cell hg78 (by omega) (by have := hk.1; simp; omega) o
          have hX18 := HX17.out.keep fun k hk o => grown_cell hg78 (by omega) (by have := hk.1; simp; omega) o
          refine rfin rfl (exOp 13 [x0, x1, x2]) r4 k4 hz9 (Nat.le_refl _) hbl hG9 hr9 (some ⟨w8.heap.size, 0, none⟩) 3 3 (d0 + d1 + d2 + 1) rfl ?_ rfl (RPl.ite HPL0.out HT5.out hl5 HPL1.out HT7.out hl7 hpl2)
          refine ExL.row (us := [⟨x0, A0, c0⟩, ⟨x1, A1, c1⟩, ⟨x2, A2, c2⟩]) ⟨by omega, by simp, by omega⟩ ?_ ?_
          · intro u hu
            simp only [List.mem_cons, List.not_mem_nil, or_false] at hu
            rcases hu with rfl | rfl | rfl
            · exact ((hX08.keep fun k hk o => hE9.old (p := ⟨k, o, none⟩) (by show k < _; omega)).more fun k hk => ⟨by omega, by have := hE9.sz; omega, by omega⟩).deep (by omega)
            · exact ((hX18.keep fun k hk o => hE9.old (p := ⟨k, o, none⟩) (by show k < _; omega)).more fun k hk => ⟨by omega, by have := hE9.sz; omega, by omega⟩).deep (by omega)
            · exact ((hX2.keep fun k hk o => hE9.old (p := ⟨k, o, none⟩) hk.2).more fun k hk => ⟨by have h1 : w7.heap.size ≤ k := hk.1; omega, by have := hE9.sz; have := hk.2; omega, by have h1 : w7.heap.size ≤ k := hk.1; omega⟩).deep (by omega)
          · intro i v hi
            rw [World.cell?_alloc_new]
            simpa [Nd.cells, Ex.cells] using hi
      · rw [decide_eq_false hI] at hqI
        have HNI := Lib.hid (And.intro hN hI)
        clear hN hI
        go_enter Tryz.func47, Tryz.ntmps47
        go_upto_region 1 with fail
        rw [HW.out]
        go_wp2_with fail
        refine (NX0.out _ hrs0).mono ?_
        rintro e w1 ⟨rfl, hE1⟩
        have hrA := hrs0.ext hE1
        go_wp2_with fail
        refine (NX0.out _ hrA).mono ?_
        rintro e w2 ⟨rfl, hE2⟩
        have hrB := hrA.ext hE2
        have hG3 := grown_trans (grown_trans hG0 (grown_of hE1 (some b))) (grown_of hE2 (some b))
        have hz3 := (hz.own (grown_of hE1 none) (by simp)).own (grown_of hE2 none) (by simp)
        have hs03 : w0.heap.size ≤ w2.heap.size := by have h1 := hE1.sz; have h2 := hE2.sz; omega
        clear hrA hE1 hE2 q0 q1 g0 g1
        go_wp2_with fail
        refine (PC.out ts false _ hrB (by omega)).mono ?_
        rintro e w4 ⟨hg4, x0, r0, k0, ⟨A0, c0, d0, rfl, hX0⟩, hr4, hpl0⟩
        have hlen0 := hpl0.1
        have HPL0 := Lib.hid hpl0
        have hEa : Ext w4 (w4.alloc (.cells (x0.cells A0 c0).toArray 29)) := Ext.alloc _ _
        have hina := InBlk.new2 w4 x0 A0 c0
        have hGa := grown_trans (grown_trans hG3 hg4) (grown_of hEa (some b))
        have hza := (hz3.own hg4 HBK.out).own (grown_of hEa none) (by simp)
        have hra := hr4.ext hEa
        have hs34 := hg4.size
        have hXa : ExL _ (fun k => w.heap.size < k ∧ k < w4.heap.size) d0 A0 x0.l := (hX0.keep fun k hk o => hEa.old (p := ⟨k, o, none⟩) hk.2).more fun k hk => ⟨by omega, hk.2⟩
        have hb4 := hr4.lt
        obtain ⟨wa, hwa⟩ : ∃ wa, w4.alloc (.cells (x0.cells A0 c0).toArray 29) = wa := ⟨_, rfl⟩
        have hsa : w4.heap.size < wa.heap.size := by rw [← hwa]; simp
        rw [hwa] at hina hGa hza hra hXa
        have HWA := Lib.hid hwa
        unfold Ex.cells at HWA ⊢
        clear hwa hEa hG3 hz3 hr4 hX0 hpl0 hg4 hrB
        go_upto_region 15 with fail
        rw [HWA.out]
        go_wp2_with fail
        refine (rOps_any _).mono ?_
        rintro e w5 ⟨rfl, hrow, hE5⟩
        have h9 : wdL.length = 9 := rfl
        simp only [h9]
        have hr5 := hra.ext hE5
        have IX := Lib.hid (show ∀ (g : Nat) W (u : Tok), RowS W g wdL → Calls Tryz.prog 71 #[.slice (some ⟨g, 0, none⟩) 9 9, .string ⟨u.toArray⟩] W fun e w' => e = .returned (.int .i64 (ixI wdL u)) ∧ w' = W from fun g W u hR => rindex_any wdL u g W hR (by decide))
        have NX5 := Lib.hid (NX.out r0 k0 _ hr5)
        clear h9
        go_wp2_with fail
        refine NX5.out.mono ?_
        rintro e w6 ⟨rfl, hE6⟩
        have hEs := hE5.trans hE6
        have hr6 := hra.ext hEs
        have hz6 := hza.own (grown_of hEs none) (by simp)
        have hG6 := grown_trans hGa (grown_of hEs (some b))
        have hin6 := hina.ext hEs
        have hX6 : ExL w6 (fun k => w.heap.size < k ∧ k < w4.heap.size) d0 A0 x0.l := hXa.keep fun k hk o => hEs.old (p := ⟨k, o, none⟩) (by show k < _; omega)
        have hs6 := hEs.sz
        have hrow6 := hrow.ext hE6
        clear hE5 hE6 hEs hra hza hGa hina hXa hr5 hrow
        go_wp2_with fail
        refine (IX.out _ _ (hd r0) hrow6).mono ?_
        rintro e w' ⟨rfl, rfl⟩
        obtain ⟨i0, i1, i2, i3, i4, i5, i6⟩ := hin6.cells
        cases hix : ix wdL (hd r0) with
        | none =>
          have hi : ixI wdL (hd r0) = -1 := by unfold ixI; rw [hix]
          rw [hi]
          have HPLx := Lib.hid (RPl.one HNI.out.1 HNI.out.2 HPL0.out hix)
          have HX6 := Lib.hid hX6
          obtain ⟨u0, u1, u2, u3, u4, u5, u6⟩ := hz6.cells
          obtain ⟨f0, f1, f2, f3, f4, f5, f6⟩ := hz6.free
          clear hix hi hX6
          go_wp2_with fail
          exact rfin rfl x0 r0 k0 hz6 (Nat.le_refl _) hbl hG6 hr6 A0 _ c0 d0 rfl (HX6.out.more fun k hk => ⟨by omega, by omega, by omega⟩) rfl HPLx.out
        | some j =>
          have hi : ixI wdL (hd r0) = (j : Int) := by unfold ixI; rw [hix]
          have hj9 : j < 9 := ix_lt hix
          rw [hi]
          obtain ⟨o, r', rfl⟩ : ∃ o r', r0 = o :: r' := by
            cases r0 with
            | nil => exact absurd (show ix wdL [] = some j from hix) (by rw [show ix wdL [] = none by decide]; simp)
            | cons o r' => exact ⟨o, r', rfl⟩
          have ho : hd (o :: r') = o := rfl
          have hone : o ≠ [] := by rintro rfl; exact absurd (show ix wdL [] = some j from hix) (by rw [show ix wdL [] = none by decide]; simp)
          have HIX := Lib.hid (show ix wdL o = some j from hix)
          have NX6 := Lib.hid (NX.out (o :: r') k0 _ hr6)
          have TK6 := Lib.hid (fun (W : World) (h : RL W b (o :: r') k0) => TK.out o hone (o :: r') k0 W h)
          rw [ho] at NX6
          clear hix hi ho
          go_wp2_with fail
          refine NX6.out.mono ?_
          rintro e w7 ⟨rfl, hE7⟩
          go_wp2_with fail
          refine (TK6.out _ (hr6.ext hE7)).mono ?_
          rintro e w8 ⟨rfl, hg8, hr8⟩
          rw [takeT_hit'] at hr8
          have hg68 := grown_trans (grown_of hE7 (some b)) hg8
          have hz8 := hz6.own hg68 HBK.out
          have hG8 := grown_trans hG6 hg68
          have hin8 := hin6.own hg68 (by simp; omega)
          have hX8 : ExL w8 (fun k => w.heap.size < k ∧ k < w4.heap.size) d0 A0 x0.l := hX6.keep fun k hk o => grown_cell hg68 (by omega) (by have := hk.1; simp; omega) o
          have hs8 := hg68.size
          have HX8 := Lib.hid hX8
          have hl8 : 2 * r'.length + 1 ≤ n := by rw [List.length_cons] at hlen0; omega
          clear i0 i1 i2 i3 i4 i5 i6 hg68 hE7 hg8 hX6 hX8 hin6 hz6 hG6 hrow6
          obtain ⟨i0, i1, i2, i3, i4, i5, i6⟩ := hin8.cells
          have hwr : IntKind.i64.wrap (4 + (j : Int)) = 4 + (j : Int) := IntWalk.i64_in _ (by omega)
          go_wp2_with fail
          go_region_with (go_at_call 70; refine (PC.out r' k0 _ (by first | exact hr8.ext (Ext.drew _) | exact hr8) hl8).mono ?_; rintro e w9 ⟨hg9, x1, r1, k1, ⟨A1, c1, d1, rfl, hX1⟩, hr9, hpl1⟩; unfold Ex.cells; have hg89 : w8.grownBy w9 (some b) := (by first | exact hg9 | exact grown_trans (grown_of (Ext.drew _) _) hg9); have hz9 := hz8.own hg89 HBK.out; have hin9 := hin8.own hg89 (by simp; omega); obtain ⟨j0, j1, j2, j3, j4, j5, j6⟩ := hin9.cells; have hE10 : Ext w9 (w9.alloc (.cells #[.int .i64 x0.op, .int .i64 x0.var, .int .i64 x0.ty, .int .i64 x0.n, .bool x0.b, .string ⟨x0.s.toArray⟩, .slice A0 x0.l.length c0, .int .i64 x1.op, .int .i64 x1.var, .int .i64 x1.ty, .int .i64 x1.n, .bool x1.b, .string ⟨x1.s.toArray⟩, .slice A1 x1.l.length c1] 29)) := Ext.alloc _ _; have hz10 := hz9.own (grown_of hE10 none) (by simp); obtain ⟨u0, u1, u2, u3, u4, u5, u6⟩ := hz10.cells; obtain ⟨f0, f1, f2, f3, f4, f5, f6⟩ := hz10.free)
          all_goals
            go_wp2_with fail
            have hs9 := hg89.size
            have hr10 := hr9.ext hE10
            have hG10 := grown_trans (grown_trans hG8 hg89) (grown_of hE10 (some b))
            have hX9 := HX8.out.keep fun k hk o => grown_cell hg89 (by omega) (by have := hk.1; simp; omega) o
            refine rfin rfl (exOp (4 + (j : Int)) [x0, x1]) r1 k1 hz10 (Nat.le_refl _) hbl hG10 hr10 (some ⟨w9.heap.size, 0, none⟩) 2 2 (d0 + d1 + 1) rfl ?_ rfl (RPl.two HNI.out.1 HNI.out.2 HPL0.out HIX.out hpl1)
            refine ExL.row (us := [⟨x0, A0, c0⟩, ⟨x1, A1, c1⟩]) ⟨by omega, by simp, by omega⟩ ?_ ?_
            · intro u hu
              simp only [List.mem_cons, List.not_mem_nil, or_false] at hu
              rcases hu with rfl | rfl
              · exact ((hX9.keep fun k hk o => hE10.old (p := ⟨k, o, none⟩) (by show k < _; omega)).more fun k hk => ⟨by omega, by have := hE10.sz; omega, by omega⟩).deep (by omega)
              · exact ((hX1.keep fun k hk o => hE10.old (p := ⟨k, o, none⟩) hk.2).more fun k hk => ⟨by have h1 : w8.heap.size ≤ k := hk.1; omega, by have := hE10.sz; have := hk.2; omega, by have h1 : w8.heap.size ≤ k := hk.1; omega⟩).deep (by omega)
            · intro i v hi
              rw [World.cell?_alloc_new]
              simpa [Nd.cells, Ex.cells] using hi
theorem rboth_any : ∀ n, RWholeC n ∧ RPieceC n
  | 0 => ⟨fun b ts k w _ h => absurd h (by omega), fun b ts k w _ h => absurd h (by omega)⟩
  | n + 1 => ⟨rwhole_step n (rboth_any n).2, rpiece_step n (rboth_any n).1⟩
end Go.Proofs.YtggkkjnfonbpkaaGreatDoor
