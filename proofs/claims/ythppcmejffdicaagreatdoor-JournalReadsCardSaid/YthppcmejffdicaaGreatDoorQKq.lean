/- The law JournalSurvives: its walk. -/
import Derived.Test.YthppcmejffdicaaGreatDoorQKk
import Derived.Test.YthppcmejffdicaaGreatDoorQKl
import Derived.Deep.CutRange
import Derived.Deep.CutBlock

set_option linter.unusedSimpArgs false
set_option linter.unusedVariables false
namespace Go.Proofs.YthppcmejffdicaaGreatDoor
open Go.RowKit Hach Num Jn

/- what happens, among the arguments -/
structure FallsAt (w : World) (A : Option Addr) (n : Nat) : Prop where
  row : 0 < n → ∃ b o, A = some ⟨b, o, none⟩ ∧ b < w.heap.size ∧ ∀ j, j < n → ∃ (R : Option Addr) (m c : Nat) (rs : List (List UInt8)) (a kp op : Nat), a < 256 ∧ kp < 256 ∧ op < 256 ∧ m < 9223372036854775808 ∧ (∀ i, (rs.getD i []).length < 9223372036854775808) ∧ RowT w w.heap.size R m rs ∧
    w.cell? ⟨b, o + j * 4, none⟩ = some (.slice R m c) ∧ w.cell? ⟨b, o + j * 4 + 1, none⟩ = some (.int .u8 (a : Nat)) ∧ w.cell? ⟨b, o + j * 4 + 2, none⟩ = some (.int .u8 (kp : Nat)) ∧ w.cell? ⟨b, o + j * 4 + 3, none⟩ = some (.int .u8 (op : Nat))
theorem PS.row {w w' : World} {b g n : Nat} {d : Dk} {br : Bool} {v : Value} (h : PS w b g d n br) (hg : w.grownBy w' v.ownBlock) (hb : v.ownBlock ≠ some b) (hg2 : v.ownBlock ≠ some g) (h6 : ∀ k, v.ownBlock = some k → 6 ≤ k) : PS w' b g d n br :=
  ⟨h.dk.own hg (fun e => hb e.symm), h.lg.own hg (fun e => hg2 e.symm), h.ok, h.ne, h.b6, h.g6, h.tabs.keep hg.size fun k hk => hg.block k (by have := h.tabs.sz; omega) fun e => by have := h6 k e.symm; omega⟩
theorem openAny {w : World} {b : Nat} {d : Dk} (hD : DkAt 65 w b d) (hk : DkOk d) (ht : d.text.length < 8388608) (hT : Tabs w) (hb6 : 6 ≤ b) :
    Calls Tryz.prog 22 #[.pointer (some ⟨b, 0, none⟩)] w fun e w' => ∃ v1 v2, e = .returned (.tuple #[v1, v2]) ∧ DkAt 65 w' b d.open_.2 ∧ DkOk d.open_.2 ∧ Tabs w' ∧ KB [b] w w' := by
  refine (openP_any b d w hD hk ht hT hb6).mono ?_
  intro e w' h
  unfold OpenEnd at h
  obtain ⟨hD2, hK2, ⟨_, rfl⟩ | ⟨_, g, v, rfl, _⟩⟩ := h
  · exact ⟨_, _, rfl, hD2, open_ok hk (by omega), hT.kb hK2 (by simp; omega), hK2⟩
  · exact ⟨_, _, rfl, hD2, open_ok hk (by omega), hT.kb hK2 (by simp; omega), hK2⟩
theorem Mid.len {d : Dk} {br sm : Bool} {mb : List UInt8} {kn : List (List UInt8)} {N : Nat} (h : Mid d br sm mb kn N) : d.text.length ≤ N + 80 := by
  obtain ⟨base, _, _, hl, hc⟩ := h.base
  have := line_len h.short
  rcases hc with ⟨e, _⟩ | ⟨_, e, _⟩ <;> rw [e]
  · omega
  · rw [List.length_append]; omega
theorem Good.more {d : Dk} {known : List (List UInt8)} {N M : Nat} (h : Good d known N) (hN : N ≤ M) : Good d known M := ⟨h.calm, h.pend, h.rec_, Nat.le_trans h.len hN⟩
theorem Mid.more {d : Dk} {br sm : Bool} {mb : List UInt8} {kn : List (List UInt8)} {N M : Nat} (h : Mid d br sm mb kn N) (hN : N ≤ M) : Mid d br sm mb kn M := by
  obtain ⟨base, h1, h2, h3, h4⟩ := h.base
  exact ⟨⟨base, h1, h2, by omega, h4⟩, h.br, h.off, h.short⟩
theorem KB.two {w w' : World} {b : Nat} (h : w.grownBy w' (some b)) : KB [b] w w' := KB.grown h (by simp)
theorem len_ne (n : Nat) : ((n : Int) == (n : Int) + 1) = false := by rw [beq_eq_false_iff_ne]; omega

set_option maxRecDepth 100000 in
set_option maxHeartbeats 4000000 in
theorem JournalSurvives_any (A : Option Addr) (n c : Nat) (w : World) (hT : Tabs w) (hX : FallsAt w A n) (hn : n < 9223372036854775808) :
    Calls Tryz.prog 5 #[.slice A n c] w fun e w' => e = .returned (.bool true) ∧ Below w.heap.size w w' := by
  go_enter Tryz.func5, Tryz.ntmps5
  go_wp2_with fail
  refine (sanity_any w hT).mono ?_
  rintro e w1 ⟨rfl, hE1⟩
  have hT1 := hT.ext hE1
  go_wp2_with fail
  refine (new_p w1).mono ?_
  rintro e w2 ⟨rfl, hD2, hE2⟩
  have hT2 := hT1.ext hE2
  obtain ⟨b, hb⟩ : ∃ b, b = w1.heap.size := ⟨_, rfl⟩
  rw [← hb] at hD2 ⊢
  have hb6 : 6 ≤ b := by have := hT1.sz; omega
  have hNb : w.heap.size ≤ b := by have := hE1.size; omega
  have hBw2 : Below w.heap.size w w2 := Ext.trans hE1 hE2
  obtain ⟨B, hB⟩ : ∃ B, B = w2.heap.size := ⟨_, rfl⟩
  have hbB : b < B := by rw [hB]; exact hD2.lt
  have hBs2 : B ≤ w2.heap.size := by omega
  clear hb hB hE1 hE2 hT1
  obtain ⟨m, hm⟩ : ∃ m, m = min n 5 := ⟨_, rfl⟩
  have hmn : m ≤ n := by omega
  have hm5 : m ≤ 5 := by omega
  have HM := Lib.hid hm
  clear hm
  go_wp2_with fail
  go_loopw [5, 6] (fun sv kv wr => ∃ (j : Nat) (d : Dk) (kn : List (List UInt8)), j ≤ m ∧ kv = .int .i64 j ∧ OwnT wr B sv kn ∧ Good d kn (500 * j) ∧ DkOk d ∧ DkAt 65 wr b d ∧ kn.length ≤ 10 * j ∧ Tabs wr ∧ Below w.heap.size w wr ∧ B ≤ wr.heap.size) (fun _ kv _ => m - (intOf kv).toNat)
  case atStart => exact ⟨0, _, _, Nat.zero_le _, rfl, OwnT.nil _ _, Good.new, new_ok, hD2, Nat.zero_le _, hT2, hBw2, hBs2⟩
  case round =>
    obtain ⟨j, d, kn, hj, rfl, hO, hG, hok, hD, hkl, hTr, hBw, hBs⟩ := hrel
    obtain ⟨Ak, ck, rfl⟩ := own_form hO
    by_cases hlt : j < m
    · obtain ⟨ba, o, rfl, hbl, hc0⟩ := hX.row (by omega)
      obtain ⟨R, m1, cR, rs, a, kp, op, ha, hkp, hop, hm1, hrs, hR, c0, c1, c2, c3⟩ := hc0 j (by omega)
      have q0 : ∀ W, Below w.heap.size w W → W.cell? ⟨ba, o + j * 4, none⟩ = some (.slice R m1 cR) := fun W h => (Below.cell h (p := ⟨ba, o + j * 4, none⟩) hbl).trans c0
      have q1 : ∀ W, Below w.heap.size w W → W.cell? ⟨ba, o + j * 4 + 1, none⟩ = some (.int .u8 (a : Nat)) := fun W h => (Below.cell h (p := ⟨ba, o + j * 4 + 1, none⟩) hbl).trans c1
      have q2 : ∀ W, Below w.heap.size w W → W.cell? ⟨ba, o + j * 4 + 2, none⟩ = some (.int .u8 (kp : Nat)) := fun W h => (Below.cell h (p := ⟨ba, o + j * 4 + 2, none⟩) hbl).trans c2
      have q3 : ∀ W, Below w.heap.size w W → W.cell? ⟨ba, o + j * 4 + 3, none⟩ = some (.int .u8 (op : Nat)) := fun W h => (Below.cell h (p := ⟨ba, o + j * 4 + 3, none⟩) hbl).trans c3
      have Q0 := Lib.hid q0
      have Q1 := Lib.hid q1
      have Q2 := Lib.hid q2
      have Q3 := Lib.hid q3
      clear hc0 c0 c1 c2 c3 q0 q1 q2 q3
      have t1 : decide ((j : Int) < 5) = true := by simp; omega
      have t2 : decide ((j : Int) < (n : Int)) = true := by simp; omega
      obtain ⟨ho, hr1, hl1, hcm1, hp1, hEn1⟩ := hG.opened
      have HOP := fun (W : World) (h : DkAt 65 W b d) (h2 : Tabs W) => openPS h hok (by have := hG.len; omega) h2 hb6 ho hr1
      have HHOP := Lib.hid HOP
      have HR1 := Lib.hid hr1
      have HCM := Lib.hid (And.intro hcm1 (And.intro hp1 hEn1))
      clear HOP ho hr1 hcm1 hp1 hEn1
      generalize d.open_.2 = d1 at *
      have hkn : kn.length < 1000 := by omega
      go_wp2_with fail
      refine (HHOP.out _ hD hTr).mono ?_
      rintro e w3 ⟨g, Av, cv, rfl, hg, P3, hO3, K3⟩
      have hOk3 := hO.kb K3 (by intro k hk; simp at hk; omega)
      have hog : ∀ k, (Value.slice Ak kn.length ck).ownBlock = some k → k < g := fun k e => by have := (OwnT.lt hO k e).2; omega
      have hB3 : Below w.heap.size w w3 := bkb hBw K3 (by omega) (by intro k hk; simp at hk; omega)
      have hBs3 : B ≤ w3.heap.size := Nat.le_trans hBs K3.size
      obtain ⟨_, _, e1, hRv⟩ := OwnT.form hO3
      obtain ⟨_, _, e2, hRk⟩ := OwnT.form hOk3
      simp only [Value.slice.injEq, true_and] at e1 e2
      obtain ⟨rfl, rfl⟩ := e1
      obtain ⟨rfl, rfl⟩ := e2
      clear hD hTr K3 hBw hO hO3
      go_wp2_with fail
      refine (same_T Av Ak kn.length kn.length cv ck kn kn w3 hRv hRk (by omega) (by omega)).mono ?_
      rintro e w4 ⟨rfl, hE4⟩
      rw [decide_eq_true (rfl : kn = kn)]
      have P4 := P3.ext hE4
      have hOk4 := hOk3.ext hE4
      have hB4 : Below w.heap.size w w4 := Below.trans hB3 (hE4.below.mono (by omega))
      have hBs4 : B ≤ w4.heap.size := Nat.le_trans hBs3 hE4.size
      clear hRv hRk P3 hOk3 hB3 hBs3
      go_wp2_with fail
      refine (count_p g kn.length (some b) false w4 P4.lg).mono ?_
      rintro e w4' ⟨rfl, rfl⟩
      rename World => w4
      have z1 := Q1.out _ hB4
      go_wp2_with fail
      refine (fail_p b d1 ((a : Int) % 12) w4 P4.dk).mono ?_
      rintro e w5 ⟨rfl, hD5, hg5⟩
      clear z1
      have hMid := Mid.start HR1.out (by exact hl1) HCM.out.1 HCM.out.2.1 HCM.out.2.2 ((a : Int) % 12)
      have P5 := P4.own hD5 hg5 (fail_ok P4.ok _ (by omega) (by omega))
      have K5 := KB.grown (S := [b]) hg5 (by simp)
      have hOk5 := hOk4.kb K5 (by intro k hk; simp at hk; omega)
      have hB5 : Below w.heap.size w w5 := bkb hB4 K5 (by omega) (by intro k hk; simp at hk; omega)
      have hBs5 : B ≤ w5.heap.size := Nat.le_trans hBs4 K5.size
      clear P4 hOk4 hB4 hBs4 hD5 hg5 K5
      generalize d1.fail ((a : Int) % 12) = d2 at *
      obtain ⟨m2, hm2⟩ : ∃ m2, m2 = min m1 4 := ⟨_, rfl⟩
      have hm2n : m2 ≤ m1 := by omega
      have hm24 : m2 ≤ 4 := by omega
      have HM2 := Lib.hid hm2
      clear hm2
      have hog5 : ∀ k, (Value.slice Ak kn.length ck).ownBlock = some k → k ≠ g := fun k e => by have := hog k e; omega
      clear hog hE4 HCM HR1
      go_wp2_with fail
      go_loopw [5, 9, 10, 11] (fun sv mv smv iv wx => ∃ (i ct : Nat) (d3 : Dk) (br sm : Bool) (mb : List UInt8) (kn3 : List (List UInt8)), i ≤ m2 ∧ iv = .int .i64 i ∧ mv = .string ⟨mb.toArray⟩ ∧ smv = .bool sm ∧ OwnT wx B sv kn3 ∧ (∀ k, sv.ownBlock = some k → k ≠ g) ∧ Mid d3 br sm mb kn3 (500 * j + 1 + 80 * i) ∧ PS wx b g d3 ct br ∧ ct ≤ 1000 + i ∧ kn3.length ≤ 10 * j + i ∧ Below w.heap.size w wx ∧ B ≤ wx.heap.size) (fun _ _ _ iv _ => m2 - (intOf iv).toNat)
      case atStart => exact ⟨0, kn.length, d2, false, false, [], kn, Nat.zero_le _, rfl, rfl, rfl, hOk5, hog5, hMid, P5, by omega, by omega, hB5, hBs5⟩
      case round =>
        clear hOk5 hog5 hMid P5 hB5 hBs5
        obtain ⟨i, ct, d3, br, sm, mb, kn3, hi, rfl, rfl, rfl, hOx, hogx, hMx, Px, hcx, hkx, hBx, hBsx⟩ := hrel
        obtain ⟨wx, hwx⟩ : ∃ wx : World, wx = wr := ⟨_, rfl⟩
        subst hwx
        have z0 := Q0.out _ hBx
        by_cases hi2 : i < m2
        · obtain ⟨bR, oR, rfl, hbR, hcR⟩ := hR.2 (by omega)
          have hcS := hcR i (by omega)
          have hsz := hrs i
          unfold txv at hcS
          have zS : wx.cell? ⟨bR, oR + i, none⟩ = some (.string ⟨(rs.getD i []).toArray⟩) := (Below.cell hBx (p := ⟨bR, oR + i, none⟩) hbR).trans hcS
          have hbW : bR < wx.heap.size := by omega
          have hbA : ba < wx.heap.size := by omega
          clear hcR hcS
          generalize rs.getD i [] = s at zS hsz
          have htk := take_min s 20
          have hsv := toArr_size s
          obtain ⟨st, hste⟩ : ∃ st : ByteArray, (⟨s.toArray⟩ : ByteArray) = st := ⟨_, rfl⟩
          rw [hste] at zS htk hsv
          have HTK := Lib.hid htk
          have hsv2 : st.size < 9223372036854775808 := by omega
          have HSV := Lib.hid hsv
          clear hste htk hsv
          have u1 : decide ((i : Int) < 4) = true := by simp; omega
          have u2 : decide ((i : Int) < (m1 : Int)) = true := by simp; omega
          go_wp2_with fail
          apply wp_region_seq (l := [_, _, _, _, _, _, _, _, _, _, _, _, _, _, _, _, _, _, _]) (t := [_]) [some 70, some 71, some 72, some 73, some 74, some 75, some 76, some 77, some 78, some 79, some 80, some 81, some 82, some 83, some 84, some 85, some 86, some 87, some 88, some 12] [[], [], [0, 1], [2], [3], [], [4, 5], [6], [], [], [8, 9], [10], [11], [], [12, 13], [14], [15], [16], [7, 17], [18]] [19, 19, 19, 19, 19, 19, 19, 19, 19, 19, 19, 19, 19, 19, 19, 19, 19, 19, 19] [eqv _, eqv _, eqv _, eqv _, eqv _, eqv _, eqv _, eqv _, eqv _, eqv _, eqv _, eqv _, eqv _, eqv _, eqv _, eqv _, eqv _, eqv _, (eqv (.string ⟨(s.take 20).toArray⟩))] (by kernel_rfl) (by kernel_rfl) ⟨?o0, ?o1, ?o2, ?o3, ?o4, ?o5, ?o6, ?o7, ?o8, ?o9, ?o10, ?o11, ?o12, ?o13, ?o14, ?o15, ?o16, ?o17, ?o18, trivial⟩ ?last
          case o0 => -- Op.move (Operand.tmp 0)
            intro xv W hE _
            simp only [putD, List.foldl_nil, List.getD_cons_zero]
            refine OpGoal.plain ?_
            go_wp2_with fail
            exact ⟨rfl, Ext.refl _, rfl⟩
          case o1 => -- Op.move (Operand.tmp 6)
            intro xv W hE _
            simp only [putD, List.foldl_nil, List.getD_cons_zero, List.getD_cons_succ]
            refine OpGoal.plain ?_
            go_wp2_with fail
            exact ⟨rfl, Ext.refl _, rfl⟩
          case o2 => -- Op.indexAddr 51 (Operand.tmp 70) (Operand.tmp 71)
            intro xv W hE hp
            have r0 : xv 0 = _ := hp.1
            have r1 : xv 1 = _ := hp.2.1
            clear hp
            simp only [putD, List.foldl_nil, List.foldl_cons, List.getD_cons_zero, List.getD_cons_succ, Act.put, List.setIfInBounds_toArray, List.set_cons_zero, List.set_cons_succ]
            refine OpGoal.plain ?_
            go_wp2_with fail
            exact ⟨rfl, Ext.refl _, rfl⟩
          case o3 => -- Op.fieldAddr 53 (Operand.tmp 72) 0
            intro xv W hE hp
            have r2 : xv 2 = _ := hp.1
            clear hp
            simp only [putD, List.foldl_nil, List.foldl_cons, List.getD_cons_zero, List.getD_cons_succ, Act.put, List.setIfInBounds_toArray, List.set_cons_zero, List.set_cons_succ]
            refine OpGoal.plain ?_
            go_wp2_with fail
            exact ⟨rfl, Ext.refl _, rfl⟩
          case o4 => -- Op.load 36 (Operand.tmp 73)
            intro xv W hE hp
            have r3 : xv 3 = _ := hp.1
            clear hp
            have d0 : W.cell? ⟨ba, o + j * 4, none⟩ = some (.slice (some ⟨bR, oR, none⟩) m1 cR) := (hE.old (p := ⟨ba, o + j * 4, none⟩) hbA).trans z0
            have dS : W.cell? ⟨bR, oR + i, none⟩ = some (.string st) := (hE.old (p := ⟨bR, oR + i, none⟩) hbW).trans zS
            simp only [putD, List.foldl_nil, List.foldl_cons, List.getD_cons_zero, List.getD_cons_succ, Act.put, List.setIfInBounds_toArray, List.set_cons_zero, List.set_cons_succ]
            refine OpGoal.plain ?_
            go_wp2_with fail
            exact ⟨rfl, Ext.refl _, rfl⟩
          case o5 => -- Op.move (Operand.tmp 11)
            intro xv W hE _
            simp only [putD, List.foldl_nil, List.getD_cons_zero, List.getD_cons_succ]
            refine OpGoal.plain ?_
            go_wp2_with fail
            exact ⟨rfl, Ext.refl _, rfl⟩
          case o6 => -- Op.indexAddr 36 (Operand.tmp 74) (Operand.tmp 75)
            intro xv W hE hp
            have r4 : xv 4 = _ := hp.1
            have r5 : xv 5 = _ := hp.2.1
            clear hp
            simp only [putD, List.foldl_nil, List.foldl_cons, List.getD_cons_zero, List.getD_cons_succ, Act.put, List.setIfInBounds_toArray, List.set_cons_zero, List.set_cons_succ]
            refine OpGoal.plain ?_
            go_wp2_with fail
            exact ⟨rfl, Ext.refl _, rfl⟩
          case o7 => -- Op.load 9 (Operand.tmp 76)
            intro xv W hE hp
            have r6 : xv 6 = _ := hp.1
            clear hp
            have d0 : W.cell? ⟨ba, o + j * 4, none⟩ = some (.slice (some ⟨bR, oR, none⟩) m1 cR) := (hE.old (p := ⟨ba, o + j * 4, none⟩) hbA).trans z0
            have dS : W.cell? ⟨bR, oR + i, none⟩ = some (.string st) := (hE.old (p := ⟨bR, oR + i, none⟩) hbW).trans zS
            simp only [putD, List.foldl_nil, List.foldl_cons, List.getD_cons_zero, List.getD_cons_succ, Act.put, List.setIfInBounds_toArray, List.set_cons_zero, List.set_cons_succ]
            refine OpGoal.plain ?_
            go_wp2_with fail
            exact ⟨rfl, Ext.refl _, rfl⟩
          case o8 => -- Op.move (Operand.tmp 0)
            intro xv W hE _
            simp only [putD, List.foldl_nil, List.getD_cons_zero, List.getD_cons_succ]
            refine OpGoal.plain ?_
            go_wp2_with fail
            exact ⟨rfl, Ext.refl _, rfl⟩
          case o9 => -- Op.move (Operand.tmp 6)
            intro xv W hE _
            simp only [putD, List.foldl_nil, List.getD_cons_zero, List.getD_cons_succ]
            refine OpGoal.plain ?_
            go_wp2_with fail
            exact ⟨rfl, Ext.refl _, rfl⟩
          case o10 => -- Op.indexAddr 51 (Operand.tmp 78) (Operand.tmp 79)
            intro xv W hE hp
            have r8 : xv 8 = _ := hp.1
            have r9 : xv 9 = _ := hp.2.1
            clear hp
            simp only [putD, List.foldl_nil, List.foldl_cons, List.getD_cons_zero, List.getD_cons_succ, Act.put, List.setIfInBounds_toArray, List.set_cons_zero, List.set_cons_succ]
            refine OpGoal.plain ?_
            go_wp2_with fail
            exact ⟨rfl, Ext.refl _, rfl⟩
          case o11 => -- Op.fieldAddr 53 (Operand.tmp 80) 0
            intro xv W hE hp
            have r10 : xv 10 = _ := hp.1
            clear hp
            simp only [putD, List.foldl_nil, List.foldl_cons, List.getD_cons_zero, List.getD_cons_succ, Act.put, List.setIfInBounds_toArray, List.set_cons_zero, List.set_cons_succ]
            refine OpGoal.plain ?_
            go_wp2_with fail
            exact ⟨rfl, Ext.refl _, rfl⟩
          case o12 => -- Op.load 36 (Operand.tmp 81)
            intro xv W hE hp
            have r11 : xv 11 = _ := hp.1
            clear hp
            have d0 : W.cell? ⟨ba, o + j * 4, none⟩ = some (.slice (some ⟨bR, oR, none⟩) m1 cR) := (hE.old (p := ⟨ba, o + j * 4, none⟩) hbA).trans z0
            have dS : W.cell? ⟨bR, oR + i, none⟩ = some (.string st) := (hE.old (p := ⟨bR, oR + i, none⟩) hbW).trans zS
            simp only [putD, List.foldl_nil, List.foldl_cons, List.getD_cons_zero, List.getD_cons_succ, Act.put, List.setIfInBounds_toArray, List.set_cons_zero, List.set_cons_succ]
            refine OpGoal.plain ?_
            go_wp2_with fail
            exact ⟨rfl, Ext.refl _, rfl⟩
          case o13 => -- Op.move (Operand.tmp 11)
            intro xv W hE _
            simp only [putD, List.foldl_nil, List.getD_cons_zero, List.getD_cons_succ]
            refine OpGoal.plain ?_
            go_wp2_with fail
            exact ⟨rfl, Ext.refl _, rfl⟩
          case o14 => -- Op.indexAddr 36 (Operand.tmp 82) (Operand.tmp 83)
            intro xv W hE hp
            have r12 : xv 12 = _ := hp.1
            have r13 : xv 13 = _ := hp.2.1
            clear hp
            simp only [putD, List.foldl_nil, List.foldl_cons, List.getD_cons_zero, List.getD_cons_succ, Act.put, List.setIfInBounds_toArray, List.set_cons_zero, List.set_cons_succ]
            refine OpGoal.plain ?_
            go_wp2_with fail
            exact ⟨rfl, Ext.refl _, rfl⟩
          case o15 => -- Op.load 9 (Operand.tmp 84)
            intro xv W hE hp
            have r14 : xv 14 = _ := hp.1
            clear hp
            have d0 : W.cell? ⟨ba, o + j * 4, none⟩ = some (.slice (some ⟨bR, oR, none⟩) m1 cR) := (hE.old (p := ⟨ba, o + j * 4, none⟩) hbA).trans z0
            have dS : W.cell? ⟨bR, oR + i, none⟩ = some (.string st) := (hE.old (p := ⟨bR, oR + i, none⟩) hbW).trans zS
            simp only [putD, List.foldl_nil, List.foldl_cons, List.getD_cons_zero, List.getD_cons_succ, Act.put, List.setIfInBounds_toArray, List.set_cons_zero, List.set_cons_succ]
            refine OpGoal.plain ?_
            go_wp2_with fail
            exact ⟨rfl, Ext.refl _, rfl⟩
          case o16 => -- Op.call { callee := Callee.builtin Builtin.len, args := #[Operand.tmp 85], argTy
            intro xv W hE hp
            have r15 : xv 15 = _ := hp.1
            clear hp
            simp only [putD, List.foldl_nil, List.foldl_cons, List.getD_cons_zero, List.getD_cons_succ, Act.put, List.setIfInBounds_toArray, List.set_cons_zero, List.set_cons_succ]
            refine OpGoal.plain ?_
            go_wp2_with fail
            exact ⟨rfl, Ext.refl _, rfl⟩
          case o17 => -- Op.call { callee := Callee.builtin Builtin.min, args := #[Operand.tmp 86, Operan
            intro xv W hE hp
            have r16 : xv 16 = _ := hp.1
            clear hp
            simp only [putD, List.foldl_nil, List.foldl_cons, List.getD_cons_zero, List.getD_cons_succ, Act.put, List.setIfInBounds_toArray, List.set_cons_zero, List.set_cons_succ]
            refine OpGoal.plain ?_
            go_wp2_with fail
            exact ⟨rfl, Ext.refl _, rfl⟩
          case o18 => -- Op.slice 9 (Operand.tmp 77) none (some (Operand.tmp 87)) none
            intro xv W hE hp
            have r7 : xv 7 = _ := hp.1
            have r17 : xv 17 = _ := hp.2.1
            clear hp
            simp only [putD, List.foldl_nil, List.foldl_cons, List.getD_cons_zero, List.getD_cons_succ, Act.put, List.setIfInBounds_toArray, List.set_cons_zero, List.set_cons_succ]
            refine OpGoal.plain ?_
            go_wp2_with fail
            refine ⟨rfl, Ext.refl _, ?_⟩
            show Value.string _ = Value.string _
            rw [← HTK.out, ← HSV.out]
            rw [show (min (st.size : Int) 20).toNat = min st.size 20 by omega]
          case last =>
            intro xv W hE hp
            have r0 : xv 0 = _ := hp.1
            have r1 : xv 1 = _ := hp.2.1
            have r2 : xv 2 = _ := hp.2.2.1
            have r3 : xv 3 = _ := hp.2.2.2.1
            have r4 : xv 4 = _ := hp.2.2.2.2.1
            have r5 : xv 5 = _ := hp.2.2.2.2.2.1
            have r6 : xv 6 = _ := hp.2.2.2.2.2.2.1
            have r7 : xv 7 = _ := hp.2.2.2.2.2.2.2.1
            have r8 : xv 8 = _ := hp.2.2.2.2.2.2.2.2.1
            have r9 : xv 9 = _ := hp.2.2.2.2.2.2.2.2.2.1
            have r10 : xv 10 = _ := hp.2.2.2.2.2.2.2.2.2.2.1
            have r11 : xv 11 = _ := hp.2.2.2.2.2.2.2.2.2.2.2.1
            have r12 : xv 12 = _ := hp.2.2.2.2.2.2.2.2.2.2.2.2.1
            have r13 : xv 13 = _ := hp.2.2.2.2.2.2.2.2.2.2.2.2.2.1
            have r14 : xv 14 = _ := hp.2.2.2.2.2.2.2.2.2.2.2.2.2.2.1
            have r15 : xv 15 = _ := hp.2.2.2.2.2.2.2.2.2.2.2.2.2.2.2.1
            have r16 : xv 16 = _ := hp.2.2.2.2.2.2.2.2.2.2.2.2.2.2.2.2.1
            have r17 : xv 17 = _ := hp.2.2.2.2.2.2.2.2.2.2.2.2.2.2.2.2.2.1
            have r18 : xv 18 = _ := hp.2.2.2.2.2.2.2.2.2.2.2.2.2.2.2.2.2.2.1
            clear hp
            simp only [putD, List.foldl_nil, List.foldl_cons, List.getD_cons_zero, List.getD_cons_succ, Act.put, List.length_cons, List.length_nil, List.range_succ, List.range_zero, List.nil_append, List.cons_append, List.setIfInBounds_toArray, List.set_cons_zero, List.set_cons_succ]
            have PW : PS W b g d3 ct br := (Px.ext (Ext.drew _)).ext hE
            have hOW := (hOx.ext (Ext.drew _)).ext hE
            have hBW : Below w.heap.size w W := Below.trans hBx ((Ext.trans (Ext.drew _) hE).below.mono (by have : wx.drew.heap.size = wx.heap.size := rfl; omega))
            have hBsW : B ≤ W.heap.size := by have := hE.sz; simp at this; omega
            have htl : (s.take 20).length ≤ 20 := by simp; omega
            have r18' : xv 18 = .string ⟨(s.take 20).toArray⟩ := r18
            rw [r18']
            obtain ⟨rr, d4, ct4, br4, hap⟩ : ∃ rr d4 ct4 br4, appRes d3 ct br (line (s.take 20)) = (rr, d4, ct4, br4) := ⟨_, _, _, _, rfl⟩
            have hst := hMx.step htl (by omega) ct
            rw [hap] at hst
            simp only at hst
            have hlenx := hMx.len
            have HAP := Lib.hid hap
            have HST := Lib.hid hst
            clear r0 r1 r2 r3 r4 r5 r6 r7 r8 r9 r10 r11 r12 r13 r14 r15 r16 r17 r18 r18' z0 zS hap hst HTK HSV Px hOx hBx hE hMx
            generalize s.take 20 = s20 at htl HAP HST
            have APP := PS.app2 PW HAP.out (by omega) (by omega) (by omega) (S := ⟨s20.toArray⟩) rfl
            have HAPP := Lib.hid APP
            clear APP HAP PW
            go_wp2_with fail
            refine HAPP.out.mono ?_
            rintro e wa ⟨rfl, Pa, Ka⟩
            have hOa := hOW.kb1 Ka (by intro k e; have h1 := hogx k e; have h2 := (OwnT.lt hOW k e).1; simp; omega)
            have hga : w.heap.size ≤ g := by omega
            have hBa : Below w.heap.size w wa := bkb hBW Ka (by omega) (by intro k hk; simp at hk; omega)
            have hBsa : B ≤ wa.heap.size := Nat.le_trans hBsW Ka.size
            have hgs : g < wa.heap.size := Pa.lg.lt
            clear HAPP Ka hOW hBW hBsW
            rcases HST.out with ⟨rfl, rfl, hM4, rfl⟩ | ⟨rfl, hM4, rfl⟩
            · have hbase : ∀ o : Obj, B ≤ (wa.alloc o).heap.size := fun o => by rw [World.size_alloc]; omega
              have hlen : kn3.length < 4294967296 := by omega
              clear HST
              go_wp2_with (at_builtin; refine app_T2 rfl 95 97 rfl B u5 _ rfl (hOa.ext (Ext.alloc _ _)) wa.heap.size s20 rfl ((World.cell?_alloc_new _ _ _ _).trans rfl) hlen (hbase _) ?_; intro v1 wb hO1 hg1 hn1)
              have hOy := hOa.ext (Ext.alloc wa (.cells #[.string ⟨s20.toArray⟩] 9))
              have Py := Pa.ext (Ext.alloc wa (.cells #[.string ⟨s20.toArray⟩] 9))
              have hsz2 : (wa.alloc (.cells #[.string ⟨s20.toArray⟩] 9)).heap.size = wa.heap.size + 1 := World.size_alloc _ _
              have hlow : ∀ k, u5.ownBlock = some k → B ≤ k := fun k e => (OwnT.lt hOy k e).1
              have Pb := Py.row hg1 (fun e => by have := hlow b e; omega) (fun e => hogx g e rfl) (fun k e => by have := hlow k e; omega)
              have hBrow : Below B wa wb := Below.trans ((Ext.alloc wa (.cells #[.string ⟨s20.toArray⟩] 9)).below.mono hBsa) (below_row hg1 (hbase _) hlow)
              go_roundw
              case rel => exact ⟨i + 1, ct + 1, d4, br4, false, mb, kn3 ++ [s20], by omega, by go_num, rfl, rfl, hO1, fun k e => by
                rcases hn1 with h | h
                · rw [h] at e; exact hogx k e
                · rw [h] at e; simp only [Option.some.injEq] at e; omega, hM4.more (by omega), Pb, by omega, by rw [List.length_append]; simp; omega, Below.trans hBa (hBrow.mono (by omega)), Nat.le_trans hBsa hBrow.size⟩
              case measure => simp [intOf]; omega
            · cases sm with
              | true =>
                rw [if_pos rfl] at hM4
                clear HST
                go_wp2_with fail
                go_roundw
                case rel => exact ⟨i + 1, ct4, d4, br4, true, mb, kn3, by omega, by go_num, rfl, rfl, hOa, hogx, hM4.more (by omega), Pa, by omega, by omega, hBa, hBsa⟩
                case measure => simp [intOf]; omega
              | false =>
                rw [if_neg (by simp)] at hM4
                clear HST
                go_wp2_with fail
                go_roundw
                case rel => exact ⟨i + 1, ct4, d4, br4, true, s20, kn3, by omega, by go_num, rfl, rfl, hOa, hogx, hM4.more (by omega), Pa, by omega, by omega, hBa, hBsa⟩
                case measure => simp [intOf]; omega
        · have him : i = m2 := by omega
          have hz : (4 : Nat) ≤ i ∨ m1 ≤ i := by have := HM2.out; omega
          obtain ⟨Ak3, ck3, rfl⟩ := own_form hOx
          have z2 := Q2.out _ hBx
          have u1 : decide ((i : Int) < (m1 : Int)) = false ∨ decide ((i : Int) < (m1 : Int)) = true ∧ decide ((i : Int) < 4) = false := by
            by_cases h : i < m1
            · right; simp; omega
            · left; simp; omega
          have hlenx := hMx.len
          have hmm : ∃ N, N ≤ 500 * j + 400 ∧ Mid d3 br sm mb kn3 N := ⟨_, by omega, hMx⟩
          obtain ⟨N, hN, hMx2⟩ := hmm
          have hfall := hMx2.fall ((kp : Int) % 60).toNat ((op : Int) % 4) (op : Int).toNat
          simp only at hfall
          have okx := Px.ok
          have ok4 := crash_ok okx ((kp : Int) % 60).toNat
          have ok5 := fail_ok ok4 ((op : Int) % 4) (by omega) (by omega)
          have ln4 := crash_le d3 ((kp : Int) % 60).toNat
          have CR := fun (W : World) (h : DkAt 65 W b d3) => crash_p b d3 ((kp : Int) % 60) W h okx
          obtain ⟨d4, hd4⟩ : ∃ d4, d3.crash ((kp : Int) % 60).toNat = d4 := ⟨_, rfl⟩
          rw [hd4] at hfall ok4 ok5 ln4 CR
          have FL := fun (W : World) (h : DkAt 65 W b d4) => fail_p b d4 ((op : Int) % 4) W h
          obtain ⟨d5, hd5⟩ : ∃ d5, d4.fail ((op : Int) % 4) = d5 := ⟨_, rfl⟩
          have ln5 : d5.text.length = d4.text.length := by rw [← hd5]; rfl
          rw [hd5] at hfall ok5 FL
          have OA := fun (W : World) (h : DkAt 65 W b d5) (h2 : Tabs W) => openAny h ok5 (by omega) h2 hb6
          obtain ⟨d6, hd6⟩ : ∃ d6, d5.open_.2 = d6 := ⟨_, rfl⟩
          rw [hd6] at hfall OA
          have CR2 := fun (W : World) (h : DkAt 65 W b d6) (h2 : DkOk d6) => crash_p b d6 (op : Int) W h h2
          have OK7 := fun (h2 : DkOk d6) => crash_ok h2 (op : Int).toNat
          obtain ⟨d7, hd7⟩ : ∃ d7, d6.crash (op : Int).toNat = d7 := ⟨_, rfl⟩
          rw [hd7] at hfall CR2 OK7
          have HF := Lib.hid hfall
          have HOK4 := Lib.hid ok4
          have HOK5 := Lib.hid ok5
          have HCR := Lib.hid CR
          have HFL := Lib.hid FL
          have HOA := Lib.hid OA
          have HCR2 := Lib.hid CR2
          have HOK7 := Lib.hid OK7
          have HU := Lib.hid u1
          have HGX := Lib.hid hogx
          clear hfall CR FL OA CR2 OK7 hd4 hd5 hd6 hd7 hMx hMx2 u1 hogx okx ok4 ok5 ln5 ln4
          have hga : w.heap.size ≤ g := by omega
          have hun : decide (i < m1) = false ∨ decide (i < m1) = true ∧ decide ((i : Int) < 4) = false := by
            rcases HU.out with u1 | ⟨u1, u2⟩
            · left; simp at u1 ⊢; omega
            · right; exact ⟨by simp at u1 ⊢; omega, u2⟩
          clear HU hz him
          rcases hun with u1 | ⟨u1, u2⟩
          all_goals
            go_wp2_with fail
            refine (HCR.out _ Px.dk).mono ?_
            rintro e y1 ⟨rfl, hD4, hg4⟩
            have P4 := Px.own hD4 hg4 HOK4.out
            have K4 := KB.two hg4
            have hO4 := hOx.kb1 K4 (by intro k e; have h2 := (OwnT.lt hOx k e).1; simp; omega)
            have hB4 : Below w.heap.size w y1 := bkb hBx K4 (by omega) (by intro k hk; simp at hk; omega)
            have hBs4 : B ≤ y1.heap.size := Nat.le_trans hBsx K4.size
            have z3 := Q3.out _ hB4
            clear hD4 hg4 K4 hOx hBx hBsx z2 z0 Px
            go_wp2_with fail
            refine (HFL.out _ P4.dk).mono ?_
            rintro e y2 ⟨rfl, hD5, hg5⟩
            have P5 := P4.own hD5 hg5 HOK5.out
            have K5 := KB.two hg5
            have hO5 := hO4.kb1 K5 (by intro k e; have h2 := (OwnT.lt hO4 k e).1; simp; omega)
            have hB5 : Below w.heap.size w y2 := bkb hB4 K5 (by omega) (by intro k hk; simp at hk; omega)
            have hBs5 : B ≤ y2.heap.size := Nat.le_trans hBs4 K5.size
            clear hD5 hg5 K5 hO4 hB4 hBs4 z3 P4
            go_wp2_with fail
            refine (HOA.out _ P5.dk P5.tabs).mono ?_
            rintro e y3 ⟨v1, v2, rfl, hD6, hok6, hT6, K6⟩
            have hO6 := hO5.kb1 K6 (by intro k e; have h2 := (OwnT.lt hO5 k e).1; simp; omega)
            have hB6 : Below w.heap.size w y3 := bkb hB5 K6 (by omega) (by intro k hk; simp at hk; omega)
            have hBs6 : B ≤ y3.heap.size := Nat.le_trans hBs5 K6.size
            have z3 := Q3.out _ hB6
            clear K6 hO5 hB5 hBs5 P5
            go_wp2_with fail
            refine (HCR2.out _ hD6 hok6).mono ?_
            rintro e y4 ⟨rfl, hD7, hg7⟩
            have ok7 := HOK7.out hok6
            have K7 := KB.two hg7
            have hT7 := hT6.kb K7 (by simp; omega)
            have hO7 := hO6.kb1 K7 (by intro k e; have h2 := (OwnT.lt hO6 k e).1; simp; omega)
            have hB7 : Below w.heap.size w y4 := bkb hB6 K7 (by omega) (by intro k hk; simp at hk; omega)
            have hBs7 : B ≤ y4.heap.size := Nat.le_trans hBs6 K7.size
            clear K7 hO6 hB6 hBs6 hD6 hok6 hT6 hg7 z3
            have hnx : ∀ (kn' : List (List UInt8)), Good d7 kn' (N + 81) → kn'.length ≤ 1000 → ∀ W : World, DkAt 65 W b d7 → Tabs W → Calls Tryz.prog 22 #[.pointer (some ⟨b, 0, none⟩)] W fun e w' => ∃ (g9 : Nat) (d8 : Dk) (A9 : Option Addr) (c9 : Nat), e = .returned (.tuple #[.pointer (some ⟨g9, 0, none⟩), .slice A9 kn'.length c9]) ∧ Good d8 kn' (N + 82) ∧ DkOk d8 ∧ DkAt 65 w' b d8 ∧ Tabs w' ∧ RowT w' w'.heap.size A9 kn'.length kn' ∧ KB [b] W w' ∧ (∀ k o, A9 = some ⟨k, o, none⟩ → W.heap.size ≤ k) := fun kn' hG hl W hD hT => by
              obtain ⟨ho, hr1, _⟩ := hG.opened
              refine (openPS hD ok7 (by have := hG.len; omega) hT hb6 ho hr1).mono ?_
              rintro e w' ⟨g9, A9, c9, rfl, hg9, P9, hO9, K9⟩
              have hlo := fun k => OwnT.lt hO9 k
              obtain ⟨_, _, eq9, hR9⟩ := OwnT.form hO9
              simp only [Value.slice.injEq, true_and] at eq9
              obtain ⟨rfl, rfl⟩ := eq9
              exact ⟨g9, _, _, _, rfl, hG.again, P9.ok, P9.dk, P9.tabs, hR9, K9, fun k o e => (hlo k (by rw [e]; rfl)).1⟩
            have HNX := Lib.hid hnx
            have hkl3 : kn3.length ≤ 1000 := by omega
            clear hnx
            rcases HF.out with hG7 | ⟨hsm, hG7⟩
            · have lne := len_ne kn3.length
              have HC := Lib.hid (HNX.out kn3 hG7 hkl3)
              clear HF HNX
              go_wp2_with fail
              refine (HC.out _ hD7 hT7).mono ?_
              rintro e y5 ⟨g9, d8, A9, c9, rfl, hG8, ok8, hD8, hT8, hR8, K8, hlo8⟩
              have hO8 := hO7.kb1 K8 (by intro k e; have h2 := (OwnT.lt hO7 k e).1; simp; omega)
              have hB8 : Below w.heap.size w y5 := bkb hB7 K8 (by omega) (by intro k hk; simp at hk; omega)
              have hBs8 : B ≤ y5.heap.size := Nat.le_trans hBs7 K8.size
              obtain ⟨_, _, eq8, hRk8⟩ := OwnT.form hO8
              simp only [Value.slice.injEq, true_and] at eq8
              obtain ⟨rfl, rfl⟩ := eq8
              clear HC hO7 hB7 hBs7 hD7 hT7
              go_wp2_with fail
              refine (same_T A9 Ak3 kn3.length kn3.length c9 ck3 kn3 kn3 y5 hR8 hRk8 (by omega) (by omega)).mono ?_
              rintro e y6 ⟨rfl, hE6⟩
              rw [decide_eq_true (rfl : kn3 = kn3)]
              go_wp2_with fail
              go_roundw
              case rel => exact ⟨j + 1, d8, kn3, by omega, by go_num, hO8.ext hE6, hG8.more (by omega), ok8, hD8.ext hE6, by omega, hT8.ext hE6, Below.trans hB8 (hE6.below.mono (by omega)), Nat.le_trans hBs8 hE6.size⟩
              case measure => simp [intOf]; omega
            · subst hsm
              have hlk : (kn3 ++ [mb]).length = kn3.length + 1 := by simp
              have hgt : (kn3 ++ [mb]).getD kn3.length [] = mb := by simp [List.getD]
              have HC := Lib.hid (HNX.out (kn3 ++ [mb]) hG7 (by omega))
              have HLK := Lib.hid hlk
              have HGT := Lib.hid hgt
              clear HF HNX hG7 hgt
              obtain ⟨kn4, hk4⟩ : ∃ kn4, kn3 ++ [mb] = kn4 := ⟨_, rfl⟩
              rw [hk4] at HC HLK HGT hlk
              have HK4 := Lib.hid hk4
              have leq : ((kn4.length : Int) == (kn3.length : Int) + 1) = true := by rw [beq_iff_eq]; omega
              have hlt4 : kn3.length < kn4.length := by omega
              have hln4 : kn4.length ≤ 1001 := by omega
              clear hk4 hlk
              go_wp2_with fail
              refine (HC.out _ hD7 hT7).mono ?_
              rintro e y5 ⟨g9, d8, A9, c9, rfl, hG8, ok8, hD8, hT8, hR8, K8, hlo8⟩
              have hO8 := hO7.kb1 K8 (by intro k e; have h2 := (OwnT.lt hO7 k e).1; simp; omega)
              have hB8 : Below w.heap.size w y5 := bkb hB7 K8 (by omega) (by intro k hk; simp at hk; omega)
              have hBs8 : B ≤ y5.heap.size := Nat.le_trans hBs7 K8.size
              have hown7 : ∀ k, (Value.slice Ak3 kn3.length ck3).ownBlock = some k → k < y4.heap.size := fun k e => (OwnT.lt hO7 k e).2
              clear HC hO7 hB7 hBs7 hD7 hT7
              obtain ⟨b9, o9, rfl, hb9, hc9⟩ := hR8.2 (by omega)
              have hb94 := hlo8 b9 o9 rfl
              have zz := hc9 kn3.length hlt4
              rw [HGT.out] at zz
              unfold txv at zz
              clear hc9
              have hbase : ∀ o : Obj, B ≤ (y5.alloc o).heap.size := fun o => by rw [World.size_alloc]; omega
              have hlen : kn3.length < 4294967296 := by omega
              go_wp2_with (at_builtin; refine app_T2 rfl 157 159 rfl B (.slice Ak3 kn3.length ck3) _ rfl (hO8.ext (Ext.alloc _ _)) y5.heap.size mb rfl ((World.cell?_alloc_new _ _ _ _).trans rfl) hlen (hbase _) ?_; intro v1 y6 hO9 hg9 hn9)
              have hOy := hO8.ext (Ext.alloc y5 (.cells #[.string ⟨mb.toArray⟩] 9))
              have hlow : ∀ k, (Value.slice Ak3 kn3.length ck3).ownBlock = some k → B ≤ k := fun k e => (OwnT.lt hOy k e).1
              have hEy := Ext.alloc y5 (.cells #[.string ⟨mb.toArray⟩] 9)
              have hBrow : Below B y5 y6 := Below.trans (hEy.below.mono hBs8) (below_row hg9 (hbase _) hlow)
              have hD9 : DkAt 65 y6 b d8 := (hBrow.block b hbB).trans hD8
              have hT9 : Tabs y6 := hT8.keep hBrow.size fun k hk => hBrow.block k (by omega)
              have hR8y := hR8.ext hEy
              rw [HK4.out] at hO9
              obtain ⟨A10, c10, eq10, hR10⟩ := OwnT.form hO9
              subst eq10
              -- the row that was opened lies in another block
              have hR9 : RowT y6 y6.heap.size (some ⟨b9, o9, none⟩) kn4.length kn4 := by
                refine ⟨rfl, fun h0 => ⟨b9, o9, rfl, ?_, fun q hq => ?_⟩⟩
                · have := hBrow.size; have := hEy.sz; omega
                · have hne : some b9 ≠ (Value.slice Ak3 kn3.length ck3).ownBlock := fun e => by have := hown7 b9 e.symm; omega
                  have hbl : b9 < (y5.alloc (.cells #[.string ⟨mb.toArray⟩] 9)).heap.size := by have := hEy.sz; omega
                  have h1 := hR8y.2 h0
                  obtain ⟨b', o', e', _, hc'⟩ := h1
                  simp only [Option.some.injEq, Addr.mk.injEq, and_true] at e'
                  obtain ⟨rfl, rfl⟩ := e'
                  exact (World.cell?_of_block (a := ⟨b9, o9 + q, none⟩) (hg9.block b9 hbl hne)).trans (hc' q hq)
              go_wp2_with fail
              refine (same_T (some ⟨b9, o9, none⟩) A10 kn4.length kn4.length c9 c10 kn4 kn4 y6 hR9 hR10 (by omega) (by omega)).mono ?_
              rintro e y7 ⟨rfl, hE7⟩
              rw [decide_eq_true (rfl : kn4 = kn4)]
              go_wp2_with fail
              go_roundw
              case rel => exact ⟨j + 1, d8, kn4, by omega, by go_num, hO9.ext hE7, hG8.more (by omega), ok8, hD9.ext hE7, by have := HLK.out; omega, hT9.ext hE7, Below.trans (Below.trans hB8 (hBrow.mono (by omega))) (hE7.below.mono (by have := hBrow.size; omega)), Nat.le_trans (Nat.le_trans hBs8 hBrow.size) hE7.size⟩
              case measure => simp [intOf]; omega
    · have hjm : j = m := by omega
      have hz : 5 ≤ j ∨ n ≤ j := by have := HM.out; omega
      have hop := hG.opens
      have OP := fun (W : World) (h : DkAt 65 W b d) (h2 : Tabs W) (h3 : RowT W W.heap.size Ak kn.length kn) (h4 : ∀ k o, Ak = some ⟨k, o, none⟩ → k ≠ b) => opens_any b kn.length ck Ak d kn W h hok (by have := hG.len; omega) h2 hb6 h3 h4 (by omega)
      rw [hop] at OP
      have HOP := Lib.hid OP
      obtain ⟨_, _, eq0, hRk⟩ := OwnT.form hO
      simp only [Value.slice.injEq, true_and] at eq0
      obtain ⟨rfl, rfl⟩ := eq0
      have hAk : ∀ k o, Ak = some ⟨k, o, none⟩ → k ≠ b := fun k o e => by
        subst e
        have := (OwnT.lt hO k rfl).1
        omega
      have hun : decide (j < n) = false ∨ decide (j < n) = true ∧ decide ((j : Int) < 5) = false := by
        by_cases h : j < n
        · right; simp; omega
        · left; simp; omega
      clear OP hop hz hjm
      rcases hun with t1 | ⟨t1, t2⟩
      all_goals
        go_wp2_with fail
        refine (HOP.out _ hD hTr hRk hAk).mono ?_
        rintro e y1 ⟨rfl, hDz, Kz⟩
        go_wp2_with fail
        go_ret
        exact ⟨rfl, bkb hBw Kz (by omega) (by intro k hk; simp at hk; omega)⟩
end Go.Proofs.YthppcmejffdicaaGreatDoor
