/- The law JournalPlays: its walk. -/
import Derived.Test.YthppcmejffdicaaGreatDoorQKl
import Derived.Deep.CutRange
import Derived.Deep.CutBlock

set_option linter.unusedSimpArgs false
set_option linter.unusedVariables false
namespace Go.Proofs.YthppcmejffdicaaGreatDoor
open Go.RowKit Hach Num Jn

/- the calls among the arguments -/
structure OpsAt (w : World) (A : Option Addr) (n : Nat) : Prop where
  row : 0 < n → ∃ b o, A = some ⟨b, o, none⟩ ∧ b < w.heap.size ∧ ∀ j, j < n → ∃ (kd nm : Nat) (tx : List UInt8), kd < 256 ∧ nm < 256 ∧ tx.length < 9223372036854775808 ∧
    w.cell? ⟨b, o + j * 3, none⟩ = some (.int .u8 kd) ∧ w.cell? ⟨b, o + j * 3 + 1, none⟩ = some (.int .u8 nm) ∧ w.cell? ⟨b, o + j * 3 + 2, none⟩ = some (.string ⟨tx.toArray⟩)
theorem below_kb {B : Nat} {W w w' : World} (h : Below B W w) {S : List Nat} (k : KB S w w') (hB : B ≤ w.heap.size) (hS : ∀ x ∈ S, B ≤ x) : Below B W w' := Below.trans h (k.below hB hS)
theorem Two.kb {w w' : World} {bd be N M : Nat} {d e d' e' : Dk} (h : Two w bd be d e N) {S : List Nat} (hK : KB S w w') (h6 : ∀ k ∈ S, 6 ≤ k) (hd : DkAt 65 w' bd d') (hr : DkAt 68 w' be e') (hs : Sim d' e') (h1 : DkOk d') (h2 : DkOk e') (hl : d'.text.length ≤ M) : Two w' bd be d' e' M :=
  ⟨hd, hr, hs, h1, h2, h.lt, h.b6, hl, h.tabs.kb hK h6⟩

set_option maxRecDepth 100000 in
set_option maxHeartbeats 4000000 in
theorem JournalPlays_any (A : Option Addr) (n c : Nat) (w : World) (hT : Tabs w) (hX : OpsAt w A n) (hn : n < 9223372036854775808) :
    Calls Tryz.prog 3 #[.slice A n c] w fun e w' => e = .returned (.bool true) ∧ Below w.heap.size w w' := by
  go_enter Tryz.func3, Tryz.ntmps3
  go_wp2_with fail
  refine (sanity_any w hT).mono ?_
  rintro e w1 ⟨rfl, hE1⟩
  have hT1 := hT.ext hE1
  go_wp2_with fail
  refine (new_p w1).mono ?_
  rintro e w2 ⟨rfl, hD2, hE2⟩
  have hT2 := hT1.ext hE2
  go_wp2_with fail
  refine (new_r w2).mono ?_
  rintro e w3 ⟨rfl, hD3, hE3⟩
  have hT3 := hT2.ext hE3
  have hlt3 : w1.heap.size < w2.heap.size := hD2.lt
  have h6 : 6 ≤ w1.heap.size := by have := hT1.sz; omega
  obtain ⟨bd, hbd⟩ : ∃ b, b = w1.heap.size := ⟨_, rfl⟩
  obtain ⟨be, hbe⟩ : ∃ b, b = w2.heap.size := ⟨_, rfl⟩
  have hNb : w.heap.size ≤ bd := by have := hE1.size; omega
  have hW3 : Two w3 bd be Dk.new Dk.new 0 := ⟨by rw [hbd]; exact hD2.ext hE3, by rw [hbe]; exact hD3, Sim.refl _, new_ok, new_ok, by omega, by omega, Nat.le_refl _, hT3⟩
  have hBw3 : Below w.heap.size w w3 := Ext.trans (Ext.trans hE1 hE2) hE3
  rw [← hbd, ← hbe]
  have hlt : bd < be := by omega
  clear hbd hbe hlt3 h6 hD2 hD3 hE3 hE2 hE1 hT3 hT2 hT1
  obtain ⟨m, hm⟩ : ∃ m, m = min n 25 := ⟨_, rfl⟩
  have hmn : m ≤ n := by omega
  have hm25 : m ≤ 25 := by omega
  have HM := Lib.hid hm
  clear hm
  go_wp2_with fail
  go_loopw [6, 7, 8] (fun av bv kv wr => ∃ (j : Nat) (d e : Dk), j ≤ m ∧ kv = .int .i64 j ∧ Two wr bd be d e (1000 * j) ∧ Logs wr bd be (1000 * j) av bv ∧ Below w.heap.size w wr) (fun _ _ kv _ => m - (intOf kv).toNat)
  case atStart => exact ⟨0, _, _, Nat.zero_le _, rfl, hW3, .inl ⟨rfl, rfl⟩, hBw3⟩
  case round =>
    obtain ⟨j, d, e, hj, rfl, hTw, hLg, hBw⟩ := hrel
    have hbs : w.heap.size ≤ wr.heap.size := hBw.size
    have hds : bd < wr.heap.size := hTw.dk.lt
    have hes : be < wr.heap.size := hTw.dr.lt
    by_cases hlt : j < m
    · obtain ⟨ba, o, rfl, hbl, hc0⟩ := hX.row (by omega)
      obtain ⟨kd, nm, tx, hkd, hnm, htx, c0', c1', c2'⟩ := hc0 j (by omega)
      have c0 : wr.cell? ⟨ba, o + j * 3, none⟩ = some (.int .u8 kd) := (Below.cell hBw (p := ⟨ba, o + j * 3, none⟩) hbl).trans c0'
      have c1 : wr.cell? ⟨ba, o + j * 3 + 1, none⟩ = some (.int .u8 nm) := (Below.cell hBw (p := ⟨ba, o + j * 3 + 1, none⟩) hbl).trans c1'
      have c2 : wr.cell? ⟨ba, o + j * 3 + 2, none⟩ = some (.string ⟨tx.toArray⟩) := (Below.cell hBw (p := ⟨ba, o + j * 3 + 2, none⟩) hbl).trans c2'
      clear hc0 c0' c1' c2'
      have hbw : ba < wr.heap.size := by omega
      have t1 : decide ((j : Int) < 25) = true := by simp; omega
      have t2 : decide ((j : Int) < (n : Int)) = true := by simp; omega
      obtain ⟨ts, htse⟩ : ∃ ts : ByteArray, (⟨tx.toArray⟩ : ByteArray) = ts := ⟨_, rfl⟩
      rw [htse] at c2
      have HTS := Lib.hid htse
      clear htse
      go_wp2_with fail
      apply wp_region_seq (l := [_, _, _, _, _, _, _, _, _, _, _]) (t := [_]) [some 31, some 32, some 33, some 34, some 35, some 36, some 37, some 38, some 39, some 40, some 9, some 10] [[], [], [0, 1], [2], [3], [], [], [5, 6], [7], [8], [4], [9]] [11, 11, 11, 11, 11, 11, 11, 11, 11, 11, 11] [eqv _, eqv _, eqv _, eqv _, (eqv (.string ⟨(tx.take 20).toArray⟩)), eqv _, eqv _, eqv _, eqv _, (eqv (.int .i64 ((nm : Int) % 40 - 1))), eqv _] (by kernel_rfl) (by kernel_rfl) ⟨?o0, ?o1, ?o2, ?o3, ?o4, ?o5, ?o6, ?o7, ?o8, ?o9, ?o10, trivial⟩ ?last
      case o0 => -- Op.move (Operand.tmp 0)
        intro xv W hE _
        simp only [putD, List.foldl_nil, List.getD_cons_zero]
        refine OpGoal.plain ?_
        go_wp2_with fail
        exact ⟨rfl, Ext.refl _, rfl⟩
      case o1 => -- Op.move (Operand.tmp 8)
        intro xv W hE _
        simp only [putD, List.foldl_nil, List.getD_cons_zero, List.getD_cons_succ]
        refine OpGoal.plain ?_
        go_wp2_with fail
        exact ⟨rfl, Ext.refl _, rfl⟩
      case o2 => -- Op.indexAddr 22 (Operand.tmp 31) (Operand.tmp 32)
        intro xv W hE hp
        have r0 : xv 0 = _ := hp.1
        have r1 : xv 1 = _ := hp.2.1
        clear hp
        simp only [putD, List.foldl_nil, List.foldl_cons, List.getD_cons_zero, List.getD_cons_succ, Act.put, List.setIfInBounds_toArray, List.set_cons_zero, List.set_cons_succ]
        refine OpGoal.plain ?_
        go_wp2_with fail
        exact ⟨rfl, Ext.refl _, rfl⟩
      case o3 => -- Op.load 31 (Operand.tmp 33)
        intro xv W hE hp
        have r2 : xv 2 = _ := hp.1
        clear hp
        have d0 : W.cell? ⟨ba, o + j * 3, none⟩ = some (.int .u8 kd) := (hE.old (p := ⟨ba, o + j * 3, none⟩) hbw).trans c0
        have d1 : W.cell? ⟨ba, o + j * 3 + 1, none⟩ = some (.int .u8 nm) := (hE.old (p := ⟨ba, o + j * 3 + 1, none⟩) hbw).trans c1
        have d2 : W.cell? ⟨ba, o + j * 3 + 2, none⟩ = some (.string ts) := (hE.old (p := ⟨ba, o + j * 3 + 2, none⟩) hbw).trans c2
        simp only [putD, List.foldl_nil, List.foldl_cons, List.getD_cons_zero, List.getD_cons_succ, Act.put, List.setIfInBounds_toArray, List.set_cons_zero, List.set_cons_succ]
        refine OpGoal.plain ?_
        go_wp2_with fail
        exact ⟨rfl, Ext.refl _, rfl⟩
      case o4 => -- Op.call { callee := Callee.value (Operand.func 12), args := #[Operand.tmp 34], a
        intro xv W hE hp
        have r3 : xv 3 = _ := hp.1
        clear hp
        simp only [putD, List.foldl_nil, List.foldl_cons, List.getD_cons_zero, List.getD_cons_succ, Act.put, List.setIfInBounds_toArray, List.set_cons_zero, List.set_cons_succ]
        refine OpGoal.plain ?_
        go_wp2_with fail
        rw [← HTS.out]
        refine (opText_any kd nm tx W htx).mono ?_
        rintro e w' ⟨rfl, hEt⟩
        go_wp2_with fail
        exact ⟨rfl, hEt, rfl⟩
      case o5 => -- Op.move (Operand.tmp 0)
        intro xv W hE _
        simp only [putD, List.foldl_nil, List.getD_cons_zero, List.getD_cons_succ]
        refine OpGoal.plain ?_
        go_wp2_with fail
        exact ⟨rfl, Ext.refl _, rfl⟩
      case o6 => -- Op.move (Operand.tmp 8)
        intro xv W hE _
        simp only [putD, List.foldl_nil, List.getD_cons_zero, List.getD_cons_succ]
        refine OpGoal.plain ?_
        go_wp2_with fail
        exact ⟨rfl, Ext.refl _, rfl⟩
      case o7 => -- Op.indexAddr 22 (Operand.tmp 36) (Operand.tmp 37)
        intro xv W hE hp
        have r5 : xv 5 = _ := hp.1
        have r6 : xv 6 = _ := hp.2.1
        clear hp
        simp only [putD, List.foldl_nil, List.foldl_cons, List.getD_cons_zero, List.getD_cons_succ, Act.put, List.setIfInBounds_toArray, List.set_cons_zero, List.set_cons_succ]
        refine OpGoal.plain ?_
        go_wp2_with fail
        exact ⟨rfl, Ext.refl _, rfl⟩
      case o8 => -- Op.load 31 (Operand.tmp 38)
        intro xv W hE hp
        have r7 : xv 7 = _ := hp.1
        clear hp
        have d0 : W.cell? ⟨ba, o + j * 3, none⟩ = some (.int .u8 kd) := (hE.old (p := ⟨ba, o + j * 3, none⟩) hbw).trans c0
        have d1 : W.cell? ⟨ba, o + j * 3 + 1, none⟩ = some (.int .u8 nm) := (hE.old (p := ⟨ba, o + j * 3 + 1, none⟩) hbw).trans c1
        have d2 : W.cell? ⟨ba, o + j * 3 + 2, none⟩ = some (.string ts) := (hE.old (p := ⟨ba, o + j * 3 + 2, none⟩) hbw).trans c2
        simp only [putD, List.foldl_nil, List.foldl_cons, List.getD_cons_zero, List.getD_cons_succ, Act.put, List.setIfInBounds_toArray, List.set_cons_zero, List.set_cons_succ]
        refine OpGoal.plain ?_
        go_wp2_with fail
        exact ⟨rfl, Ext.refl _, rfl⟩
      case o9 => -- Op.call { callee := Callee.value (Operand.func 13), args := #[Operand.tmp 39], a
        intro xv W hE hp
        have r8 : xv 8 = _ := hp.1
        clear hp
        simp only [putD, List.foldl_nil, List.foldl_cons, List.getD_cons_zero, List.getD_cons_succ, Act.put, List.setIfInBounds_toArray, List.set_cons_zero, List.set_cons_succ]
        refine OpGoal.plain ?_
        go_wp2_with fail
        refine (opNumber_any kd nm ts W hnm).mono ?_
        rintro e w' ⟨rfl, hEt⟩
        go_wp2_with fail
        exact ⟨rfl, hEt, rfl⟩
      case o10 => -- Op.assign (Operand.tmp 35)
        intro xv W hE hp
        have r4 : xv 4 = _ := hp.1
        clear hp
        simp only [putD, List.foldl_nil, List.foldl_cons, List.getD_cons_zero, List.getD_cons_succ, Act.put, List.setIfInBounds_toArray, List.set_cons_zero, List.set_cons_succ]
        refine OpGoal.plain ?_
        go_wp2_with fail
        exact ⟨rfl, Ext.refl _, rfl⟩
      case last =>
        intro xv W hE hp
        have r0 : xv 0 = _ := hp.1
        have r1 : xv 1 = _ := hp.2.1
        have r2 : xv 2 = _ := hp.2.2.1
        have r3 : xv 3 = _ := hp.2.2.2.1
        have r4 : xv 4 = _ := hp.2.2.2.2.1
        have r5 : xv 5 = _ := hp.2.2.2.2.2.1
        have r6 : xv 6 = _ := hp.2.2.2.2.2.2.1
        have r7 : xv 7 = _ := hp.2.2.2.2.2.2.2.1
        have r8 : xv 8 = _ := hp.2.2.2.2.2.2.2.2.1
        have r9 : xv 9 = _ := hp.2.2.2.2.2.2.2.2.2.1
        have r10 : xv 10 = _ := hp.2.2.2.2.2.2.2.2.2.2.1
        clear hp
        simp only [putD, List.foldl_nil, List.foldl_cons, List.getD_cons_zero, List.getD_cons_succ, Act.put, List.length_cons, List.length_nil, List.range_succ, List.range_zero, List.nil_append, List.cons_append, List.setIfInBounds_toArray, List.set_cons_zero, List.set_cons_succ]
        have hTW := (hTw.ext (Ext.drew _)).ext hE
        have hLW := (hLg.ext (Ext.drew _)).ext hE
        have hBW : Below w.heap.size w W := Below.trans hBw ((Ext.trans (Ext.drew _) hE).below.mono (by have : wr.drew.heap.size = wr.heap.size := rfl; omega))
        have hBs : w.heap.size ≤ W.heap.size := hBW.size
        have hcW : W.cell? ⟨ba, o + j * 3, none⟩ = some (.int .u8 (kd : Nat)) := (hE.old (p := ⟨ba, o + j * 3, none⟩) hbw).trans c0
        have htl : (tx.take 20).length ≤ 20 := by simp; omega
        have r4' : xv 4 = .string ⟨(tx.take 20).toArray⟩ := r4
        have r9' : xv 9 = .int .i64 ((nm : Int) % 40 - 1) := r9
        have e10 : xv 10 = .string ⟨(tx.take 20).toArray⟩ := r10
        rw [r4', r9', e10]
        clear r0 r1 r2 r3 r4 r5 r6 r7 r8 r9 r10 r4' r9' e10 c0 c1 c2 hE hTw hLg hBw HTS
        obtain ⟨nn, hnn⟩ : ∃ nn : Int, (nm : Int) % 40 - 1 = nn := ⟨_, rfl⟩
        have hn1 : -1 ≤ nn ∧ nn ≤ 38 := by omega
        rw [hnn]
        clear hnn
        generalize tx.take 20 = s20 at htl ⊢
        obtain ⟨kk, hkk⟩ : ∃ kk : Nat, kd % 8 = kk := ⟨_, rfl⟩
        have hkz : (kd : Int) % 8 = (kk : Int) := by omega
        have hkt : (kd : Int).tmod 8 = (kk : Int) := by rw [Int.tmod_eq_emod_of_nonneg (by omega)]; exact hkz
        have hbN : be < W.heap.size := hTW.dr.lt
        have hdN : bd < W.heap.size := hTW.dk.lt
        have hlt2 := hTW.lt
        have hdl := hTW.len
        have hel : e.text.length = d.text.length := by rw [hTW.sim.text]
        go_upto_block 2 with fail
        go_cut [6, 7, 11] from 21 to 127 (fun av bv sv wx => sv = .bool true ∧ (∃ d e, Two wx bd be d e (1000 * j + 500) ∧ Logs wx bd be (1000 * j + 500) av bv) ∧ Below w.heap.size w wx)
        case first =>
          have hk : kk = 0 ∨ kk = 1 ∨ kk = 2 ∨ kk = 3 ∨ kk = 4 ∨ 5 ≤ kk := by omega
          have HKZ := Lib.hid hkk
          clear hkk
          rcases hk with rfl | rfl | rfl | rfl | rfl | hk
          · -- Write
            have S := hTW.sim.write s20
            have C1 := write_p bd d s20 W hTW.dk hTW.okd (by omega)
            have C2 := fun (W' : World) (h : DkAt 68 W' be e) => write_r be e s20 W' h hTW.oke (by omega)
            have O1 := write_ok hTW.okd (s := s20) (by omega)
            have O2 := write_ok hTW.oke (s := s20) (by omega)
            have L1 := write_le d s20
            obtain ⟨r, d', hd'⟩ : ∃ r d', d.write s20 = (r, d') := ⟨_, _, rfl⟩
            obtain ⟨r', e', he'⟩ : ∃ r e', e.write s20 = (r, e') := ⟨_, _, rfl⟩
            rw [hd'] at C1 S O1 L1
            simp only [he'] at C2 S O2
            obtain ⟨rfl, S2⟩ := S
            have H1 := Lib.hid C1
            have H2 := Lib.hid C2
            clear C1 C2 hd' he' hkz
            go_wp2_with fail
            refine H1.out.mono ?_
            rintro x W1 ⟨rfl, D1, g1⟩
            go_wp2_with fail
            refine (H2.out _ (hTW.dr.own g1 (by simp; omega))).mono ?_
            rintro x W2 ⟨rfl, D2, g2⟩
            obtain ⟨T2, K2⟩ := hTW.step g1 D1 g2 D2 S2 O1 O2 (Nat.le_refl _)
            go_wp2_with fail
            go_meet
            case rel => exact ⟨by simp, ⟨_, _, T2.more (by omega), (hLW.more (by omega)).kb K2 (by simp; omega)⟩, bkb hBW K2 (by omega) (by simp; omega)⟩
          · -- Sync
            have S := hTW.sim.sync
            have C1 := sync_p bd d W hTW.dk hTW.okd
            have C2 := fun (W' : World) (h : DkAt 68 W' be e) => sync_r be e W' h hTW.oke
            have O1 := sync_ok hTW.okd
            have O2 := sync_ok hTW.oke
            have L1 := sync_le d
            obtain ⟨r, d', hd'⟩ : ∃ r d', d.sync = (r, d') := ⟨_, _, rfl⟩
            obtain ⟨r', e', he'⟩ : ∃ r e', e.sync = (r, e') := ⟨_, _, rfl⟩
            rw [hd'] at C1 S O1 L1
            simp only [he'] at C2 S O2
            obtain ⟨rfl, S2⟩ := S
            have H1 := Lib.hid C1
            have H2 := Lib.hid C2
            clear C1 C2 hd' he' hkz
            go_wp2_with fail
            refine H1.out.mono ?_
            rintro x W1 ⟨rfl, D1, g1⟩
            go_wp2_with fail
            refine (H2.out _ (hTW.dr.own g1 (by simp; omega))).mono ?_
            rintro x W2 ⟨rfl, D2, g2⟩
            obtain ⟨T2, K2⟩ := hTW.step g1 D1 g2 D2 S2 O1 O2 (Nat.le_refl _)
            go_wp2_with fail
            go_meet
            case rel => exact ⟨by simp, ⟨_, _, T2.more (by omega), (hLW.more (by omega)).kb K2 (by simp; omega)⟩, bkb hBW K2 (by omega) (by simp; omega)⟩
          · -- Fail
            obtain ⟨q, hq⟩ : ∃ q, nn.tdiv 4 = q := ⟨_, rfl⟩
            have hqb : 0 ≤ q ∧ q ≤ 9 := by
              by_cases h : nn = -1
              · subst h; rw [← hq]; decide
              · rw [← hq, Int.tdiv_eq_ediv_of_nonneg (by omega)]; omega
            have H1 := Lib.hid (fail_p bd d q W hTW.dk)
            have H2 := Lib.hid (fun (W' : World) (h : DkAt 68 W' be e) => fail_r be e q W' h)
            have O1 := fail_ok hTW.okd q (by omega) (by omega)
            have O2 := fail_ok hTW.oke q (by omega) (by omega)
            have S2 := hTW.sim.fail q
            clear hkz
            go_wp2_with fail
            refine H1.out.mono ?_
            rintro x W1 ⟨rfl, D1, g1⟩
            go_wp2_with fail
            refine (H2.out _ (hTW.dr.own g1 (by simp; omega))).mono ?_
            rintro x W2 ⟨rfl, D2, g2⟩
            obtain ⟨T2, K2⟩ := hTW.step (M := 1000 * j) g1 D1 g2 D2 S2 O1 O2 hdl
            go_wp2_with fail
            go_meet
            case rel => exact ⟨rfl, ⟨_, _, T2.more (by omega), (hLW.more (by omega)).kb K2 (by simp; omega)⟩, bkb hBW K2 (by omega) (by simp; omega)⟩
          · -- Crash
            have H1 := Lib.hid (crash_p bd d nn W hTW.dk hTW.okd)
            have H2 := Lib.hid (fun (W' : World) (h : DkAt 68 W' be e) => crash_r be e nn W' h hTW.oke)
            have O1 := crash_ok hTW.okd nn.toNat
            have O2 := crash_ok2 hTW.oke nn.toNat
            have S2 := hTW.sim.crash nn.toNat
            have L1 := crash_le d nn.toNat
            clear hkz
            go_wp2_with fail
            refine H1.out.mono ?_
            rintro x W1 ⟨rfl, D1, g1⟩
            go_wp2_with fail
            refine (H2.out _ (hTW.dr.own g1 (by simp; omega))).mono ?_
            rintro x W2 ⟨rfl, D2, g2⟩
            obtain ⟨T2, K2⟩ := hTW.step (M := 1000 * j) g1 D1 g2 D2 S2 O1 O2 (by omega)
            go_wp2_with fail
            go_meet
            case rel => exact ⟨rfl, ⟨_, _, T2.more (by omega), (hLW.more (by omega)).kb K2 (by simp; omega)⟩, bkb hBW K2 (by omega) (by simp; omega)⟩
          · -- Open
            have S := hTW.sim.open_
            have HOP := Lib.hid (openP_any bd d W hTW.dk hTW.okd (by omega) hTW.tabs hTW.b6)
            have HOR := Lib.hid (fun (W' : World) (h : DkAt 68 W' be e) => openR_any be e W' h hTW.oke (by omega))
            have O1 := open_ok hTW.okd (by omega)
            have O2 := open_ok hTW.oke (by omega)
            have L1 := open_len d
            have HS := Lib.hid S
            clear hkz S
            go_wp2_with fail
            refine HOP.out.mono ?_
            intro x W1 hx
            unfold OpenEnd at hx
            obtain ⟨D1, K1, hx⟩ := hx
            have DR1 := K1.dk hTW.dr (by simp; omega)
            have hT1 := hTW.tabs.kb K1 (by simp; have := hTW.b6; omega)
            rcases hx with ⟨hno, rfl⟩ | ⟨hyes, ga, v, rfl, hga, hga2, La, Oa⟩
            · have hno2 := HS.out.1.trans hno
              have HNO := Lib.hid hno2
              clear hno hno2
              go_wp2_with fail
              refine (HOR.out _ DR1).mono ?_
              intro x W2 hy
              unfold OpenEnd at hy
              obtain ⟨D2, K2, hy⟩ := hy
              rcases hy with ⟨_, rfl⟩ | ⟨hc, _⟩
              · have D1b := K2.dk D1 (by simp; omega)
                have hK : KB [bd, be] W W2 := (K1.more (by simp)).trans (K2.more (by simp))
                have T2 : Two W2 bd be d.open_.2 e.open_.2 (1000 * j + 1) := ⟨D1b, D2, HS.out.2, O1, O2, hlt2, hTW.b6, by omega, hT1.kb K2 (by simp; have := hTW.b6; omega)⟩
                clear HNO HS
                go_wp2_with fail
                refine (same_T none none 0 0 0 0 [] [] W2 ⟨rfl, fun h => absurd h (by omega)⟩ ⟨rfl, fun h => absurd h (by omega)⟩ (by omega) (by omega)).mono ?_
                rintro x W3 ⟨rfl, hE3⟩
                rw [decide_eq_true (rfl : ([] : List (List UInt8)) = [])]
                go_wp2_with fail
                go_meet
                case rel => exact ⟨rfl, ⟨_, _, (T2.more (by omega)).ext hE3, .inl ⟨rfl, rfl⟩⟩, Below.trans (bkb hBW hK (by omega) (by simp; omega)) (hE3.below.mono (by have := hK.size; omega))⟩
              · rw [HNO.out] at hc; cases hc
            · have hy2 := HS.out.1.trans hyes
              have HYES := Lib.hid hy2
              clear hyes hy2
              obtain ⟨Aa, ca, rfl⟩ := own_form Oa
              have hcnt := recs_le d.open_.2.text
              have htxt := HS.out.2.text
              have HTXT := Lib.hid htxt
              clear htxt
              obtain ⟨G, hG⟩ : ∃ G, recs d.open_.2.text = G := ⟨_, rfl⟩
              rw [hG] at La Oa hcnt
              rw [hG]
              have HG := Lib.hid hG
              clear hG
              go_wp2_with fail
              refine (HOR.out _ DR1).mono ?_
              intro x W2 hy
              unfold OpenEnd at hy
              rw [HTXT.out, HG.out] at hy
              obtain ⟨D2, K2, hy⟩ := hy
              rcases hy with ⟨hc, _⟩ | ⟨_, gb, v2, rfl, hgb, hgb2, Lb, Ob⟩
              · rw [HYES.out] at hc; cases hc
              · obtain ⟨Ab, cb, rfl⟩ := own_form Ob
                have hW1 : W.heap.size ≤ W1.heap.size := K1.size
                have hW2 : W1.heap.size ≤ W2.heap.size := K2.size
                have D1b := K2.dk D1 (by simp; omega)
                have Lab := K2.lg La (by simp; omega)
                have hK : KB [bd, be] W W2 := (K1.more (by simp)).trans (K2.more (by simp))
                have T2 : Two W2 bd be d.open_.2 e.open_.2 (1000 * j + 1) := ⟨D1b, D2, HS.out.2, O1, O2, hlt2, hTW.b6, by omega, hT1.kb K2 (by simp; have := hTW.b6; omega)⟩
                have Oa2 := Oa.kb1 K2 (by intro k e; have h2 := (OwnT.lt Oa k e).1; simp; omega)
                obtain ⟨_, _, eqa, Ra⟩ := OwnT.form Oa2
                obtain ⟨_, _, eqb, Rb⟩ := OwnT.form Ob
                simp only [Value.slice.injEq, true_and] at eqa eqb
                obtain ⟨rfl, rfl⟩ := eqa
                obtain ⟨rfl, rfl⟩ := eqb
                clear HYES HS HTXT HG
                go_wp2_with fail
                refine (same_T Aa Ab G.length G.length ca cb G G W2 Ra Rb (by omega) (by omega)).mono ?_
                rintro x W3 ⟨rfl, hE3⟩
                rw [decide_eq_true (rfl : G = G)]
                go_wp2_with fail
                go_meet
                case rel => exact ⟨rfl, ⟨_, _, (T2.more (by omega)).ext hE3, .inr ⟨ga, gb, G.length, false, rfl, rfl, by omega, by omega, by omega, Lab.ext hE3, Lb.ext hE3⟩⟩, Below.trans (bkb hBW hK (by omega) (by simp; omega)) (hE3.below.mono (by have := hK.size; omega))⟩
          · -- Append
            have f0 : ((kk : Int) == 0) = false := by rw [beq_eq_false_iff_ne]; omega
            have f1 : ((kk : Int) == 1) = false := by rw [beq_eq_false_iff_ne]; omega
            have f2 : ((kk : Int) == 2) = false := by rw [beq_eq_false_iff_ne]; omega
            have f3 : ((kk : Int) == 3) = false := by rw [beq_eq_false_iff_ne]; omega
            have f4 : ((kk : Int) == 4) = false := by rw [beq_eq_false_iff_ne]; omega
            clear hk
            rcases hLW with ⟨rfl, rfl⟩ | ⟨ga, gb, ct, br, rfl, rfl, hga, hgb, hct, La, Lb⟩
            · go_wp2_with fail
              refine (append_nil_p ⟨s20.toArray⟩ W).mono ?_
              rintro x W' ⟨rfl, rfl⟩
              rename World => W
              go_wp2_with fail
              refine (append_nil_r ⟨s20.toArray⟩ W).mono ?_
              rintro x W' ⟨rfl, rfl⟩
              rename World => W
              go_wp2_with fail
              go_meet
              case rel => exact ⟨rfl, ⟨_, _, hTW.more (by omega), .inl ⟨rfl, rfl⟩⟩, hBW⟩
            · have hll := line_len htl
              have S := hTW.sim.app ct br (line s20)
              have C1 := appendP_any ga bd ct d br s20 W La hTW.dk (by omega) hTW.okd (by omega) (by omega) (by omega) hTW.tabs
              have C2 := fun (W' : World) (hL : LgAt 75 W' gb (some be) ct br) (h : DkAt 68 W' be e) => appendR_any gb be ct e br s20 W' hL h (by omega) hTW.oke (by omega) (by omega) (by omega)
              have O1 := app_ok hTW.okd ct br (line s20) (by omega)
              have O2 := app_ok hTW.oke ct br (line s20) (by omega)
              have L1 := app_le d ct br (line s20)
              obtain ⟨r, d', ct', br', hd'⟩ : ∃ r d' ct' br', appRes d ct br (line s20) = (r, d', ct', br') := ⟨_, _, _, _, rfl⟩
              obtain ⟨r', e', ct2, br2, he'⟩ : ∃ r d' ct' br', appRes e ct br (line s20) = (r, d', ct', br') := ⟨_, _, _, _, rfl⟩
              rw [hd'] at C1 S O1 L1
              simp only [he'] at C2 S O2
              obtain ⟨rfl, hpair, S2⟩ := S
              simp only [Prod.mk.injEq] at hpair
              obtain ⟨rfl, rfl⟩ := hpair
              have H1 := Lib.hid C1
              have H2 := Lib.hid C2
              clear C1 C2 hd' he' hkz
              go_wp2_with fail
              refine H1.out.mono ?_
              rintro x W1 ⟨rfl, D1, La1, K1⟩
              have DR1 := K1.dk hTW.dr (by simp; omega)
              have Lb1 := K1.lg Lb (by simp; omega)
              have hT1 := hTW.tabs.kb K1 (by simp; have := hTW.b6; omega)
              go_wp2_with fail
              refine (H2.out _ Lb1 DR1).mono ?_
              rintro x W2 ⟨rfl, D2, Lb2, K2⟩
              have D1b := K2.dk D1 (by simp; omega)
              have La2 := K2.lg La1 (by simp; omega)
              have T2 : Two W2 bd be d' e' (1000 * j + 100) := ⟨D1b, D2, S2, O1, O2, hlt2, hTW.b6, by omega, hT1.kb K2 (by simp; have := hTW.b6; omega)⟩
              have hK : KB [ga, gb, bd, be] W W2 := (K1.more (by simp)).trans (K2.more (by simp))
              go_wp2_with fail
              go_meet
              case rel => exact ⟨by simp, ⟨_, _, T2.more (by omega), .inr ⟨ga, gb, _, _, rfl, rfl, hga, hgb, by omega, La2, Lb2⟩⟩, bkb hBW hK (by omega) (by simp; omega)⟩
        case rest =>
          obtain ⟨rfl, ⟨d1, e1, hT2, hL2⟩, hBc⟩ := hcut
          have RP := read_p bd d1 wc hT2.dk
          have RR := read_r be e1 wc hT2.dr
          rw [hT2.sim.text] at RR
          generalize (⟨d1.text.toArray⟩ : ByteArray) = tv at RP RR
          have HRP := Lib.hid RP
          have HRR := Lib.hid RR
          clear RP RR
          rcases hL2 with ⟨rfl, rfl⟩ | ⟨ga, gb, ct, br, rfl, rfl, hga, hgb, hct, La, Lb⟩
          · go_wp2_with fail
            refine HRP.out.mono ?_
            rintro x w' ⟨rfl, rfl⟩
            go_wp2_with fail
            refine HRR.out.mono ?_
            rintro x w' ⟨rfl, rfl⟩
            go_wp2_with fail
            refine (count_nil_p _).mono ?_
            rintro x w' ⟨rfl, rfl⟩
            go_wp2_with fail
            refine (count_nil_r _).mono ?_
            rintro x w' ⟨rfl, rfl⟩
            go_wp2_with fail
            go_roundw
            case rel => exact ⟨j + 1, d1, e1, by omega, by go_num, hT2.more (by omega), .inl ⟨rfl, rfl⟩, hBc⟩
            case measure => simp [intOf]; omega
          · go_wp2_with fail
            refine HRP.out.mono ?_
            rintro x w' ⟨rfl, rfl⟩
            go_wp2_with fail
            refine HRR.out.mono ?_
            rintro x w' ⟨rfl, rfl⟩
            go_wp2_with fail
            refine (count_p ga ct (some bd) br _ La).mono ?_
            rintro x w' ⟨rfl, rfl⟩
            go_wp2_with fail
            refine (count_r gb ct (some be) br _ Lb).mono ?_
            rintro x w' ⟨rfl, rfl⟩
            go_wp2_with fail
            go_roundw
            case rel => exact ⟨j + 1, d1, e1, by omega, by go_num, hT2.more (by omega), .inr ⟨ga, gb, ct, br, rfl, rfl, hga, hgb, by omega, La, Lb⟩, hBc⟩
            case measure => simp [intOf]; omega
    · have hun : decide (j < n) = false ∨ decide (j < n) = true ∧ decide ((j : Int) < 25) = false := by
        have := HM.out
        by_cases h : j < n
        · right; simp; omega
        · left; simp; omega
      rcases hun with t1 | ⟨t1, t2⟩
      all_goals
        go_wp2_with fail
        go_ret
        exact ⟨rfl, hBw⟩
end Go.Proofs.YthppcmejffdicaaGreatDoor
