/- The reference's decimal numbers. -/
import Derived.Test.YtompfgofaplffaaGreatDoorQFc
import Derived.Maps.AppendAt
import Derived.Laws.Strings2
set_option linter.unusedSimpArgs false
set_option linter.unusedVariables false
namespace Go.Proofs.YtompfgofaplffaaGreatDoor
open Go.RowKit Hach Num

theorem ba_append (a b : List UInt8) : (⟨a.toArray⟩ : ByteArray) ++ ⟨b.toArray⟩ = ⟨(a ++ b).toArray⟩ := by
  apply ByteArray.ext
  rw [ByteArray.data_append]
  simp
theorem one_byte {w : World} {g : Nat} {y : UInt8} (h : w.cell? ⟨g, 0, none⟩ = some (.int .u8 (y.toNat : Nat))) (c : Nat) : (convert 91 9 (.slice (some ⟨g, 0, none⟩) 1 c)).run Tryz.prog w = .ok (.string ⟨#[y]⟩) w := by
  have hc := run_convert_bytes_arg (P := Tryz.prog) w 91 5 Tryz.underlying91 Tryz.underlying5 g 0 1 c [(y.toNat : Int)] rfl (by
    intro i hi
    obtain rfl : i = 0 := by simpa using hi
    exact h) 9 Tryz.underlying9
  rw [hc]
  simp [strOfNums]
theorem itoa_small {n : Int} (h0 : 0 ≤ n) (h1 : n < 10) : Lib.itoa n = [UInt8.ofNat (48 + n.toNat)] := by
  unfold Lib.itoa; rw [if_neg (by omega), Lib.decDigits_one (by omega)]
theorem itoa_minus {n : Int} (h1 : n < 0) : Lib.itoa n = 45 :: Lib.itoa (-n) := by
  unfold Lib.itoa; rw [if_pos h1, if_neg (by omega)]; congr 2; omega
theorem itoa_step {n : Int} (h : n ≤ -10 ∨ 10 ≤ n) : Lib.itoa n = Lib.itoa (n.tdiv 10) ++ Lib.itoa (if n < 0 then -(n.tmod 10) else n.tmod 10) := by
  rcases h with h | h
  · have hd : n.tdiv 10 = -((n.natAbs / 10 : Nat) : Int) := by
      have e : n = -((n.natAbs : Nat) : Int) := by omega
      rw [e, Int.neg_tdiv]; simp [Int.tdiv]
    have hm : n.tmod 10 = -((n.natAbs % 10 : Nat) : Int) := by
      have e : n = -((n.natAbs : Nat) : Int) := by omega
      rw [e, Int.neg_tmod]; simp [Int.tmod]
    rw [if_pos (by omega), hd, hm]
    unfold Lib.itoa
    rw [if_pos (by omega), if_pos (by omega), if_neg (by omega)]
    rw [Lib.decDigits, dif_neg (by omega)]
    simp only [Int.neg_neg, Int.natAbs_neg, Int.natAbs_natCast, Int.toNat_natCast, List.cons_append]
    rw [Lib.decDigits_one (i := n.natAbs % 10) (by omega)]
  · have hd : n.tdiv 10 = ((n.toNat / 10 : Nat) : Int) := by
      have e : n = ((n.toNat : Nat) : Int) := by omega
      rw [e]; simp [Int.tdiv]
    have hm : n.tmod 10 = ((n.toNat % 10 : Nat) : Int) := by
      have e : n = ((n.toNat : Nat) : Int) := by omega
      rw [e]; simp [Int.tmod]
    rw [if_neg (by omega), hd, hm]
    unfold Lib.itoa
    rw [if_neg (by omega), if_neg (by omega), if_neg (by omega)]
    rw [Lib.decDigits, dif_neg (by omega)]
    simp only [Int.toNat_natCast]
    rw [Lib.decDigits_one (i := n.toNat % 10) (by omega)]
theorem itoa_size {v : Int} (h : InI v) : (Lib.itoa v).length ≤ 21 ∧ (⟨(Lib.itoa v).toArray⟩ : ByteArray).size ≤ 21 := by
  have := Lib.itoa_length_le v h.1 h.2
  exact ⟨this, by show (Lib.itoa v).toArray.size ≤ 21; simpa using this⟩
set_option maxRecDepth 100000 in
theorem dec_digit (j : Nat) (hj : j < 10) (w : World) :
    Calls Tryz.prog 20 #[.int .i64 (j : Nat)] w fun e w' => e = .returned (.string ⟨(Lib.itoa j).toArray⟩) ∧ Ext w w' := by
  have hit := itoa_small (n := j) (by omega) (by omega)
  simp only [Int.toNat_natCast] at hit
  have hy : (UInt8.ofNat (48 + j)).toNat = 48 + j := dig_toNat hj
  obtain ⟨y, hyy⟩ : ∃ y, UInt8.ofNat (48 + j) = y := ⟨_, rfl⟩
  rw [hyy] at hy hit
  have hcv : (convert 91 9 (.slice (some ⟨w.heap.size, 0, none⟩) 1 1)).run Tryz.prog (w.alloc (.cells #[.int .u8 (48 + (j : Int))] 5)) = .ok (.string ⟨#[y]⟩) (w.alloc (.cells #[.int .u8 (48 + (j : Int))] 5)) :=
    one_byte (y := y) (by rw [hy]; exact (World.cell?_alloc_new _ _ _ _).trans rfl) 1
  have HIT := Lib.hid hit
  have t1 : decide (j < 10) = true := by simpa using hj
  clear hit hy hyy
  go_enter Tryz.func20, Tryz.ntmps20
  go_wp2_with fail
  go_ret
  exact ⟨by rw [HIT.out]; rfl, Ext.alloc _ _⟩
set_option maxRecDepth 100000 in
set_option maxHeartbeats 2000000 in
theorem decimal_nat (k : Nat) : ∀ (n : Int), n.natAbs ≤ k → InI n → ∀ w : World,
    Calls Tryz.prog 20 #[.int .i64 n] w fun e w' => e = .returned (.string ⟨(Lib.itoa n).toArray⟩) ∧ Ext w w' := by
  induction k using Nat.strongRecOn with
  | _ k ih =>
  intro n hk hn w
  obtain ⟨hn0, hn1⟩ := hn
  by_cases h0 : 0 ≤ n ∧ n < 10
  · obtain ⟨j, rfl⟩ : ∃ j : Nat, n = j := ⟨n.toNat, by omega⟩
    exact dec_digit j (by omega) w
  · by_cases hs : n < 0 ∧ -10 < n
    · obtain ⟨s0, s1⟩ := hs
      have hit := itoa_minus s0
      have hq : n.tdiv 10 = 0 := by
        have e : n = -((n.natAbs : Nat) : Int) := by omega
        rw [e, Int.neg_tdiv]; simp [Int.tdiv]; omega
      have hm : n.tmod 10 = n := by
        have := Int.mul_tdiv_add_tmod n 10
        omega
      obtain ⟨m, hmm⟩ : ∃ m, n.tmod 10 = m := ⟨_, rfl⟩
      have hmn : m = n := by rw [← hmm, hm]
      obtain ⟨j, hj⟩ : ∃ j : Nat, -m = j := ⟨n.natAbs, by omega⟩
      have ew : IntKind.i64.wrap (-m) = (j : Int) := by rw [IntWalk.i64_in _ (by omega), hj]
      rw [show -n = (j : Int) by omega] at hit
      have HIT := Lib.hid hit
      have HD := Lib.hid (fun W => dec_digit j (by omega) W)
      have t0 : decide (0 ≤ n) = false := by simp; omega
      have t1 : decide (n < 0) = true := by simpa using s0
      obtain ⟨l1, l2⟩ := itoa_size (v := j) ⟨by omega, by omega⟩
      have c1 : (⟨#[45]⟩ : ByteArray).size ≤ 1 := by decide
      clear hit ih h0 s0 s1 hm hmn hj
      go_enter Tryz.func20, Tryz.ntmps20
      go_wp2_with fail
      refine (HD.out w).mono ?_
      rintro e w1 ⟨rfl, hE⟩
      go_wp2_with fail
      go_ret
      refine ⟨?_, hE⟩
      rw [HIT.out, show (45 :: Lib.itoa (j : Int)) = [45] ++ Lib.itoa (j : Int) from rfl, ← ba_append]; rfl
    · have h10 : n ≤ -10 ∨ 10 ≤ n := by omega
      have hit := itoa_step h10
      obtain ⟨q, hq⟩ : ∃ q, n.tdiv 10 = q := ⟨_, rfl⟩
      obtain ⟨m, hm⟩ : ∃ m, n.tmod 10 = m := ⟨_, rfl⟩
      rw [hq, hm] at hit
      have hmr : -9 ≤ m ∧ m ≤ 9 ∧ (0 ≤ n → 0 ≤ m) ∧ (n < 0 → m ≤ 0) := by
        have h1 := Int.tmod_lt_of_pos n (b := 10) (by omega)
        have h2 := Int.lt_tmod_of_pos n (b := 10) (by omega)
        rw [hm] at h1 h2
        refine ⟨by omega, by omega, fun h => ?_, fun h => ?_⟩
        · rw [← hm]; exact Int.tmod_nonneg _ h
        · have := Int.tmod_nonneg (a := -n) 10 (by omega)
          rw [Int.neg_tmod, hm] at this; omega
      obtain ⟨m0, m1, m2, m3⟩ := hmr
      have hdm := Int.mul_tdiv_add_tmod n 10
      rw [hq, hm] at hdm
      have hq0 : q.natAbs < n.natAbs ∧ ¬ q = 0 := by omega
      have hqa : -9223372036854775808 ≤ q := by omega
      have hqb : q ≤ 9223372036854775807 := by omega
      have HREC := Lib.hid (ih q.natAbs (by omega) q (Nat.le_refl _) ⟨by omega, by omega⟩)
      obtain ⟨l3, l4⟩ := itoa_size (v := q) ⟨by omega, by omega⟩
      by_cases s0 : n < 0
      · rw [if_pos s0] at hit
        obtain ⟨j, hj⟩ : ∃ j : Nat, -m = j := ⟨m.natAbs, by omega⟩
        have ew : IntKind.i64.wrap (-m) = (j : Int) := by rw [IntWalk.i64_in _ (by omega), hj]
        rw [hj] at hit
        have HIT := Lib.hid hit
        have HD := Lib.hid (fun W => dec_digit j (by omega) W)
        have t0 : decide (0 ≤ n) = false := by simp; omega
        have t1 : decide (n < 0) = true := by simpa using s0
        have tq : ¬ q = 0 := hq0.2
        obtain ⟨l1, l2⟩ := itoa_size (v := j) ⟨by omega, by omega⟩
        clear hit ih h0 hs h10 m2 m3 hdm hq0 s0 hj
        go_enter Tryz.func20, Tryz.ntmps20
        go_wp2_with fail
        refine (HREC.out w).mono ?_
        rintro e w1 ⟨rfl, hE⟩
        go_wp2_with fail
        refine (HD.out w1).mono ?_
        rintro e w2 ⟨rfl, hE2⟩
        go_wp2_with fail
        go_ret
        refine ⟨?_, hE.trans hE2⟩
        rw [HIT.out, ← ba_append]; rfl
      · rw [if_neg s0] at hit
        obtain ⟨j, rfl⟩ : ∃ j : Nat, m = j := ⟨m.natAbs, by omega⟩
        have HIT := Lib.hid hit
        have HD := Lib.hid (fun W => dec_digit j (by omega) W)
        have t0 : decide (0 ≤ n) = true := by simp; omega
        have t2 : decide (n < 10) = false := by simp; omega
        have t1 : decide (n < 0) = false := by simpa using s0
        obtain ⟨l1, l2⟩ := itoa_size (v := j) ⟨by omega, by omega⟩
        clear hit ih h0 hs h10 m2 m3 hdm hq0 s0
        go_enter Tryz.func20, Tryz.ntmps20
        go_wp2_with fail
        refine (HREC.out w).mono ?_
        rintro e w1 ⟨rfl, hE⟩
        go_wp2_with fail
        refine (HD.out w1).mono ?_
        rintro e w2 ⟨rfl, hE2⟩
        go_wp2_with fail
        go_ret
        refine ⟨?_, hE.trans hE2⟩
        rw [HIT.out, ← ba_append]; rfl
theorem decimal_any (n : Int) (hn : InI n) (w : World) : Calls Tryz.prog 20 #[.int .i64 n] w fun e w' => e = .returned (.string ⟨(Lib.itoa n).toArray⟩) ∧ Ext w w' := decimal_nat n.natAbs n (Nat.le_refl _) hn w
end Go.Proofs.YtompfgofaplffaaGreatDoor

namespace Go.Proofs.YtompfgofaplffaaGreatDoor
open Go.RowKit Hach Num

theorem text_four {e : Ev} (h : e.kind = 1 ∨ e.kind = 2 ∨ e.kind = 4) (p : List UInt8) (hp : p = wordK e.kind ++ [32]) : p ++ Lib.itoa e.id ++ [32] ++ Lib.itoa (secE e) ++ ([32, 97, 116, 32] ++ Lib.itoa e.at_) = textE e := by
  unfold textE
  rw [if_pos (by omega)]
  unfold wordsE
  rw [if_neg (by omega), hp]
  simp [glue, wAt]
theorem text_three {e : Ev} (h : e.kind = 3) : [116, 104, 105, 110, 32] ++ Lib.itoa e.id ++ ([32, 97, 116, 32] ++ Lib.itoa e.at_) = textE e := by
  unfold textE
  rw [if_pos (by omega)]
  unfold wordsE
  rw [if_pos h, h]
  simp [glue, wAt, wordK, wThin]
theorem text_none {e : Ev} (h : ¬ (1 ≤ e.kind ∧ e.kind ≤ 4)) : textE e = [] := by unfold textE; rw [if_neg h]
set_option maxRecDepth 100000 in
set_option maxHeartbeats 4000000 in
theorem rtext_any (e : Ev) (he : InEv e) (w : World) : Calls Tryz.prog 8 #[.agg #[.int .i64 e.kind, .int .i64 e.at_, .int .i64 e.id, .int .i64 e.other, .int .i64 e.n]] w fun r w' => r = .returned (.string ⟨(textE e).toArray⟩) ∧ Ext w w' := by
  obtain ⟨ik, it, ii, io, i_n⟩ := he
  have HBK := Lib.hid (show EvBlk (w.alloc (.cells #[.int .i64 e.kind, .int .i64 e.at_, .int .i64 e.id, .int .i64 e.other, .int .i64 e.n] 23)) w.heap.size e from Go.heap_alloc_new w _)
  have HE1 := Lib.hid (Ext.alloc w (.cells #[.int .i64 e.kind, .int .i64 e.at_, .int .i64 e.id, .int .i64 e.other, .int .i64 e.n] 23))
  have HT := Lib.hid (fun W => decimal_any e.at_ it W)
  have HI := Lib.hid (fun W => decimal_any e.id ii W)
  have HO := Lib.hid (fun W => decimal_any e.other io W)
  have HN := Lib.hid (fun W => decimal_any e.n i_n W)
  have zT := (itoa_size it).2
  have zI := (itoa_size ii).2
  have zO := (itoa_size io).2
  have zN := (itoa_size i_n).2
  obtain ⟨sT, hT⟩ : ∃ s : ByteArray, ⟨(Lib.itoa e.at_).toArray⟩ = s := ⟨_, rfl⟩
  obtain ⟨sI, hI⟩ : ∃ s : ByteArray, ⟨(Lib.itoa e.id).toArray⟩ = s := ⟨_, rfl⟩
  obtain ⟨sO, hO⟩ : ∃ s : ByteArray, ⟨(Lib.itoa e.other).toArray⟩ = s := ⟨_, rfl⟩
  obtain ⟨sN, hN⟩ : ∃ s : ByteArray, ⟨(Lib.itoa e.n).toArray⟩ = s := ⟨_, rfl⟩
  rw [hT] at HT zT
  rw [hI] at HI zI
  rw [hO] at HO zO
  rw [hN] at HN zN
  have GT := Lib.hid hT
  have GI := Lib.hid hI
  have GO := Lib.hid hO
  have GN := Lib.hid hN
  clear hT hI hO hN ik it ii io i_n
  have cA : (⟨#[32, 97, 116, 32]⟩ : ByteArray).size ≤ 4 := by decide
  have cB : (⟨#[32]⟩ : ByteArray).size ≤ 1 := by decide
  by_cases hk1 : e.kind = 1
  · have cW : (⟨#[100, 114, 111, 112, 32]⟩ : ByteArray).size ≤ 5 := by decide
    have HX := Lib.hid (text_four (e := e) (by omega) [100, 114, 111, 112, 32] (by rw [hk1]; rfl))
    have HS : Hid (secE e = e.n) := Lib.hid (by unfold secE; rw [hk1]; rfl)
    obtain ⟨ky, hky⟩ : ∃ ky, e.kind = ky := ⟨_, rfl⟩
    have HB2 := Lib.hid (fun W (h : Ext (w.alloc (.cells #[.int .i64 e.kind, .int .i64 e.at_, .int .i64 e.id, .int .i64 e.other, .int .i64 e.n] 23)) W) => (HBK.out.ext h).get)
    rw [hk1] at HB2 HE1 ⊢
    clear HBK hky hk1
    obtain ⟨c0, c1, c2, c3, c4⟩ := HB2.out _ (Ext.refl _)
    go_enter Tryz.func8, Tryz.ntmps8
    go_wp2_with fail
    refine (HT.out _).mono ?_
    rintro r w1 ⟨rfl, hE⟩
    clear c0 c1 c2 c3 c4
    obtain ⟨c0, c1, c2, c3, c4⟩ := HB2.out _ hE
    have HEw := Lib.hid hE
    clear hE
    go_wp2_with fail
    clear c0 c1 c2 c3 c4
    obtain ⟨tl, htl⟩ : ∃ s : ByteArray, (⟨#[32, 97, 116, 32]⟩ : ByteArray) ++ sT = s := ⟨_, rfl⟩
    have ztl : tl.size ≤ 25 := by rw [← htl, ByteArray.size_append]; omega
    rw [htl]
    have HTL := Lib.hid htl
    clear htl
    have HQ := Lib.hid (fun W (h : Ext w1.drew W) => HB2.out W (Ext.trans HEw.out (Ext.trans (Ext.drew w1) h)))
    apply wp_region_seq (l := [_, _, _, _, _, _, _, _, _, _, _]) (t := [_]) [some 12, some 13, some 14, some 15, some 16, some 17, some 18, some 19, some 20, some 21, some 22, some 2] [[], [0], [1], [2], [3], [], [5], [6], [4, 7], [], [8, 9], [10]] [11, 11, 11, 11, 11, 11, 11, 11, 11, 11, 11] [eqv _, eqv _, (eqv (.string sI)), eqv _, eqv _, eqv _, eqv _, (eqv (.string sN)), eqv _, eqv _, eqv _] (by kernel_rfl) (by kernel_rfl) ⟨?o0, ?o1, ?o2, ?o3, ?o4, ?o5, ?o6, ?o7, ?o8, ?o9, ?o10, trivial⟩ ?last
    case o0 => -- Op.fieldAddr 23 (Operand.tmp 1) 2
      intro xv W hE _
      simp only [putD, List.foldl_nil, List.getD_cons_zero]
      refine OpGoal.plain ?_
      go_wp2_with fail
      exact ⟨rfl, Ext.refl _, rfl⟩
    case o1 => -- Op.load 3 (Operand.tmp 12)
      intro xv W hE hp
      have r0 : xv 0 = _ := hp.1
      clear hp
      obtain ⟨c0, c1, c2, c3, c4⟩ := HQ.out W hE
      simp only [putD, List.foldl_nil, List.foldl_cons, List.getD_cons_zero, List.getD_cons_succ, Act.put, List.setIfInBounds_toArray, List.set_cons_zero, List.set_cons_succ]
      refine OpGoal.plain ?_
      go_wp2_with fail
      exact ⟨rfl, Ext.refl _, rfl⟩
    case o2 => -- Op.call { callee := Callee.value (Operand.func 20), args := #[Operand.tmp 13], a
      intro xv W hE hp
      have r1 : xv 1 = _ := hp.1
      clear hp
      simp only [putD, List.foldl_nil, List.foldl_cons, List.getD_cons_zero, List.getD_cons_succ, Act.put, List.setIfInBounds_toArray, List.set_cons_zero, List.set_cons_succ]
      refine OpGoal.plain ?_
      go_wp2_with fail
      refine (HI.out _).mono ?_
      rintro r W' ⟨rfl, hE'⟩
      go_wp2_with fail
      exact ⟨rfl, hE', rfl⟩
    case o3 => -- Op.binOp BinOp.add 9 (Operand.const (Value.string { data := #[100, 114, 111, 112
      intro xv W hE hp
      have r2 : xv 2 = _ := hp.1
      clear hp
      simp only [putD, List.foldl_nil, List.foldl_cons, List.getD_cons_zero, List.getD_cons_succ, Act.put, List.setIfInBounds_toArray, List.set_cons_zero, List.set_cons_succ]
      refine OpGoal.plain ?_
      go_wp2_with fail
      exact ⟨rfl, Ext.refl _, rfl⟩
    case o4 => -- Op.binOp BinOp.add 9 (Operand.tmp 15) (Operand.const (Value.string { data := #[3
      intro xv W hE hp
      have r3 : xv 3 = _ := hp.1
      clear hp
      simp only [putD, List.foldl_nil, List.foldl_cons, List.getD_cons_zero, List.getD_cons_succ, Act.put, List.setIfInBounds_toArray, List.set_cons_zero, List.set_cons_succ]
      refine OpGoal.plain ?_
      go_wp2_with fail
      exact ⟨rfl, Ext.refl _, rfl⟩
    case o5 => -- Op.fieldAddr 23 (Operand.tmp 1) 4
      intro xv W hE _
      simp only [putD, List.foldl_nil, List.getD_cons_zero, List.getD_cons_succ]
      refine OpGoal.plain ?_
      go_wp2_with fail
      exact ⟨rfl, Ext.refl _, rfl⟩
    case o6 => -- Op.load 3 (Operand.tmp 17)
      intro xv W hE hp
      have r5 : xv 5 = _ := hp.1
      clear hp
      obtain ⟨c0, c1, c2, c3, c4⟩ := HQ.out W hE
      simp only [putD, List.foldl_nil, List.foldl_cons, List.getD_cons_zero, List.getD_cons_succ, Act.put, List.setIfInBounds_toArray, List.set_cons_zero, List.set_cons_succ]
      refine OpGoal.plain ?_
      go_wp2_with fail
      exact ⟨rfl, Ext.refl _, rfl⟩
    case o7 => -- Op.call { callee := Callee.value (Operand.func 20), args := #[Operand.tmp 18], a
      intro xv W hE hp
      have r6 : xv 6 = _ := hp.1
      clear hp
      simp only [putD, List.foldl_nil, List.foldl_cons, List.getD_cons_zero, List.getD_cons_succ, Act.put, List.setIfInBounds_toArray, List.set_cons_zero, List.set_cons_succ]
      refine OpGoal.plain ?_
      go_wp2_with fail
      refine (HN.out _).mono ?_
      rintro r W' ⟨rfl, hE'⟩
      go_wp2_with fail
      exact ⟨rfl, hE', rfl⟩
    case o8 => -- Op.binOp BinOp.add 9 (Operand.tmp 16) (Operand.tmp 19) 9
      intro xv W hE hp
      have r4 : xv 4 = _ := hp.1
      have r7 : xv 7 = _ := hp.2.1
      clear hp
      simp only [putD, List.foldl_nil, List.foldl_cons, List.getD_cons_zero, List.getD_cons_succ, Act.put, List.setIfInBounds_toArray, List.set_cons_zero, List.set_cons_succ]
      refine OpGoal.plain ?_
      go_wp2_with fail
      exact ⟨rfl, Ext.refl _, rfl⟩
    case o9 => -- Op.move (Operand.tmp 3)
      intro xv W hE _
      simp only [putD, List.foldl_nil, List.getD_cons_zero, List.getD_cons_succ]
      refine OpGoal.plain ?_
      go_wp2_with fail
      exact ⟨rfl, Ext.refl _, rfl⟩
    case o10 => -- Op.binOp BinOp.add 9 (Operand.tmp 20) (Operand.tmp 21) 9
      intro xv W hE hp
      have r8 : xv 8 = _ := hp.1
      have r9 : xv 9 = _ := hp.2.1
      clear hp
      simp only [putD, List.foldl_nil, List.foldl_cons, List.getD_cons_zero, List.getD_cons_succ, Act.put, List.setIfInBounds_toArray, List.set_cons_zero, List.set_cons_succ]
      refine OpGoal.plain ?_
      go_wp2_with fail
      exact ⟨rfl, Ext.refl _, rfl⟩
    case last =>
      intro xv W hE hp
      have r0 : xv 0 = _ := hp.1
      have r1 : xv 1 = _ := hp.2.1
      have r2 : xv 2 = _ := hp.2.2.1
      have r3 : xv 3 = _ := hp.2.2.2.1
      have r4 : xv 4 = _ := hp.2.2.2.2.1
      have r5 : xv 5 = _ := hp.2.2.2.2.2.1
      have r6 : xv 6 = _ := hp.2.2.2.2.2.2.1
      have r7 : xv 7 = _ := hp.2.2.2.2.2.2.2.1
      have r8 : xv 8 = _ := hp.2.2.2.2.2.2.2.2.1
      have r9 : xv 9 = _ := hp.2.2.2.2.2.2.2.2.2.1
      have r10 : xv 10 = _ := hp.2.2.2.2.2.2.2.2.2.2.1
      clear hp
      simp only [putD, List.foldl_nil, List.foldl_cons, List.getD_cons_zero, List.getD_cons_succ, Act.put, List.length_cons, List.length_nil, List.range_succ, List.range_zero, List.nil_append, List.cons_append, List.setIfInBounds_toArray, List.set_cons_zero, List.set_cons_succ]
      simp only [r10]
      go_wp2_with fail
      go_ret
      refine ⟨?_, Ext.trans HE1.out (Ext.trans HEw.out (Ext.trans (Ext.drew w1) hE))⟩
      rw [← HX.out, HS.out, ← HTL.out, ← GI.out, ← GN.out, ← GT.out]
      simp only [ba_append, List.append_assoc]
      rfl
  by_cases hk2 : e.kind = 2
  · have cW : (⟨#[102, 117, 115, 101, 32]⟩ : ByteArray).size ≤ 5 := by decide
    have HX := Lib.hid (text_four (e := e) (by omega) [102, 117, 115, 101, 32] (by rw [hk2]; rfl))
    have HS : Hid (secE e = e.other) := Lib.hid (by unfold secE; rw [hk2]; rfl)
    obtain ⟨ky, hky⟩ : ∃ ky, e.kind = ky := ⟨_, rfl⟩
    have HB2 := Lib.hid (fun W (h : Ext (w.alloc (.cells #[.int .i64 e.kind, .int .i64 e.at_, .int .i64 e.id, .int .i64 e.other, .int .i64 e.n] 23)) W) => (HBK.out.ext h).get)
    rw [hk2] at HB2 HE1 ⊢
    clear HBK hky hk2
    obtain ⟨c0, c1, c2, c3, c4⟩ := HB2.out _ (Ext.refl _)
    go_enter Tryz.func8, Tryz.ntmps8
    go_wp2_with fail
    refine (HT.out _).mono ?_
    rintro r w1 ⟨rfl, hE⟩
    clear c0 c1 c2 c3 c4
    obtain ⟨c0, c1, c2, c3, c4⟩ := HB2.out _ hE
    have HEw := Lib.hid hE
    clear hE
    go_wp2_with fail
    clear c0 c1 c2 c3 c4
    obtain ⟨tl, htl⟩ : ∃ s : ByteArray, (⟨#[32, 97, 116, 32]⟩ : ByteArray) ++ sT = s := ⟨_, rfl⟩
    have ztl : tl.size ≤ 25 := by rw [← htl, ByteArray.size_append]; omega
    rw [htl]
    have HTL := Lib.hid htl
    clear htl
    have HQ := Lib.hid (fun W (h : Ext w1.drew W) => HB2.out W (Ext.trans HEw.out (Ext.trans (Ext.drew w1) h)))
    apply wp_region_seq (l := [_, _, _, _, _, _, _, _, _, _, _]) (t := [_]) [some 25, some 26, some 27, some 28, some 29, some 30, some 31, some 32, some 33, some 34, some 35, some 2] [[], [0], [1], [2], [3], [], [5], [6], [4, 7], [], [8, 9], [10]] [11, 11, 11, 11, 11, 11, 11, 11, 11, 11, 11] [eqv _, eqv _, (eqv (.string sI)), eqv _, eqv _, eqv _, eqv _, (eqv (.string sO)), eqv _, eqv _, eqv _] (by kernel_rfl) (by kernel_rfl) ⟨?o0, ?o1, ?o2, ?o3, ?o4, ?o5, ?o6, ?o7, ?o8, ?o9, ?o10, trivial⟩ ?last
    case o0 => -- Op.fieldAddr 23 (Operand.tmp 1) 2
      intro xv W hE _
      simp only [putD, List.foldl_nil, List.getD_cons_zero]
      refine OpGoal.plain ?_
      go_wp2_with fail
      exact ⟨rfl, Ext.refl _, rfl⟩
    case o1 => -- Op.load 3 (Operand.tmp 25)
      intro xv W hE hp
      have r0 : xv 0 = _ := hp.1
      clear hp
      obtain ⟨c0, c1, c2, c3, c4⟩ := HQ.out W hE
      simp only [putD, List.foldl_nil, List.foldl_cons, List.getD_cons_zero, List.getD_cons_succ, Act.put, List.setIfInBounds_toArray, List.set_cons_zero, List.set_cons_succ]
      refine OpGoal.plain ?_
      go_wp2_with fail
      exact ⟨rfl, Ext.refl _, rfl⟩
    case o2 => -- Op.call { callee := Callee.value (Operand.func 20), args := #[Operand.tmp 26], a
      intro xv W hE hp
      have r1 : xv 1 = _ := hp.1
      clear hp
      simp only [putD, List.foldl_nil, List.foldl_cons, List.getD_cons_zero, List.getD_cons_succ, Act.put, List.setIfInBounds_toArray, List.set_cons_zero, List.set_cons_succ]
      refine OpGoal.plain ?_
      go_wp2_with fail
      refine (HI.out _).mono ?_
      rintro r W' ⟨rfl, hE'⟩
      go_wp2_with fail
      exact ⟨rfl, hE', rfl⟩
    case o3 => -- Op.binOp BinOp.add 9 (Operand.const (Value.string { data := #[102, 117, 115, 101
      intro xv W hE hp
      have r2 : xv 2 = _ := hp.1
      clear hp
      simp only [putD, List.foldl_nil, List.foldl_cons, List.getD_cons_zero, List.getD_cons_succ, Act.put, List.setIfInBounds_toArray, List.set_cons_zero, List.set_cons_succ]
      refine OpGoal.plain ?_
      go_wp2_with fail
      exact ⟨rfl, Ext.refl _, rfl⟩
    case o4 => -- Op.binOp BinOp.add 9 (Operand.tmp 28) (Operand.const (Value.string { data := #[3
      intro xv W hE hp
      have r3 : xv 3 = _ := hp.1
      clear hp
      simp only [putD, List.foldl_nil, List.foldl_cons, List.getD_cons_zero, List.getD_cons_succ, Act.put, List.setIfInBounds_toArray, List.set_cons_zero, List.set_cons_succ]
      refine OpGoal.plain ?_
      go_wp2_with fail
      exact ⟨rfl, Ext.refl _, rfl⟩
    case o5 => -- Op.fieldAddr 23 (Operand.tmp 1) 3
      intro xv W hE _
      simp only [putD, List.foldl_nil, List.getD_cons_zero, List.getD_cons_succ]
      refine OpGoal.plain ?_
      go_wp2_with fail
      exact ⟨rfl, Ext.refl _, rfl⟩
    case o6 => -- Op.load 3 (Operand.tmp 30)
      intro xv W hE hp
      have r5 : xv 5 = _ := hp.1
      clear hp
      obtain ⟨c0, c1, c2, c3, c4⟩ := HQ.out W hE
      simp only [putD, List.foldl_nil, List.foldl_cons, List.getD_cons_zero, List.getD_cons_succ, Act.put, List.setIfInBounds_toArray, List.set_cons_zero, List.set_cons_succ]
      refine OpGoal.plain ?_
      go_wp2_with fail
      exact ⟨rfl, Ext.refl _, rfl⟩
    case o7 => -- Op.call { callee := Callee.value (Operand.func 20), args := #[Operand.tmp 31], a
      intro xv W hE hp
      have r6 : xv 6 = _ := hp.1
      clear hp
      simp only [putD, List.foldl_nil, List.foldl_cons, List.getD_cons_zero, List.getD_cons_succ, Act.put, List.setIfInBounds_toArray, List.set_cons_zero, List.set_cons_succ]
      refine OpGoal.plain ?_
      go_wp2_with fail
      refine (HO.out _).mono ?_
      rintro r W' ⟨rfl, hE'⟩
      go_wp2_with fail
      exact ⟨rfl, hE', rfl⟩
    case o8 => -- Op.binOp BinOp.add 9 (Operand.tmp 29) (Operand.tmp 32) 9
      intro xv W hE hp
      have r4 : xv 4 = _ := hp.1
      have r7 : xv 7 = _ := hp.2.1
      clear hp
      simp only [putD, List.foldl_nil, List.foldl_cons, List.getD_cons_zero, List.getD_cons_succ, Act.put, List.setIfInBounds_toArray, List.set_cons_zero, List.set_cons_succ]
      refine OpGoal.plain ?_
      go_wp2_with fail
      exact ⟨rfl, Ext.refl _, rfl⟩
    case o9 => -- Op.move (Operand.tmp 3)
      intro xv W hE _
      simp only [putD, List.foldl_nil, List.getD_cons_zero, List.getD_cons_succ]
      refine OpGoal.plain ?_
      go_wp2_with fail
      exact ⟨rfl, Ext.refl _, rfl⟩
    case o10 => -- Op.binOp BinOp.add 9 (Operand.tmp 33) (Operand.tmp 34) 9
      intro xv W hE hp
      have r8 : xv 8 = _ := hp.1
      have r9 : xv 9 = _ := hp.2.1
      clear hp
      simp only [putD, List.foldl_nil, List.foldl_cons, List.getD_cons_zero, List.getD_cons_succ, Act.put, List.setIfInBounds_toArray, List.set_cons_zero, List.set_cons_succ]
      refine OpGoal.plain ?_
      go_wp2_with fail
      exact ⟨rfl, Ext.refl _, rfl⟩
    case last =>
      intro xv W hE hp
      have r0 : xv 0 = _ := hp.1
      have r1 : xv 1 = _ := hp.2.1
      have r2 : xv 2 = _ := hp.2.2.1
      have r3 : xv 3 = _ := hp.2.2.2.1
      have r4 : xv 4 = _ := hp.2.2.2.2.1
      have r5 : xv 5 = _ := hp.2.2.2.2.2.1
      have r6 : xv 6 = _ := hp.2.2.2.2.2.2.1
      have r7 : xv 7 = _ := hp.2.2.2.2.2.2.2.1
      have r8 : xv 8 = _ := hp.2.2.2.2.2.2.2.2.1
      have r9 : xv 9 = _ := hp.2.2.2.2.2.2.2.2.2.1
      have r10 : xv 10 = _ := hp.2.2.2.2.2.2.2.2.2.2.1
      clear hp
      simp only [putD, List.foldl_nil, List.foldl_cons, List.getD_cons_zero, List.getD_cons_succ, Act.put, List.length_cons, List.length_nil, List.range_succ, List.range_zero, List.nil_append, List.cons_append, List.setIfInBounds_toArray, List.set_cons_zero, List.set_cons_succ]
      simp only [r10]
      go_wp2_with fail
      go_ret
      refine ⟨?_, Ext.trans HE1.out (Ext.trans HEw.out (Ext.trans (Ext.drew w1) hE))⟩
      rw [← HX.out, HS.out, ← HTL.out, ← GI.out, ← GO.out, ← GT.out]
      simp only [ba_append, List.append_assoc]
      rfl
  by_cases hk4 : e.kind = 4
  · have cW : (⟨#[103, 97, 116, 104, 101, 114, 32]⟩ : ByteArray).size ≤ 7 := by decide
    have HX := Lib.hid (text_four (e := e) (by omega) [103, 97, 116, 104, 101, 114, 32] (by rw [hk4]; rfl))
    have HS : Hid (secE e = e.other) := Lib.hid (by unfold secE; rw [hk4]; rfl)
    obtain ⟨ky, hky⟩ : ∃ ky, e.kind = ky := ⟨_, rfl⟩
    have HB2 := Lib.hid (fun W (h : Ext (w.alloc (.cells #[.int .i64 e.kind, .int .i64 e.at_, .int .i64 e.id, .int .i64 e.other, .int .i64 e.n] 23)) W) => (HBK.out.ext h).get)
    rw [hk4] at HB2 HE1 ⊢
    clear HBK hky hk4
    obtain ⟨c0, c1, c2, c3, c4⟩ := HB2.out _ (Ext.refl _)
    go_enter Tryz.func8, Tryz.ntmps8
    go_wp2_with fail
    refine (HT.out _).mono ?_
    rintro r w1 ⟨rfl, hE⟩
    clear c0 c1 c2 c3 c4
    obtain ⟨c0, c1, c2, c3, c4⟩ := HB2.out _ hE
    have HEw := Lib.hid hE
    clear hE
    go_wp2_with fail
    clear c0 c1 c2 c3 c4
    obtain ⟨tl, htl⟩ : ∃ s : ByteArray, (⟨#[32, 97, 116, 32]⟩ : ByteArray) ++ sT = s := ⟨_, rfl⟩
    have ztl : tl.size ≤ 25 := by rw [← htl, ByteArray.size_append]; omega
    rw [htl]
    have HTL := Lib.hid htl
    clear htl
    have HQ := Lib.hid (fun W (h : Ext w1.drew W) => HB2.out W (Ext.trans HEw.out (Ext.trans (Ext.drew w1) h)))
    apply wp_region_seq (l := [_, _, _, _, _, _, _, _, _, _, _]) (t := [_]) [some 46, some 47, some 48, some 49, some 50, some 51, some 52, some 53, some 54, some 55, some 56, some 2] [[], [0], [1], [2], [3], [], [5], [6], [4, 7], [], [8, 9], [10]] [11, 11, 11, 11, 11, 11, 11, 11, 11, 11, 11] [eqv _, eqv _, (eqv (.string sI)), eqv _, eqv _, eqv _, eqv _, (eqv (.string sO)), eqv _, eqv _, eqv _] (by kernel_rfl) (by kernel_rfl) ⟨?o0, ?o1, ?o2, ?o3, ?o4, ?o5, ?o6, ?o7, ?o8, ?o9, ?o10, trivial⟩ ?last
    case o0 => -- Op.fieldAddr 23 (Operand.tmp 1) 2
      intro xv W hE _
      simp only [putD, List.foldl_nil, List.getD_cons_zero]
      refine OpGoal.plain ?_
      go_wp2_with fail
      exact ⟨rfl, Ext.refl _, rfl⟩
    case o1 => -- Op.load 3 (Operand.tmp 46)
      intro xv W hE hp
      have r0 : xv 0 = _ := hp.1
      clear hp
      obtain ⟨c0, c1, c2, c3, c4⟩ := HQ.out W hE
      simp only [putD, List.foldl_nil, List.foldl_cons, List.getD_cons_zero, List.getD_cons_succ, Act.put, List.setIfInBounds_toArray, List.set_cons_zero, List.set_cons_succ]
      refine OpGoal.plain ?_
      go_wp2_with fail
      exact ⟨rfl, Ext.refl _, rfl⟩
    case o2 => -- Op.call { callee := Callee.value (Operand.func 20), args := #[Operand.tmp 47], a
      intro xv W hE hp
      have r1 : xv 1 = _ := hp.1
      clear hp
      simp only [putD, List.foldl_nil, List.foldl_cons, List.getD_cons_zero, List.getD_cons_succ, Act.put, List.setIfInBounds_toArray, List.set_cons_zero, List.set_cons_succ]
      refine OpGoal.plain ?_
      go_wp2_with fail
      refine (HI.out _).mono ?_
      rintro r W' ⟨rfl, hE'⟩
      go_wp2_with fail
      exact ⟨rfl, hE', rfl⟩
    case o3 => -- Op.binOp BinOp.add 9 (Operand.const (Value.string { data := #[103, 97, 116, 104,
      intro xv W hE hp
      have r2 : xv 2 = _ := hp.1
      clear hp
      simp only [putD, List.foldl_nil, List.foldl_cons, List.getD_cons_zero, List.getD_cons_succ, Act.put, List.setIfInBounds_toArray, List.set_cons_zero, List.set_cons_succ]
      refine OpGoal.plain ?_
      go_wp2_with fail
      exact ⟨rfl, Ext.refl _, rfl⟩
    case o4 => -- Op.binOp BinOp.add 9 (Operand.tmp 49) (Operand.const (Value.string { data := #[3
      intro xv W hE hp
      have r3 : xv 3 = _ := hp.1
      clear hp
      simp only [putD, List.foldl_nil, List.foldl_cons, List.getD_cons_zero, List.getD_cons_succ, Act.put, List.setIfInBounds_toArray, List.set_cons_zero, List.set_cons_succ]
      refine OpGoal.plain ?_
      go_wp2_with fail
      exact ⟨rfl, Ext.refl _, rfl⟩
    case o5 => -- Op.fieldAddr 23 (Operand.tmp 1) 3
      intro xv W hE _
      simp only [putD, List.foldl_nil, List.getD_cons_zero, List.getD_cons_succ]
      refine OpGoal.plain ?_
      go_wp2_with fail
      exact ⟨rfl, Ext.refl _, rfl⟩
    case o6 => -- Op.load 3 (Operand.tmp 51)
      intro xv W hE hp
      have r5 : xv 5 = _ := hp.1
      clear hp
      obtain ⟨c0, c1, c2, c3, c4⟩ := HQ.out W hE
      simp only [putD, List.foldl_nil, List.foldl_cons, List.getD_cons_zero, List.getD_cons_succ, Act.put, List.setIfInBounds_toArray, List.set_cons_zero, List.set_cons_succ]
      refine OpGoal.plain ?_
      go_wp2_with fail
      exact ⟨rfl, Ext.refl _, rfl⟩
    case o7 => -- Op.call { callee := Callee.value (Operand.func 20), args := #[Operand.tmp 52], a
      intro xv W hE hp
      have r6 : xv 6 = _ := hp.1
      clear hp
      simp only [putD, List.foldl_nil, List.foldl_cons, List.getD_cons_zero, List.getD_cons_succ, Act.put, List.setIfInBounds_toArray, List.set_cons_zero, List.set_cons_succ]
      refine OpGoal.plain ?_
      go_wp2_with fail
      refine (HO.out _).mono ?_
      rintro r W' ⟨rfl, hE'⟩
      go_wp2_with fail
      exact ⟨rfl, hE', rfl⟩
    case o8 => -- Op.binOp BinOp.add 9 (Operand.tmp 50) (Operand.tmp 53) 9
      intro xv W hE hp
      have r4 : xv 4 = _ := hp.1
      have r7 : xv 7 = _ := hp.2.1
      clear hp
      simp only [putD, List.foldl_nil, List.foldl_cons, List.getD_cons_zero, List.getD_cons_succ, Act.put, List.setIfInBounds_toArray, List.set_cons_zero, List.set_cons_succ]
      refine OpGoal.plain ?_
      go_wp2_with fail
      exact ⟨rfl, Ext.refl _, rfl⟩
    case o9 => -- Op.move (Operand.tmp 3)
      intro xv W hE _
      simp only [putD, List.foldl_nil, List.getD_cons_zero, List.getD_cons_succ]
      refine OpGoal.plain ?_
      go_wp2_with fail
      exact ⟨rfl, Ext.refl _, rfl⟩
    case o10 => -- Op.binOp BinOp.add 9 (Operand.tmp 54) (Operand.tmp 55) 9
      intro xv W hE hp
      have r8 : xv 8 = _ := hp.1
      have r9 : xv 9 = _ := hp.2.1
      clear hp
      simp only [putD, List.foldl_nil, List.foldl_cons, List.getD_cons_zero, List.getD_cons_succ, Act.put, List.setIfInBounds_toArray, List.set_cons_zero, List.set_cons_succ]
      refine OpGoal.plain ?_
      go_wp2_with fail
      exact ⟨rfl, Ext.refl _, rfl⟩
    case last =>
      intro xv W hE hp
      have r0 : xv 0 = _ := hp.1
      have r1 : xv 1 = _ := hp.2.1
      have r2 : xv 2 = _ := hp.2.2.1
      have r3 : xv 3 = _ := hp.2.2.2.1
      have r4 : xv 4 = _ := hp.2.2.2.2.1
      have r5 : xv 5 = _ := hp.2.2.2.2.2.1
      have r6 : xv 6 = _ := hp.2.2.2.2.2.2.1
      have r7 : xv 7 = _ := hp.2.2.2.2.2.2.2.1
      have r8 : xv 8 = _ := hp.2.2.2.2.2.2.2.2.1
      have r9 : xv 9 = _ := hp.2.2.2.2.2.2.2.2.2.1
      have r10 : xv 10 = _ := hp.2.2.2.2.2.2.2.2.2.2.1
      clear hp
      simp only [putD, List.foldl_nil, List.foldl_cons, List.getD_cons_zero, List.getD_cons_succ, Act.put, List.length_cons, List.length_nil, List.range_succ, List.range_zero, List.nil_append, List.cons_append, List.setIfInBounds_toArray, List.set_cons_zero, List.set_cons_succ]
      simp only [r10]
      go_wp2_with fail
      go_ret
      refine ⟨?_, Ext.trans HE1.out (Ext.trans HEw.out (Ext.trans (Ext.drew w1) hE))⟩
      rw [← HX.out, HS.out, ← HTL.out, ← GI.out, ← GO.out, ← GT.out]
      simp only [ba_append, List.append_assoc]
      rfl
  by_cases hk3 : e.kind = 3
  · have cW : (⟨#[116, 104, 105, 110, 32]⟩ : ByteArray).size ≤ 5 := by decide
    have HX := Lib.hid (text_three (e := e) hk3)
    have HB2 := Lib.hid (fun W (h : Ext (w.alloc (.cells #[.int .i64 e.kind, .int .i64 e.at_, .int .i64 e.id, .int .i64 e.other, .int .i64 e.n] 23)) W) => (HBK.out.ext h).get)
    rw [hk3] at HB2 HE1 ⊢
    clear HBK hk3
    obtain ⟨c0, c1, c2, c3, c4⟩ := HB2.out _ (Ext.refl _)
    go_enter Tryz.func8, Tryz.ntmps8
    go_wp2_with fail
    refine (HT.out _).mono ?_
    rintro r w1 ⟨rfl, hE⟩
    clear c0 c1 c2 c3 c4
    obtain ⟨c0, c1, c2, c3, c4⟩ := HB2.out _ hE
    go_wp2_with fail
    obtain ⟨tl, htl⟩ : ∃ s : ByteArray, (⟨#[32, 97, 116, 32]⟩ : ByteArray) ++ sT = s := ⟨_, rfl⟩
    have ztl : tl.size ≤ 25 := by rw [← htl, ByteArray.size_append]; omega
    rw [htl]
    have HTL := Lib.hid htl
    clear htl
    refine (HI.out _).mono ?_
    rintro r W' ⟨rfl, hE'⟩
    go_wp2_with fail
    go_ret
    refine ⟨?_, Ext.trans HE1.out (Ext.trans hE hE')⟩
    rw [← HX.out, ← HTL.out, ← GI.out, ← GT.out]
    simp only [ba_append, List.append_assoc]
    rfl
  · have HX := Lib.hid (text_none (e := e) (by omega))
    obtain ⟨c0, c1, c2, c3, c4⟩ := HBK.out.get
    have HB2 := Lib.hid (fun W (h : Ext (w.alloc (.cells #[.int .i64 e.kind, .int .i64 e.at_, .int .i64 e.id, .int .i64 e.other, .int .i64 e.n] 23)) W) => (HBK.out.ext h).get)
    clear HBK
    have t1 : (e.kind == 1) = false := by simpa using hk1
    have t2 : (e.kind == 2) = false := by simpa using hk2
    have t3 : (e.kind == 3) = false := by simpa using hk3
    have t4 : (e.kind == 4) = false := by simpa using hk4
    go_enter Tryz.func8, Tryz.ntmps8
    go_wp2_with fail
    refine (HT.out _).mono ?_
    rintro r w1 ⟨rfl, hE⟩
    clear c0 c1 c2 c3 c4
    obtain ⟨c0, c1, c2, c3, c4⟩ := HB2.out _ hE
    go_wp2_with fail
    go_ret
    exact ⟨by rw [HX.out]; rfl, Ext.trans HE1.out hE⟩
end Go.Proofs.YtompfgofaplffaaGreatDoor

namespace Go.Proofs.YtompfgofaplffaaGreatDoor
open Go.RowKit Hach Num

theorem snoc_take (s : ByteArray) {j : Nat} (h : j < s.size) : s.data.toList.take (j + 1) = s.data.toList.take j ++ [s[j]'h] := by
  rw [List.take_succ_eq_append_getElem (by simpa using h)]; simp; rfl
theorem take_all (s : ByteArray) {j : Nat} (h : ¬ j < s.size) : s.data.toList.take j = s.data.toList := List.take_of_length_le (by simp; exact Nat.le_of_not_lt h)
set_option maxRecDepth 100000 in
set_option maxHeartbeats 2000000 in
theorem number_any (s : ByteArray) (w : World) (h : s.size < 4294967296) :
    Calls Tryz.prog 28 #[.string s] w fun e w' => e = .returned (.int .i64 (numR s.data.toList)) ∧ w' = w := by
  go_enter Tryz.func28, Tryz.ntmps28
  go_wp2_with fail
  go_loop [3, 4, 5] (fun x y i => ∃ j : Nat, j ≤ s.size ∧ i = .int .i64 j ∧ x = .int .i64 (numN (s.data.toList.take j)) ∧ y = .int .i64 (numSg (s.data.toList.take j))) (fun _ _ i => s.size - (intOf i).toNat)
  case atStart => exact ⟨0, Nat.zero_le _, rfl, rfl, rfl⟩
  case round =>
    obtain ⟨j, hj, rfl, rfl, rfl⟩ := hrel
    by_cases hlt2 : j < s.size
    · have HX := Lib.hid (snoc_take s hlt2)
      have h1 := numN_in (s.data.toList.take j)
      have hN := numN_snoc (s.data.toList.take j) (s[j]'hlt2)
      have hG := numSg_snoc (s.data.toList.take j) (s[j]'hlt2)
      rw [← HX.out] at hN hG
      have HN := Lib.hid hN
      have HG := Lib.hid hG
      have hb8 : (s[j]'hlt2).toNat < 256 := UInt8.toNat_lt _
      obtain ⟨h1a, h1b⟩ := h1
      clear hN hG
      generalize numN (s.data.toList.take j) = n0 at *
      generalize numSg (s.data.toList.take j) = g0 at *
      by_cases hc : (s[j]'hlt2).toNat = 45
      · go_wp2_with fail
        go_round
        case rel => exact ⟨j + 1, by omega, by go_num, by rw [HN.out]; unfold nstep; rw [if_pos hc], by rw [HG.out, if_pos hc]⟩
        case measure => simp [intOf]; omega
      · have e1 : nstep n0 (s[j]'hlt2) = IntKind.i64.wrap (IntKind.i64.wrap (10 * n0) - (((s[j]'hlt2).toNat : Int) - 48)) := by unfold nstep; rw [if_neg hc]
        have HE1 := Lib.hid e1
        clear e1
        go_wp2_with fail
        go_round
        case rel => exact ⟨j + 1, by omega, by go_num, by rw [HN.out, HE1.out]; simp only [wrap64, IntKind.wrap_i64], by rw [HG.out, if_neg hc]⟩
        case measure => simp [intOf]; omega
    · have HT := Lib.hid (take_all s hlt2)
      have hw : IntKind.i64.wrap (numSg (s.data.toList.take j) * numN (s.data.toList.take j)) = numR s.data.toList := by rw [HT.out]; rfl
      go_wp2_with fail
      go_ret
      exact ⟨rfl, rfl⟩
/- rows of strings -/
theorem infoS : (Tryz.prog.info? 9).map (fun i => (i.zero, i.size, i.bytes)) = some (some (.string ⟨#[]⟩), 1, 16) := by kernel_rfl
def OwnS (w : World) (base : Nat) (v : Value) (l : List (List UInt8)) : Prop := w.ownsRow base 9 1 v l.length (l.map strV)
theorem OwnS.nil (w : World) (base : Nat) : OwnS w base (.slice none 0 0) [] := World.ownsRow_nil w base _ 1
theorem OwnS.ext {w w' : World} {base : Nat} {v : Value} {l : List (List UInt8)} (h : OwnS w base v l) (hE : Ext w w') : OwnS w' base v l := World.ownsRow.kept h (grownE hE none) (by cases v.ownBlock <;> simp)
theorem OwnS.lt {w : World} {base : Nat} {v : Value} {l : List (List UInt8)} (h : OwnS w base v l) : ∀ g, v.ownBlock = some g → base ≤ g ∧ g < w.heap.size := World.ownsRow.lt h
/-- Strings in a block. -/
def StrRow (W : World) (g : Nat) (l : List (List UInt8)) : Prop := ∀ j, j < l.length → W.cell? ⟨g, j, none⟩ = some (strV (l.getD j []))
theorem StrRow.keep {W W' : World} {g : Nat} {l : List (List UInt8)} (h : StrRow W g l) (hE : Ext W W') : StrRow W' g l := fun j hj => cell_ext hE (h j hj)
theorem OwnS.form {w : World} {base : Nat} {v : Value} {l : List (List UInt8)} (h : OwnS w base v l) : (l = [] ∧ v = .slice none 0 0) ∨ ∃ g c, v = .slice (some ⟨g, 0, none⟩) l.length c ∧ base ≤ g ∧ g < w.heap.size ∧ l.length ≤ c ∧ c ≤ maxLen ∧ StrRow w g l ∧ ∀ j, j < l.length → w.frozen? ⟨g, j, none⟩ = false := by
  rcases h.2 with ⟨e, hn⟩ | ⟨g, cap, cur, rfl, hb, hg, hn, hm, hs, ht⟩
  · exact .inl ⟨List.length_eq_zero_iff.1 hn, e⟩
  · refine .inr ⟨g, cap, rfl, hb, (Array.getElem?_eq_some_iff.1 hg).1, hn, hm, fun j hj => ?_, fun j hj => by simp [World.frozen?, hg]⟩
    have h1 := World.ownsRow.cells h (g := g) rfl j (strV l[j]) (by rw [List.getElem?_map, List.getElem?_eq_getElem hj]; rfl)
    rw [List.getD_eq_getElem?_getD, List.getElem?_eq_getElem hj]
    simpa [Addr.add_lit] using h1
theorem OwnS.last {w : World} {base g n c : Nat} {l : List (List UInt8)} {p : List UInt8} (h : OwnS w base (.slice (some ⟨g, 0, none⟩) n c) (l ++ [p])) (q : List UInt8) :
    OwnS (w.setCell ⟨g, l.length, none⟩ (strV q)) base (.slice (some ⟨g, 0, none⟩) n c) (l ++ [q]) ∧ w.grownBy (w.setCell ⟨g, l.length, none⟩ (strV q)) (some g) := by
  refine ⟨⟨by simp, ?_⟩, grownE_set w g _ _⟩
  rcases h.2 with ⟨e, hn⟩ | ⟨g', cap, cur, e, hb, hg, hn, hm, hs, ht⟩
  · cases e
  · simp only [Value.slice.injEq, Option.some.injEq, Addr.mk.injEq] at e
    obtain ⟨⟨rfl, _⟩, hnn, rfl⟩ := e
    have hlen : (l ++ [p]).length = l.length + 1 := by simp
    rw [hlen] at hn
    have hcur : cur.toList = l.map strV ++ ([strV p] ++ cur.toList.drop (l.length + 1)) := by
      have h1 := List.take_append_drop (l.length + 1) cur.toList
      rw [hlen, Nat.mul_one] at ht
      rw [ht] at h1
      refine h1.symm.trans ?_
      rw [List.map_append, List.append_assoc]
      rfl
    have hg2 : w.heap[g]? = some (.cells (l.map strV ++ ([strV p] ++ cur.toList.drop (l.length + 1))).toArray 9 (0, 0)) := by rw [← hcur, hg]
    have hp := (put_midE [strV q] [strV p] (l.map strV) (cur.toList.drop (l.length + 1)) w hg2 rfl).1
    rw [List.length_map] at hp
    refine .inr ⟨g, c, _, by rw [hnn]; simp, hb, hp, by simpa using hn, hm, ?_, ?_⟩
    · have := congrArg List.length hcur
      simp only [Array.length_toList, List.length_append, List.length_map, List.length_singleton, List.length_drop] at this
      simp only [List.size_toArray, List.length_append, List.length_map, List.length_singleton, List.length_drop, Array.length_toList]
      omega
    · simp only [List.toList_toArray, List.length_append, List.length_singleton, Nat.mul_one]
      rw [← List.append_assoc, List.take_append_of_le_length (by simp), List.take_of_length_le (by simp)]
      simp
theorem app_S {ops : Array Oper} {rest : List Oper} {o : Oper} {a : Act} {w : World} {Q : Exit → Act → World → Prop} (hgd : o.guard = none) (s x : Tmp)
    (ho : o.op = .call { callee := .builtin .append, args := #[.tmp s, .tmp x], argTypes := #[31, 31] }) (base : Nat) (v : Value) (l : List (List UInt8)) (hs : a.eval (.tmp s) = v) (hown : OwnS w base v l)
    (g m c : Nat) (ts : List (List UInt8)) (hm : m = ts.length) (hx : a.eval (.tmp x) = .slice (some ⟨g, 0, none⟩) m c) (hc : StrRow w g ts) (hl : l.length + ts.length < 4294967296) (hbase : base ≤ w.heap.size)
    (h : ∀ v' w', OwnS w' base v' (l ++ ts) → w.grownBy w' v.ownBlock → wpList Tryz.prog ops Q rest (a.put o.dst v') w') : wpList Tryz.prog ops Q (o :: rest) a w := by
  obtain ⟨i0, hi, hz0, hz1, hz2⟩ := info_parts infoS
  refine wpList_append_own_at w hgd _ _ _ ho base 9 i0 _ 1 16 Tryz.underlying31 hi hz0 hz1 hz2 rfl (by decide) v l.length (l.map strV) hs hown ⟨g, 0, none⟩ m c (ts.map strV) hx (by rw [List.length_map, hm, Nat.mul_one]) ?_ ?_ ?_ ?_ hbase ?_
  · intro j u hu
    have hj : j < ts.length := by have := (List.getElem?_eq_some_iff.1 hu).1; simpa using this
    have e : (⟨g, 0, none⟩ : Addr).add j = ⟨g, j, none⟩ := by cases j <;> simp [Addr.add]
    rw [e, hc j hj, ← hu, List.getElem?_map, List.getElem?_eq_getElem hj, List.getD_eq_getElem?_getD, List.getElem?_eq_getElem hj]
    rfl
  · intro u hu
    obtain ⟨t, _, rfl⟩ := List.mem_map.1 hu
    rfl
  · simp only [maxLen]; omega
  · omega
  · intro v' w' h2 h3 _ _
    refine h v' w' ?_ h3
    unfold OwnS
    rw [List.map_append, List.length_append, ← hm]
    exact h2
theorem one_of (s : ByteArray) {j : Nat} (h : j < s.size) : s.extract j (j + 1) = ⟨[s[j]'h].toArray⟩ := by
  apply ByteArray.ext
  rw [ByteArray.data_extract]
  apply Array.ext
  · simp; have : s.data.size = s.size := rfl; omega
  · intro i h1 h2
    have hi : i = 0 := by simpa using h2
    subst hi
    simp
    rfl
set_option maxRecDepth 100000 in
set_option maxHeartbeats 4000000 in
theorem words_any (s : ByteArray) (w : World) (h : s.size < 4294967290) :
    Calls Tryz.prog 27 #[.string s] w fun e w' => (∃ v, e = .returned v ∧ OwnS w' w.heap.size v (wds s.data.toList)) ∧ Ext w w' := by
  have H0 : Hid (OwnS (w.alloc (.cells #[.string ⟨#[]⟩] 9)) w.heap.size (.slice (some ⟨w.heap.size, 0, none⟩) 1 1) [[]]) := Lib.hid ⟨rfl, .inr ⟨w.heap.size, 1, _, rfl, Nat.le_refl _, Go.heap_alloc_new _ _, Nat.le_refl _, by decide, rfl, rfl⟩⟩
  go_enter Tryz.func27, Tryz.ntmps27
  go_wp2_with fail
  have HE0 := Lib.hid (Ext.alloc w (.cells #[.string ⟨#[]⟩] 9))
  go_loopw [3, 4] (fun s3 s4 wr => ∃ j : Nat, j ≤ s.size ∧ s4 = .int .i64 j ∧ Hid (OwnS wr w.heap.size s3 (wds (s.data.toList.take j))) ∧ Hid (Ext w wr)) (fun _ s4 _ => s.size - (intOf s4).toNat)
  case atStart => exact ⟨0, Nat.zero_le _, rfl, H0, HE0⟩
  case round =>
    obtain ⟨j, hj, rfl, hO, hE⟩ := hrel
    by_cases hlt2 : j < s.size
    · have HX := Lib.hid (snoc_take s hlt2)
      have hlen := Nat.le_trans (wds_len (s.data.toList.take j)) (Nat.succ_le_succ (List.length_take_le _ _))
      have hSZ := hE.out.sz
      by_cases hc : (s[j]'hlt2).toNat = 32
      · have hc' : s[j]'hlt2 = 32 := UInt8.toNat_inj.1 hc
        have HW : Hid (wds (s.data.toList.take (j + 1)) = wds (s.data.toList.take j) ++ [[]]) := Lib.hid (by rw [HX.out, hc']; exact wds_blank _)
        have HR1 : Hid (StrRow (wr.alloc (.cells #[.string ⟨#[]⟩] 9)) wr.heap.size [[]]) := Lib.hid (fun i hi => by
          obtain rfl : i = 0 := by simpa using hi
          exact cells_of (Go.heap_alloc_new _ _) 0 _ rfl)
        have HO1 := Lib.hid (hO.out.ext (Ext.alloc wr (.cells #[.string ⟨#[]⟩] 9)))
        have HB1 : Hid (w.heap.size ≤ (wr.alloc (.cells #[.string ⟨#[]⟩] 9)).heap.size) := Lib.hid (by rw [World.size_alloc]; omega)
        have HE1 := Lib.hid (Ext.trans hE.out (Ext.alloc wr (.cells #[.string ⟨#[]⟩] 9)))
        have HL1 : Hid ((wds (s.data.toList.take j)).length + ([[]] : List (List UInt8)).length < 4294967296) := Lib.hid (by simp only [List.length_singleton]; omega)
        have HLT := Lib.hid (HO1.out.lt)
        clear hc' hlen hSZ
        go_wp2_with (refine app_S rfl 16 17 rfl w.heap.size _ _ rfl HO1.out wr.heap.size 1 1 [[]] rfl rfl HR1.out HL1.out HB1.out ?_; intro v2 w2 hO2 hg2)
        go_roundw
        case rel => exact ⟨j + 1, by omega, by go_num, Lib.hid (by rw [HW.out]; exact hO2), Lib.hid (Below.trans HE1.out (below_rowE hg2 HB1.out fun g e => (HLT.out g e).1))⟩
        case measure => simp [intOf]; omega
      · have hc' : ¬ s[j]'hlt2 = 32 := fun e => hc (by rw [e]; rfl)
        obtain ⟨l, p, e1, e2⟩ := wds_byte (s.data.toList.take j) hc'
        have HW : Hid (wds (s.data.toList.take (j + 1)) = l ++ [p ++ [s[j]'hlt2]]) := Lib.hid (by rw [HX.out]; exact e2)
        have hpl := wds_part (s.data.toList.take j) p (by rw [e1]; simp)
        have hpz : (⟨p.toArray⟩ : ByteArray).size ≤ 4294967290 := by
          show p.toArray.size ≤ _
          have := List.length_take_le j s.data.toList
          simp only [List.size_toArray]
          omega
        rw [e1] at hO hlen
        rcases hO.out.form with ⟨h0, _⟩ | ⟨g, c, rfl, hbg, hgs, hnc, hcm, hrow, hfz⟩
        · simp at h0
        · have hl1 : (l ++ [p]).length = l.length + 1 := by simp
          have q0 := hrow l.length (by omega)
          have f0 := hfz l.length (by omega)
          have eg : (l ++ [p]).getD l.length [] = p := by simp
          rw [eg] at q0
          rw [hl1] at hO hlen
          simp only [hl1]
          have HO := Lib.hid (fun W (h : Ext wr W) => OwnS.last (hO.out.ext h) (p ++ [s[j]'hlt2]))
          have HQ := Lib.hid (fun W (h : Ext wr.drew W) => And.intro (cell_ext (Ext.trans (Ext.drew wr) h) q0) (show W.frozen? ⟨g, l.length, none⟩ = false by
            have := Below.block (show Below wr.heap.size wr W from Ext.trans (Ext.drew wr) h) g hgs
            rw [← f0]; simp only [World.frozen?, this]))
          have e3 : IntKind.i64.wrap (((l.length + 1 : Nat) : Int) - 1) = (l.length : Int) := by rw [IntWalk.i64_in _ (by omega)]; omega
          have e4 : IntKind.i64.wrap ((j : Int) + 1) = ((j + 1 : Nat) : Int) := by rw [IntWalk.i64_in _ (by omega)]; omega
          have hone := one_of s hlt2
          obtain ⟨pb, hpb⟩ : ∃ pb : ByteArray, ⟨p.toArray⟩ = pb := ⟨_, rfl⟩
          obtain ⟨cb, hcb⟩ : ∃ cb : ByteArray, s.extract j (j + 1) = cb := ⟨_, rfl⟩
          have hcz : cb.size ≤ 1 := by rw [← hcb, hone]; show ([s[j]'hlt2].toArray).size ≤ 1; simp
          have HNW : Hid (pb ++ cb = ⟨(p ++ [s[j]'hlt2]).toArray⟩) := Lib.hid (by rw [← hpb, ← hcb, hone]; exact ba_append _ _)
          unfold strV at q0 HQ
          rw [hpb] at q0 hpz HQ
          have HSL : Hid (∀ W, (Instr.slice 9 (.string s) (some (.int .i64 (j : Int))) (some (.int .i64 ((j : Int) + 1))) none).run Tryz.prog W = .ok (.string cb) W) := Lib.hid (fun W => by
            rw [run_slice_string W _ s _ _ _ _ Tryz.underlying9 (by omega) (by omega) (by omega), ← hcb, show ((j : Int)).toNat = j by omega, show ((j : Int) + 1).toNat = j + 1 by omega])
          have HSZ := Lib.hid hSZ
          have HBG := Lib.hid hbg
          have HNC := Lib.hid hnc
          have HEr := hE
          clear hE
          clear hrow hfz eg hone hpb hc' e1 e2 hpl hSZ hbg hgs hcm hl1 hO hnc
          have hnc2 : l.length + 1 ≤ c := by have := HNC.out; simp at this; omega
          go_wp2_with fail
          apply wp_region_seq (l := [_, _, _, _, _, _, _, _, _, _, _, _, _, _, _, _, _]) (t := [_]) [some 19, some 20, some 21, some 22, some 23, some 24, some 25, some 26, some 27, some 28, some 29, some 30, some 31, some 32, some 33, some 34, some 35, none] [[], [], [1], [2], [], [], [5], [6], [4, 7], [8], [], [], [], [12], [10, 11, 13], [9, 14], [0, 3], [15, 16]] [17, 17, 17, 17, 17, 17, 17, 17, 17, 17, 17, 17, 17, 17, 17, 17, 17] [eqv _, eqv _, (eqv (.int .i64 ((l.length + 1 : Nat) : Int))), (eqv (.int .i64 (l.length : Int))), eqv _, eqv _, (eqv (.int .i64 ((l.length + 1 : Nat) : Int))), (eqv (.int .i64 (l.length : Int))), (eqv (.pointer (some ⟨g, l.length, none⟩))), (eqv (.string pb)), eqv _, eqv _, eqv _, (eqv (.int .i64 ((j + 1 : Nat) : Int))), (eqv (.string cb)), (eqv (.string (pb ++ cb))), (eqv (.pointer (some ⟨g, l.length, none⟩)))] (by kernel_rfl) (by kernel_rfl) ⟨?o0, ?o1, ?o2, ?o3, ?o4, ?o5, ?o6, ?o7, ?o8, ?o9, ?o10, ?o11, ?o12, ?o13, ?o14, ?o15, ?o16, trivial⟩ ?last
          case o0 => -- Op.move (Operand.tmp 3)
            intro xv W hE _
            simp only [putD, List.foldl_nil, List.getD_cons_zero]
            refine OpGoal.plain ?_
            go_wp2_with fail
            exact ⟨rfl, Ext.refl _, rfl⟩
          case o1 => -- Op.move (Operand.tmp 3)
            intro xv W hE _
            simp only [putD, List.foldl_nil, List.getD_cons_zero, List.getD_cons_succ]
            refine OpGoal.plain ?_
            go_wp2_with fail
            exact ⟨rfl, Ext.refl _, rfl⟩
          case o2 => -- Op.call { callee := Callee.builtin Builtin.len, args := #[Operand.tmp 20], argTy
            intro xv W hE hp
            have r1 : xv 1 = _ := hp.1
            clear hp
            simp only [putD, List.foldl_nil, List.foldl_cons, List.getD_cons_zero, List.getD_cons_succ, Act.put, List.setIfInBounds_toArray, List.set_cons_zero, List.set_cons_succ]
            refine OpGoal.plain ?_
            go_wp2_with fail
            exact ⟨rfl, Ext.refl _, rfl⟩
          case o3 => -- Op.binOp BinOp.sub 3 (Operand.tmp 21) (Operand.const (Value.int IntKind.i64 1)) 
            intro xv W hE hp
            have r2 : xv 2 = _ := hp.1
            clear hp
            simp only [putD, List.foldl_nil, List.foldl_cons, List.getD_cons_zero, List.getD_cons_succ, Act.put, List.setIfInBounds_toArray, List.set_cons_zero, List.set_cons_succ]
            refine OpGoal.plain ?_
            go_wp2_with fail
            exact ⟨rfl, Ext.refl _, by go_num⟩
          case o4 => -- Op.move (Operand.tmp 3)
            intro xv W hE _
            simp only [putD, List.foldl_nil, List.getD_cons_zero, List.getD_cons_succ]
            refine OpGoal.plain ?_
            go_wp2_with fail
            exact ⟨rfl, Ext.refl _, rfl⟩
          case o5 => -- Op.move (Operand.tmp 3)
            intro xv W hE _
            simp only [putD, List.foldl_nil, List.getD_cons_zero, List.getD_cons_succ]
            refine OpGoal.plain ?_
            go_wp2_with fail
            exact ⟨rfl, Ext.refl _, rfl⟩
          case o6 => -- Op.call { callee := Callee.builtin Builtin.len, args := #[Operand.tmp 24], argTy
            intro xv W hE hp
            have r5 : xv 5 = _ := hp.1
            clear hp
            simp only [putD, List.foldl_nil, List.foldl_cons, List.getD_cons_zero, List.getD_cons_succ, Act.put, List.setIfInBounds_toArray, List.set_cons_zero, List.set_cons_succ]
            refine OpGoal.plain ?_
            go_wp2_with fail
            exact ⟨rfl, Ext.refl _, rfl⟩
          case o7 => -- Op.binOp BinOp.sub 3 (Operand.tmp 25) (Operand.const (Value.int IntKind.i64 1)) 
            intro xv W hE hp
            have r6 : xv 6 = _ := hp.1
            clear hp
            simp only [putD, List.foldl_nil, List.foldl_cons, List.getD_cons_zero, List.getD_cons_succ, Act.put, List.setIfInBounds_toArray, List.set_cons_zero, List.set_cons_succ]
            refine OpGoal.plain ?_
            go_wp2_with fail
            exact ⟨rfl, Ext.refl _, by go_num⟩
          case o8 => -- Op.indexAddr 31 (Operand.tmp 23) (Operand.tmp 26)
            intro xv W hE hp
            have r4 : xv 4 = _ := hp.1
            have r7 : xv 7 = _ := hp.2.1
            clear hp
            simp only [putD, List.foldl_nil, List.foldl_cons, List.getD_cons_zero, List.getD_cons_succ, Act.put, List.setIfInBounds_toArray, List.set_cons_zero, List.set_cons_succ]
            refine OpGoal.plain ?_
            go_wp2_with fail
            exact ⟨rfl, Ext.refl _, rfl⟩
          case o9 => -- Op.load 9 (Operand.tmp 27)
            intro xv W hE hp
            have r8 : xv 8 = _ := hp.1
            clear hp
            obtain ⟨c0, _⟩ := HQ.out W hE
            simp only [putD, List.foldl_nil, List.foldl_cons, List.getD_cons_zero, List.getD_cons_succ, Act.put, List.setIfInBounds_toArray, List.set_cons_zero, List.set_cons_succ]
            refine OpGoal.plain ?_
            go_wp2_with fail
            exact ⟨rfl, Ext.refl _, rfl⟩
          case o10 => -- Op.move (Operand.tmp 0)
            intro xv W hE _
            simp only [putD, List.foldl_nil, List.getD_cons_zero, List.getD_cons_succ]
            refine OpGoal.plain ?_
            go_wp2_with fail
            exact ⟨rfl, Ext.refl _, rfl⟩
          case o11 => -- Op.move (Operand.tmp 4)
            intro xv W hE _
            simp only [putD, List.foldl_nil, List.getD_cons_zero, List.getD_cons_succ]
            refine OpGoal.plain ?_
            go_wp2_with fail
            exact ⟨rfl, Ext.refl _, rfl⟩
          case o12 => -- Op.move (Operand.tmp 4)
            intro xv W hE _
            simp only [putD, List.foldl_nil, List.getD_cons_zero, List.getD_cons_succ]
            refine OpGoal.plain ?_
            go_wp2_with fail
            exact ⟨rfl, Ext.refl _, rfl⟩
          case o13 => -- Op.binOp BinOp.add 3 (Operand.tmp 31) (Operand.const (Value.int IntKind.i64 1)) 
            intro xv W hE hp
            have r12 : xv 12 = _ := hp.1
            clear hp
            simp only [putD, List.foldl_nil, List.foldl_cons, List.getD_cons_zero, List.getD_cons_succ, Act.put, List.setIfInBounds_toArray, List.set_cons_zero, List.set_cons_succ]
            refine OpGoal.plain ?_
            go_wp2_with fail
            exact ⟨rfl, Ext.refl _, by go_num⟩
          case o14 => -- Op.slice 9 (Operand.tmp 29) (some (Operand.tmp 30)) (some (Operand.tmp 32)) none
            intro xv W hE hp
            have r10 : xv 10 = _ := hp.1
            have r11 : xv 11 = _ := hp.2.1
            have r13 : xv 13 = _ := hp.2.2.1
            clear hp
            simp only [putD, List.foldl_nil, List.foldl_cons, List.getD_cons_zero, List.getD_cons_succ, Act.put, List.setIfInBounds_toArray, List.set_cons_zero, List.set_cons_succ]
            refine OpGoal.plain ?_
            go_wp2_with fail
            rw [HSL.out]
            go_wp2_with fail
            exact ⟨rfl, Ext.refl _, rfl⟩
          case o15 => -- Op.binOp BinOp.add 9 (Operand.tmp 28) (Operand.tmp 33) 9
            intro xv W hE hp
            have r9 : xv 9 = _ := hp.1
            have r14 : xv 14 = _ := hp.2.1
            clear hp
            simp only [putD, List.foldl_nil, List.foldl_cons, List.getD_cons_zero, List.getD_cons_succ, Act.put, List.setIfInBounds_toArray, List.set_cons_zero, List.set_cons_succ]
            refine OpGoal.plain ?_
            go_wp2_with fail
            exact ⟨rfl, Ext.refl _, rfl⟩
          case o16 => -- Op.indexAddr 31 (Operand.tmp 19) (Operand.tmp 22)
            intro xv W hE hp
            have r0 : xv 0 = _ := hp.1
            have r3 : xv 3 = _ := hp.2.1
            clear hp
            simp only [putD, List.foldl_nil, List.foldl_cons, List.getD_cons_zero, List.getD_cons_succ, Act.put, List.setIfInBounds_toArray, List.set_cons_zero, List.set_cons_succ]
            refine OpGoal.plain ?_
            go_wp2_with fail
            exact ⟨rfl, Ext.refl _, rfl⟩
          case last =>
            intro xv W hE hp
            have r0 : xv 0 = _ := hp.1
            have r1 : xv 1 = _ := hp.2.1
            have r2 : xv 2 = _ := hp.2.2.1
            have r3 : xv 3 = _ := hp.2.2.2.1
            have r4 : xv 4 = _ := hp.2.2.2.2.1
            have r5 : xv 5 = _ := hp.2.2.2.2.2.1
            have r6 : xv 6 = _ := hp.2.2.2.2.2.2.1
            have r7 : xv 7 = _ := hp.2.2.2.2.2.2.2.1
            have r8 : xv 8 = _ := hp.2.2.2.2.2.2.2.2.1
            have r9 : xv 9 = _ := hp.2.2.2.2.2.2.2.2.2.1
            have r10 : xv 10 = _ := hp.2.2.2.2.2.2.2.2.2.2.1
            have r11 : xv 11 = _ := hp.2.2.2.2.2.2.2.2.2.2.2.1
            have r12 : xv 12 = _ := hp.2.2.2.2.2.2.2.2.2.2.2.2.1
            have r13 : xv 13 = _ := hp.2.2.2.2.2.2.2.2.2.2.2.2.2.1
            have r14 : xv 14 = _ := hp.2.2.2.2.2.2.2.2.2.2.2.2.2.2.1
            have r15 : xv 15 = _ := hp.2.2.2.2.2.2.2.2.2.2.2.2.2.2.2.1
            have r16 : xv 16 = _ := hp.2.2.2.2.2.2.2.2.2.2.2.2.2.2.2.2.1
            clear hp
            simp only [putD, List.foldl_nil, List.foldl_cons, List.getD_cons_zero, List.getD_cons_succ, Act.put, List.length_cons, List.length_nil, List.range_succ, List.range_zero, List.nil_append, List.cons_append, List.setIfInBounds_toArray, List.set_cons_zero, List.set_cons_succ]
            obtain ⟨c0, f1⟩ := HQ.out W hE
            simp only [r15, r16]
            have hX := Ext.trans (Ext.drew wr) hE
            obtain ⟨hO3, hg3⟩ := HO.out W hX
            rw [show strV (p ++ [s[j]'hlt2]) = Value.string (pb ++ cb) by rw [HNW.out]; rfl] at hO3 hg3
            have HO3 := Lib.hid hO3
            have HG3 := Lib.hid hg3
            have HXX := Lib.hid hX
            clear hO3 hg3 hX
            go_wp2_with fail
            go_roundw
            case rel => exact ⟨j + 1, by omega, by go_num, Lib.hid (by rw [HW.out]; exact HO3.out), Lib.hid (Below.trans (Ext.trans HEr.out HXX.out) (below_rowE HG3.out (Nat.le_trans HSZ.out HXX.out.sz) fun g' e => by simp only [Option.some.injEq] at e; have := HBG.out; omega))⟩
            case measure => simp [intOf]; omega
    · have HT := Lib.hid (take_all s hlt2)
      go_wp2_with fail
      go_ret
      exact ⟨⟨_, rfl, by rw [← HT.out]; exact hO.out⟩, hE.out⟩
end Go.Proofs.YtompfgofaplffaaGreatDoor
